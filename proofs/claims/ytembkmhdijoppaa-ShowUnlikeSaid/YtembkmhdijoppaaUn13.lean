/-
  Part 13: AmK_2 · AmK_3.
-/
import Derived.Test.YtembkmhdijoppaaUn12
set_option linter.unusedSimpArgs false
set_option linter.unusedVariables false
set_option linter.unusedSectionVars false
set_option linter.unnecessarySimpa false
section
namespace Go.Am
open Go.Proofs
set_option linter.unusedSimpArgs false
set_option linter.unusedVariables false
set_option maxRecDepth 100000 in
set_option maxHeartbeats 4000000 in
theorem walk_sheetFunction (g : G) (hg : g.nt = Try.f19.ntmps) (a0_s : Lt.Sheet) (a1_f : Lt.Func) (K : AV → List T → Prop) (KK : (Unit × Lt.Sheet) → Prop) (hKK : ∀ r, KK r → K ((fun _ => .tup []) r.1) (Lt.Sheet.cs.enc r.2)) (h : F_sheetFunction a0_s a1_f KK) :
    AW Try.prog g (Try.f19.body.getD .skip) (retP 0 Try.prog [] K) ⟨entryT 0 [.one (.c (.pl ⟨.out 0, 0, []⟩)), .one ((cA Lt.Func.rw).enc a1_f)], [(.out 0, ⟨true, Lt.Sheet.cs.enc a0_s⟩)]⟩ := by
  have hcs : CT.Ok Try.prog [(16, C_sheetLine), (17, C_sheetVars), (30, C_wordPut), (31, C_sheetCode), (32, C_sheetEnd)] := (CT.cons c_sheetLine (CT.cons c_sheetVars (CT.cons c_wordPut (CT.cons c_sheetCode (CT.cons c_sheetEnd CT.ok0)))))
  have hn : g.nt = 86 := hg
  have hm : Try.prog.follows .mixedOrders = true := by kernel_rfl
  unfold Try.f19
  dsimp only [Option.getD_some]
  unfold F_sheetFunction at h
  apply AW_seq_k
  intro K1 hK1
  have hx := True.intro
  refine rgA [0, 3] [] ?_
  refine stA ?_
  refine enA ?_
  refine hK1 _ ?_
  apply AW_seq_k
  intro K2 hK2
  obtain ⟨ho1, h⟩ := h
  have hx := True.intro
  have hx := useA ho1 hx
  refine rgA [0, 3] [.gh 18] ?_
  iterate 7 refine stA ?_
  refine enA ?_
  refine hK2 _ ?_
  apply AW_seq_k
  intro K3 hK3
  obtain ⟨ho1, h⟩ := h
  have hx := True.intro
  have hx := useA ho1 hx
  refine rgA [0, 3] [] ?_
  iterate 4 refine stA ?_
  refine enA ?_
  refine hK3 _ ?_
  apply AW_seq_k
  intro K4 hK4
  obtain ⟨ho1, h⟩ := h
  have hx := True.intro
  have hx := useA ho1 hx
  refine rgA [0, 3] [] ?_
  iterate 4 refine stA ?_
  refine enA ?_
  refine hK4 _ ?_
  apply AW_seq_k
  intro K5 hK5
  have hx := True.intro
  refine rgA [0, 29, 30, 31] [.loc 3] ?_
  iterate 2 refine stA ?_
  refine stG fun hp => ?_
  refine stA ?_
  refine enA ?_
  have h := h (by assumption)
  refine hK5 _ ?_
  apply AW_block_k
  intro Q6 hN6 hE6 hO6
  obtain ⟨n7, h⟩ := h
  refine AW_loopO [] [0, 29, 30, 31] [] (fun y : Nat × Int × List Lt.Line => ⟨[(0, .one (.c (.pl ⟨.out 0, 0, []⟩))), (29, .one (.c (.d (.li (a1_f.Blocks.map Lt.Block.enc))))), (30, .one (.c (.d (.int .i64 (a1_f.Blocks.length : Int))))), (31, .one (.c (.d (.int .i64 y.2.1))))], [(.out 0, ⟨true, [.ow [.fr, .fr] (y.2.2.map Lt.Line.enc)]⟩)]⟩) (fun y => F_sheetFunction_l1 a1_f KK y.1 y.2.1 y.2.2) (fun y => y.1) (n7, 0, ((Lt.sheetVars ((Lt.sheetVars ((Lt.sheetLine a0_s [[102, 117, 110, 99], a1_f.Name, a1_f.Result]).2) [112, 97, 114, 97, 109] a1_f.Params).2) [118, 97, 114] a1_f.Vars).2).l) ?_ h ?_
  · exact siA
  clear h
  rintro ⟨n7, x1, x2⟩ h K7 hK7
  cases n7 with
  | zero => exact h.elim
  | succ n7 =>
    change F_sheetFunction_l1 a1_f KK (n7 + 1) x1 x2 at h
    unfold F_sheetFunction_l1 at h
    apply AW_seq_k
    intro K8 hK8
    have hx := True.intro
    refine rgA [0, 29, 30, 31, 32] [] ?_
    refine stA ?_
    refine enA ?_
    refine hK8 _ ?_
    apply AW_seq_k
    intro K9 hK9
    refine cdA h rfl (fun h => ?_) (fun h => ?_)
    · apply AW_skip
      refine hK9 _ ?_
      refine AW_joinO [] [0, 29, 30, 31] [] (fun y : List Lt.Line => ⟨[(0, .one (.c (.pl ⟨.out 0, 0, []⟩))), (29, .one (.c (.d (.li (a1_f.Blocks.map Lt.Block.enc))))), (30, .one (.c (.d (.int .i64 (a1_f.Blocks.length : Int))))), (31, .one (.c (.d (.int .i64 x1))))], [(.out 0, ⟨true, [.ow [.fr, .fr] (y.map Lt.Line.enc)]⟩)]⟩) (fun y => F_sheetFunction_j2 x1 (fun y1 y2 => F_sheetFunction_l1 a1_f KK n7 y1 y2) y KK) ?_ ?_
      · apply AW_block_k
        intro Q10 hN10 hE10 hO10
        apply AW_seq_k
        intro K11 hK11
        obtain ⟨ho1, h⟩ := h
        have hx := True.intro
        have hx := getA Lt.Block.enc ho1 hx
        refine rgA [0, 5, 29, 30, 31] [] ?_
        iterate 4 refine stA ?_
        refine enA ?_
        refine hK11 _ ?_
        apply AW_seq_k
        intro K12 hK12
        obtain ⟨ho1, h⟩ := h
        have hx := True.intro
        have hx := useA ho1 hx
        refine rgA [0, 5, 29, 30, 31] [.gh 38] ?_
        iterate 5 refine stA ?_
        refine enA ?_
        refine hK12 _ ?_
        refine AW_joinO [] [0, 5, 29, 30, 31] [] (fun y : List Lt.Line => ⟨[(0, .one (.c (.pl ⟨.out 0, 0, []⟩))), (5, .one (.c (.pl ⟨.loc 5, 0, []⟩))), (29, .one (.c (.d (.li (a1_f.Blocks.map Lt.Block.enc))))), (30, .one (.c (.d (.int .i64 (a1_f.Blocks.length : Int))))), (31, .one (.c (.d (.int .i64 x1))))], [(.out 0, ⟨true, [.ow [.fr, .fr] (y.map Lt.Line.enc)]⟩), (.loc 5, ⟨true, [.d (.str ((a1_f.Blocks.getD x1.toNat default).Name)), .d (.li (((a1_f.Blocks.getD x1.toNat default).Phis).map Lt.Phi.enc)), .d (.li (((a1_f.Blocks.getD x1.toNat default).Code).map Lt.Instr.enc)), .d (.int .i64 (((a1_f.Blocks.getD x1.toNat default).End).Kind)), .d (.int .i64 ((((a1_f.Blocks.getD x1.toNat default).End).A).Kind)), .d (.str ((((a1_f.Blocks.getD x1.toNat default).End).A).S)), .d (.int .i64 ((((a1_f.Blocks.getD x1.toNat default).End).A).N)), .d (.li ((((a1_f.Blocks.getD x1.toNat default).End).To).map rS.enc)), .d (.int .i64 (((a1_f.Blocks.getD x1.toNat default).End).N))]⟩)]⟩) (fun y => F_sheetFunction_j3 a1_f x1 (fun y1 y2 => F_sheetFunction_l1 a1_f KK n7 y1 y2) y KK) ?_ ?_
        · apply AW_seq_k
          intro K21 hK21
          have hx := True.intro
          refine rgA [0, 5, 29, 30, 31, 41, 42, 43] [] ?_
          iterate 2 refine stA ?_
          refine stG fun hp => ?_
          refine stA ?_
          refine enA ?_
          have h := h (by assumption)
          refine hK21 _ ?_
          apply AW_block_k
          intro Q22 hN22 hE22 hO22
          obtain ⟨n23, h⟩ := h
          refine AW_loopO [] [0, 5, 29, 30, 31, 41, 42, 43] [] (fun y : Nat × Int × List Lt.Line => ⟨[(0, .one (.c (.pl ⟨.out 0, 0, []⟩))), (5, .one (.c (.pl ⟨.loc 5, 0, []⟩))), (29, .one (.c (.d (.li (a1_f.Blocks.map Lt.Block.enc))))), (30, .one (.c (.d (.int .i64 (a1_f.Blocks.length : Int))))), (31, .one (.c (.d (.int .i64 x1)))), (41, .one (.c (.d (.li (((a1_f.Blocks.getD x1.toNat default).Phis).map Lt.Phi.enc))))), (42, .one (.c (.d (.int .i64 (((a1_f.Blocks.getD x1.toNat default).Phis).length : Int))))), (43, .one (.c (.d (.int .i64 y.2.1))))], [(.out 0, ⟨true, [.ow [.fr, .fr] (y.2.2.map Lt.Line.enc)]⟩), (.loc 5, ⟨true, [.d (.str ((a1_f.Blocks.getD x1.toNat default).Name)), .d (.li (((a1_f.Blocks.getD x1.toNat default).Phis).map Lt.Phi.enc)), .d (.li (((a1_f.Blocks.getD x1.toNat default).Code).map Lt.Instr.enc)), .d (.int .i64 (((a1_f.Blocks.getD x1.toNat default).End).Kind)), .d (.int .i64 ((((a1_f.Blocks.getD x1.toNat default).End).A).Kind)), .d (.str ((((a1_f.Blocks.getD x1.toNat default).End).A).S)), .d (.int .i64 ((((a1_f.Blocks.getD x1.toNat default).End).A).N)), .d (.li ((((a1_f.Blocks.getD x1.toNat default).End).To).map rS.enc)), .d (.int .i64 (((a1_f.Blocks.getD x1.toNat default).End).N))]⟩)]⟩) (fun y => F_sheetFunction_l6 a1_f x1 (fun y1 y2 => F_sheetFunction_l1 a1_f KK n7 y1 y2) KK y.1 y.2.1 y.2.2) (fun y => y.1) (n23, 0, ((Lt.sheetLine (Lt.Sheet.mk x2) [[98, 108, 111, 99, 107], (a1_f.Blocks.getD x1.toNat default).Name]).2).l) ?_ h ?_
          · exact siA
          clear h
          rintro ⟨n23, x8, x9⟩ h K23 hK23
          cases n23 with
          | zero => exact h.elim
          | succ n23 =>
            change F_sheetFunction_l6 a1_f x1 (fun y1 y2 => F_sheetFunction_l1 a1_f KK n7 y1 y2) KK (n23 + 1) x8 x9 at h
            unfold F_sheetFunction_l6 at h
            apply AW_seq_k
            intro K24 hK24
            have hx := True.intro
            refine rgA [0, 5, 29, 30, 31, 41, 42, 43, 44] [] ?_
            refine stA ?_
            refine enA ?_
            refine hK24 _ ?_
            apply AW_seq_k
            intro K25 hK25
            refine cdA h rfl (fun h => ?_) (fun h => ?_)
            · apply AW_skip
              refine hK25 _ ?_
              refine AW_joinO [] [0, 5, 29, 30, 31, 41, 42, 43] [] (fun y : List Lt.Line => ⟨[(0, .one (.c (.pl ⟨.out 0, 0, []⟩))), (5, .one (.c (.pl ⟨.loc 5, 0, []⟩))), (29, .one (.c (.d (.li (a1_f.Blocks.map Lt.Block.enc))))), (30, .one (.c (.d (.int .i64 (a1_f.Blocks.length : Int))))), (31, .one (.c (.d (.int .i64 x1)))), (41, .one (.c (.d (.li (((a1_f.Blocks.getD x1.toNat default).Phis).map Lt.Phi.enc))))), (42, .one (.c (.d (.int .i64 (((a1_f.Blocks.getD x1.toNat default).Phis).length : Int))))), (43, .one (.c (.d (.int .i64 x8))))], [(.out 0, ⟨true, [.ow [.fr, .fr] (y.map Lt.Line.enc)]⟩), (.loc 5, ⟨true, [.d (.str ((a1_f.Blocks.getD x1.toNat default).Name)), .d (.li (((a1_f.Blocks.getD x1.toNat default).Phis).map Lt.Phi.enc)), .d (.li (((a1_f.Blocks.getD x1.toNat default).Code).map Lt.Instr.enc)), .d (.int .i64 (((a1_f.Blocks.getD x1.toNat default).End).Kind)), .d (.int .i64 ((((a1_f.Blocks.getD x1.toNat default).End).A).Kind)), .d (.str ((((a1_f.Blocks.getD x1.toNat default).End).A).S)), .d (.int .i64 ((((a1_f.Blocks.getD x1.toNat default).End).A).N)), .d (.li ((((a1_f.Blocks.getD x1.toNat default).End).To).map rS.enc)), .d (.int .i64 (((a1_f.Blocks.getD x1.toNat default).End).N))]⟩)]⟩) (fun y => F_sheetFunction_j7 x8 (fun y1 y2 => F_sheetFunction_l6 a1_f x1 (fun y1 y2 => F_sheetFunction_l1 a1_f KK n7 y1 y2) KK n23 y1 y2) y KK) ?_ ?_
              · apply AW_block_k
                intro Q26 hN26 hE26 hO26
                apply AW_seq_k
                intro K27 hK27
                obtain ⟨ho1, h⟩ := h
                have hx := True.intro
                have hx := getA Lt.Phi.enc ho1 hx
                refine rgA [0, 5, 7, 29, 30, 31, 41, 42, 43] [] ?_
                iterate 4 refine stA ?_
                refine enA ?_
                refine hK27 _ ?_
                apply AW_seq_k
                intro K28 hK28
                have hx := True.intro
                refine rgA [0, 5, 7, 8, 29, 30, 31, 41, 42, 43] [] ?_
                iterate 4 refine stA ?_
                refine enA ?_
                refine hK28 _ ?_
                refine AW_joinO [(8, .gh 64, [.fr])] [0, 5, 8, 29, 30, 31, 41, 42, 43] [] (fun y : List (List UInt8) => ⟨[(0, .one (.c (.pl ⟨.out 0, 0, []⟩))), (5, .one (.c (.pl ⟨.loc 5, 0, []⟩))), (8, .one (.c (.rf ⟨.gh 64, 0, []⟩))), (29, .one (.c (.d (.li (a1_f.Blocks.map Lt.Block.enc))))), (30, .one (.c (.d (.int .i64 (a1_f.Blocks.length : Int))))), (31, .one (.c (.d (.int .i64 x1)))), (41, .one (.c (.d (.li (((a1_f.Blocks.getD x1.toNat default).Phis).map Lt.Phi.enc))))), (42, .one (.c (.d (.int .i64 (((a1_f.Blocks.getD x1.toNat default).Phis).length : Int))))), (43, .one (.c (.d (.int .i64 x8))))], [(.gh 64, ⟨false, [.ow [.fr] (y.map rS.enc)]⟩), (.out 0, ⟨true, [.ow [.fr, .fr] (x9.map Lt.Line.enc)]⟩), (.loc 5, ⟨true, [.d (.str ((a1_f.Blocks.getD x1.toNat default).Name)), .d (.li (((a1_f.Blocks.getD x1.toNat default).Phis).map Lt.Phi.enc)), .d (.li (((a1_f.Blocks.getD x1.toNat default).Code).map Lt.Instr.enc)), .d (.int .i64 (((a1_f.Blocks.getD x1.toNat default).End).Kind)), .d (.int .i64 ((((a1_f.Blocks.getD x1.toNat default).End).A).Kind)), .d (.str ((((a1_f.Blocks.getD x1.toNat default).End).A).S)), .d (.int .i64 ((((a1_f.Blocks.getD x1.toNat default).End).A).N)), .d (.li ((((a1_f.Blocks.getD x1.toNat default).End).To).map rS.enc)), .d (.int .i64 (((a1_f.Blocks.getD x1.toNat default).End).N))]⟩)]⟩) (fun y => F_sheetFunction_j8 x8 x9 (fun y1 y2 => F_sheetFunction_l6 a1_f x1 (fun y1 y2 => F_sheetFunction_l1 a1_f KK n7 y1 y2) KK n23 y1 y2) y KK) ?_ ?_
                · apply AW_seq_k
                  intro K29 hK29
                  have hx := True.intro
                  refine rgA [0, 5, 8, 29, 30, 31, 41, 42, 43, 51, 52, 53] [.loc 7] ?_
                  iterate 2 refine stA ?_
                  refine stG fun hp => ?_
                  refine stA ?_
                  refine enA ?_
                  have h := h (by assumption)
                  refine hK29 _ ?_
                  apply AW_block_k
                  intro Q30 hN30 hE30 hO30
                  obtain ⟨n31, h⟩ := h
                  refine AW_loopO [(8, .gh 64, [.fr])] [0, 5, 8, 29, 30, 31, 41, 42, 43, 51, 52, 53] [.gh 49] (fun y : Nat × List (List UInt8) × Int => ⟨[(0, .one (.c (.pl ⟨.out 0, 0, []⟩))), (5, .one (.c (.pl ⟨.loc 5, 0, []⟩))), (8, .one (.c (.rf ⟨.gh 64, 0, []⟩))), (29, .one (.c (.d (.li (a1_f.Blocks.map Lt.Block.enc))))), (30, .one (.c (.d (.int .i64 (a1_f.Blocks.length : Int))))), (31, .one (.c (.d (.int .i64 x1)))), (41, .one (.c (.d (.li (((a1_f.Blocks.getD x1.toNat default).Phis).map Lt.Phi.enc))))), (42, .one (.c (.d (.int .i64 (((a1_f.Blocks.getD x1.toNat default).Phis).length : Int))))), (43, .one (.c (.d (.int .i64 x8)))), (51, .one (.c (.d (.li (((((a1_f.Blocks.getD x1.toNat default).Phis).getD x8.toNat default).Ins).map Lt.In.enc))))), (52, .one (.c (.d (.int .i64 (((((a1_f.Blocks.getD x1.toNat default).Phis).getD x8.toNat default).Ins).length : Int))))), (53, .one (.c (.d (.int .i64 y.2.2))))], [(.gh 64, ⟨false, [.ow [.fr] (y.2.1.map rS.enc)]⟩), (.out 0, ⟨true, [.ow [.fr, .fr] (x9.map Lt.Line.enc)]⟩), (.loc 5, ⟨true, [.d (.str ((a1_f.Blocks.getD x1.toNat default).Name)), .d (.li (((a1_f.Blocks.getD x1.toNat default).Phis).map Lt.Phi.enc)), .d (.li (((a1_f.Blocks.getD x1.toNat default).Code).map Lt.Instr.enc)), .d (.int .i64 (((a1_f.Blocks.getD x1.toNat default).End).Kind)), .d (.int .i64 ((((a1_f.Blocks.getD x1.toNat default).End).A).Kind)), .d (.str ((((a1_f.Blocks.getD x1.toNat default).End).A).S)), .d (.int .i64 ((((a1_f.Blocks.getD x1.toNat default).End).A).N)), .d (.li ((((a1_f.Blocks.getD x1.toNat default).End).To).map rS.enc)), .d (.int .i64 (((a1_f.Blocks.getD x1.toNat default).End).N))]⟩)]⟩) (fun y => F_sheetFunction_l9 a1_f x1 x8 x9 (fun y1 y2 => F_sheetFunction_l6 a1_f x1 (fun y1 y2 => F_sheetFunction_l1 a1_f KK n7 y1 y2) KK n23 y1 y2) KK y.1 y.2.1 y.2.2) (fun y => y.1) (n31, [[112, 104, 105], (((a1_f.Blocks.getD x1.toNat default).Phis).getD x8.toNat default).Dst], 0) ?_ h ?_
                  · exact siA
                  clear h
                  rintro ⟨n31, x12, x13⟩ h K31 hK31
                  cases n31 with
                  | zero => exact h.elim
                  | succ n31 =>
                    change F_sheetFunction_l9 a1_f x1 x8 x9 (fun y1 y2 => F_sheetFunction_l6 a1_f x1 (fun y1 y2 => F_sheetFunction_l1 a1_f KK n7 y1 y2) KK n23 y1 y2) KK (n31 + 1) x12 x13 at h
                    unfold F_sheetFunction_l9 at h
                    apply AW_seq_k
                    intro K32 hK32
                    have hx := True.intro
                    refine rgA [0, 5, 8, 29, 30, 31, 41, 42, 43, 51, 52, 53, 54] [] ?_
                    refine stA ?_
                    refine enA ?_
                    refine hK32 _ ?_
                    apply AW_seq_k
                    intro K33 hK33
                    refine cdA h rfl (fun h => ?_) (fun h => ?_)
                    · apply AW_skip
                      refine hK33 _ ?_
                      apply AW_seq_k
                      intro K34 hK34
                      apply AW_block_k
                      intro Q35 hN35 hE35 hO35
                      apply AW_seq_k
                      intro K36 hK36
                      obtain ⟨ho1, h⟩ := h
                      have hx := True.intro
                      have hx := getA Lt.In.enc ho1 hx
                      refine rgA [0, 5, 8, 10, 29, 30, 31, 41, 42, 43, 51, 52, 53] [] ?_
                      iterate 4 refine stA ?_
                      refine enA ?_
                      refine hK36 _ ?_
                      obtain ⟨ho1, ho2, h⟩ := h
                      have hx := True.intro
                      have hx := useA ho1 hx
                      have hx := useA ho2.1 (useA ho2.2 hx)
                      have hx := And.intro (show x12.map rS.enc ++ [[.str ((((((a1_f.Blocks.getD x1.toNat default).Phis).getD x8.toNat default).Ins).getD x13.toNat default).Block)], [.str (Lt.wordPut ((((((a1_f.Blocks.getD x1.toNat default).Phis).getD x8.toNat default).Ins).getD x13.toNat default).A))]] = ((x12 ++ [(((((a1_f.Blocks.getD x1.toNat default).Phis).getD x8.toNat default).Ins).getD x13.toNat default).Block, (Lt.wordPut ((((((a1_f.Blocks.getD x1.toNat default).Phis).getD x8.toNat default).Ins).getD x13.toNat default).A))])).map rS.enc from by first | rfl | (simp only [List.map_append]; rfl)) hx
                      refine dgT [0, 5, 8, 29, 30, 31, 41, 42, 43, 51, 52, 53] [.gh 63, .loc 10] (⟨[(0, .one (.c (.pl ⟨.out 0, 0, []⟩))), (5, .one (.c (.pl ⟨.loc 5, 0, []⟩))), (8, .one (.c (.rf ⟨.gh 64, 0, []⟩))), (29, .one (.c (.d (.li (a1_f.Blocks.map Lt.Block.enc))))), (30, .one (.c (.d (.int .i64 (a1_f.Blocks.length : Int))))), (31, .one (.c (.d (.int .i64 x1)))), (41, .one (.c (.d (.li (((a1_f.Blocks.getD x1.toNat default).Phis).map Lt.Phi.enc))))), (42, .one (.c (.d (.int .i64 (((a1_f.Blocks.getD x1.toNat default).Phis).length : Int))))), (43, .one (.c (.d (.int .i64 x8)))), (51, .one (.c (.d (.li (((((a1_f.Blocks.getD x1.toNat default).Phis).getD x8.toNat default).Ins).map Lt.In.enc))))), (52, .one (.c (.d (.int .i64 (((((a1_f.Blocks.getD x1.toNat default).Phis).getD x8.toNat default).Ins).length : Int))))), (53, .one (.c (.d (.int .i64 x13))))], [(.gh 64, ⟨false, [.ow [.fr] ((x12 ++ [(((((a1_f.Blocks.getD x1.toNat default).Phis).getD x8.toNat default).Ins).getD x13.toNat default).Block, (Lt.wordPut ((((((a1_f.Blocks.getD x1.toNat default).Phis).getD x8.toNat default).Ins).getD x13.toNat default).A))]).map rS.enc)]⟩), (.out 0, ⟨true, [.ow [.fr, .fr] (x9.map Lt.Line.enc)]⟩), (.loc 5, ⟨true, [.d (.str ((a1_f.Blocks.getD x1.toNat default).Name)), .d (.li (((a1_f.Blocks.getD x1.toNat default).Phis).map Lt.Phi.enc)), .d (.li (((a1_f.Blocks.getD x1.toNat default).Code).map Lt.Instr.enc)), .d (.int .i64 (((a1_f.Blocks.getD x1.toNat default).End).Kind)), .d (.int .i64 ((((a1_f.Blocks.getD x1.toNat default).End).A).Kind)), .d (.str ((((a1_f.Blocks.getD x1.toNat default).End).A).S)), .d (.int .i64 ((((a1_f.Blocks.getD x1.toNat default).End).A).N)), .d (.li ((((a1_f.Blocks.getD x1.toNat default).End).To).map rS.enc)), .d (.int .i64 (((a1_f.Blocks.getD x1.toNat default).End).N))]⟩)]⟩) (True) (.take 0 [] true (.take 1 [] true (.take 3 [] true (.take 4 [5, 6, 7, 8] false (.two 2 (.one 5 (.one 6 (.one 7 (.take 8 [] true (.done))))) 5 (.take 2 [6, 7, 8] false (.one 6 (.one 7 (.take 8 [] true (.done)))))))))) ?_ ?_
                      · iterate 4 refine dtA ?_
                        refine d2A ?_ ?_
                        · iterate 3 refine doA ?_
                          refine dtA ?_
                          exact dlT trivial
                        · refine dtA ?_
                          iterate 2 refine doA ?_
                          refine dtA ?_
                          exact dlT trivial
                      rintro hG0
                      refine hN35 _ ?_
                      refine hK34 _ ?_
                      have hx := True.intro
                      refine rgA [0, 5, 8, 29, 30, 31, 41, 42, 43, 51, 52, 53] [] ?_
                      iterate 2 refine stA ?_
                      refine enA ?_
                      exact hK31 _ (n31, (x12 ++ [(((((a1_f.Blocks.getD x1.toNat default).Phis).getD x8.toNat default).Ins).getD x13.toNat default).Block, (Lt.wordPut ((((((a1_f.Blocks.getD x1.toNat default).Phis).getD x8.toNat default).Ins).getD x13.toNat default).A))]), (IntKind.i64.wrap (x13 + 1))) siA h (Nat.lt_succ_self _)
                    · apply AW_exit
                      refine hE30 _ ?_
                      exact ⟨x12, siA, h⟩
                · rintro x11 h
                  change F_sheetFunction_j8 x8 x9 (fun y1 y2 => F_sheetFunction_l6 a1_f x1 (fun y1 y2 => F_sheetFunction_l1 a1_f KK n7 y1 y2) KK n23 y1 y2) x11 KK at h
                  unfold F_sheetFunction_j8 at h
                  obtain ⟨ho1, h⟩ := h
                  have hx := True.intro
                  have hx := useA ho1 hx
                  refine rgA [0, 5, 29, 30, 31, 41, 42, 43] [.gh 64] ?_
                  iterate 3 refine stA ?_
                  refine enA ?_
                  refine hN26 _ ?_
                  exact ⟨((Lt.sheetLine (Lt.Sheet.mk x9) x11).2).l, siA, h⟩
              · rintro x10 h
                change F_sheetFunction_j7 x8 (fun y1 y2 => F_sheetFunction_l6 a1_f x1 (fun y1 y2 => F_sheetFunction_l1 a1_f KK n7 y1 y2) KK n23 y1 y2) x10 KK at h
                unfold F_sheetFunction_j7 at h
                have hx := True.intro
                refine rgA [0, 5, 29, 30, 31, 41, 42, 43] [] ?_
                iterate 2 refine stA ?_
                refine enA ?_
                exact hK23 _ (n23, (IntKind.i64.wrap (x8 + 1)), x10) siA h (Nat.lt_succ_self _)
            · apply AW_exit
              refine hE22 _ ?_
              exact ⟨x9, siA, h⟩
        · rintro x4 h
          change F_sheetFunction_j3 a1_f x1 (fun y1 y2 => F_sheetFunction_l1 a1_f KK n7 y1 y2) x4 KK at h
          unfold F_sheetFunction_j3 at h
          refine AW_joinO [] [0, 5, 29, 30, 31] [] (fun y : List Lt.Line => ⟨[(0, .one (.c (.pl ⟨.out 0, 0, []⟩))), (5, .one (.c (.pl ⟨.loc 5, 0, []⟩))), (29, .one (.c (.d (.li (a1_f.Blocks.map Lt.Block.enc))))), (30, .one (.c (.d (.int .i64 (a1_f.Blocks.length : Int))))), (31, .one (.c (.d (.int .i64 x1))))], [(.out 0, ⟨true, [.ow [.fr, .fr] (y.map Lt.Line.enc)]⟩), (.loc 5, ⟨true, [.d (.str ((a1_f.Blocks.getD x1.toNat default).Name)), .d (.li (((a1_f.Blocks.getD x1.toNat default).Phis).map Lt.Phi.enc)), .d (.li (((a1_f.Blocks.getD x1.toNat default).Code).map Lt.Instr.enc)), .d (.int .i64 (((a1_f.Blocks.getD x1.toNat default).End).Kind)), .d (.int .i64 ((((a1_f.Blocks.getD x1.toNat default).End).A).Kind)), .d (.str ((((a1_f.Blocks.getD x1.toNat default).End).A).S)), .d (.int .i64 ((((a1_f.Blocks.getD x1.toNat default).End).A).N)), .d (.li ((((a1_f.Blocks.getD x1.toNat default).End).To).map rS.enc)), .d (.int .i64 (((a1_f.Blocks.getD x1.toNat default).End).N))]⟩)]⟩) (fun y => F_sheetFunction_j4 a1_f x1 (fun y1 y2 => F_sheetFunction_l1 a1_f KK n7 y1 y2) y KK) ?_ ?_
          · apply AW_seq_k
            intro K13 hK13
            have hx := True.intro
            refine rgA [0, 5, 29, 30, 31, 71, 72, 73] [] ?_
            iterate 2 refine stA ?_
            refine stG fun hp => ?_
            refine stA ?_
            refine enA ?_
            have h := h (by assumption)
            refine hK13 _ ?_
            apply AW_block_k
            intro Q14 hN14 hE14 hO14
            obtain ⟨n15, h⟩ := h
            refine AW_loopO [] [0, 5, 29, 30, 31, 71, 72, 73] [] (fun y : Nat × Int × List Lt.Line => ⟨[(0, .one (.c (.pl ⟨.out 0, 0, []⟩))), (5, .one (.c (.pl ⟨.loc 5, 0, []⟩))), (29, .one (.c (.d (.li (a1_f.Blocks.map Lt.Block.enc))))), (30, .one (.c (.d (.int .i64 (a1_f.Blocks.length : Int))))), (31, .one (.c (.d (.int .i64 x1)))), (71, .one (.c (.d (.li (((a1_f.Blocks.getD x1.toNat default).Code).map Lt.Instr.enc))))), (72, .one (.c (.d (.int .i64 (((a1_f.Blocks.getD x1.toNat default).Code).length : Int))))), (73, .one (.c (.d (.int .i64 y.2.1))))], [(.out 0, ⟨true, [.ow [.fr, .fr] (y.2.2.map Lt.Line.enc)]⟩), (.loc 5, ⟨true, [.d (.str ((a1_f.Blocks.getD x1.toNat default).Name)), .d (.li (((a1_f.Blocks.getD x1.toNat default).Phis).map Lt.Phi.enc)), .d (.li (((a1_f.Blocks.getD x1.toNat default).Code).map Lt.Instr.enc)), .d (.int .i64 (((a1_f.Blocks.getD x1.toNat default).End).Kind)), .d (.int .i64 ((((a1_f.Blocks.getD x1.toNat default).End).A).Kind)), .d (.str ((((a1_f.Blocks.getD x1.toNat default).End).A).S)), .d (.int .i64 ((((a1_f.Blocks.getD x1.toNat default).End).A).N)), .d (.li ((((a1_f.Blocks.getD x1.toNat default).End).To).map rS.enc)), .d (.int .i64 (((a1_f.Blocks.getD x1.toNat default).End).N))]⟩)]⟩) (fun y => F_sheetFunction_l5 a1_f x1 (fun y1 y2 => F_sheetFunction_l1 a1_f KK n7 y1 y2) KK y.1 y.2.1 y.2.2) (fun y => y.1) (n15, 0, x4) ?_ h ?_
            · exact siA
            clear h
            rintro ⟨n15, x6, x7⟩ h K15 hK15
            cases n15 with
            | zero => exact h.elim
            | succ n15 =>
              change F_sheetFunction_l5 a1_f x1 (fun y1 y2 => F_sheetFunction_l1 a1_f KK n7 y1 y2) KK (n15 + 1) x6 x7 at h
              unfold F_sheetFunction_l5 at h
              apply AW_seq_k
              intro K16 hK16
              have hx := True.intro
              refine rgA [0, 5, 29, 30, 31, 71, 72, 73, 74] [] ?_
              refine stA ?_
              refine enA ?_
              refine hK16 _ ?_
              apply AW_seq_k
              intro K17 hK17
              refine cdA h rfl (fun h => ?_) (fun h => ?_)
              · apply AW_skip
                refine hK17 _ ?_
                apply AW_seq_k
                intro K18 hK18
                apply AW_block_k
                intro Q19 hN19 hE19 hO19
                apply AW_seq_k
                intro K20 hK20
                obtain ⟨ho1, h⟩ := h
                have hx := True.intro
                have hx := getA Lt.Instr.enc ho1 hx
                refine rgA [0, 5, 12, 29, 30, 31, 71, 72, 73] [] ?_
                iterate 4 refine stA ?_
                refine enA ?_
                refine hK20 _ ?_
                obtain ⟨ho1, h⟩ := h
                have hx := True.intro
                have hx := useA ho1 hx
                refine rgA [0, 5, 29, 30, 31, 71, 72, 73] [.loc 12] ?_
                iterate 3 refine stA ?_
                refine enA ?_
                refine hN19 _ ?_
                refine hK18 _ ?_
                have hx := True.intro
                refine rgA [0, 5, 29, 30, 31, 71, 72, 73] [] ?_
                iterate 2 refine stA ?_
                refine enA ?_
                exact hK15 _ (n15, (IntKind.i64.wrap (x6 + 1)), ((Lt.sheetCode (Lt.Sheet.mk x7) (((a1_f.Blocks.getD x1.toNat default).Code).getD x6.toNat default)).2).l) siA h (Nat.lt_succ_self _)
              · apply AW_exit
                refine hE14 _ ?_
                exact ⟨x7, siA, h⟩
          · rintro x5 h
            change F_sheetFunction_j4 a1_f x1 (fun y1 y2 => F_sheetFunction_l1 a1_f KK n7 y1 y2) x5 KK at h
            unfold F_sheetFunction_j4 at h
            obtain ⟨ho1, h⟩ := h
            have hx := True.intro
            have hx := useA ho1 hx
            refine rgA [0, 29, 30, 31] [.loc 5] ?_
            iterate 4 refine stA ?_
            refine enA ?_
            refine hN10 _ ?_
            exact ⟨((Lt.sheetEnd (Lt.Sheet.mk x5) (Lt.Term.mk (((a1_f.Blocks.getD x1.toNat default).End).Kind) (((a1_f.Blocks.getD x1.toNat default).End).A) (((a1_f.Blocks.getD x1.toNat default).End).To) (((a1_f.Blocks.getD x1.toNat default).End).N))).2).l, siA, h⟩
      · rintro x3 h
        change F_sheetFunction_j2 x1 (fun y1 y2 => F_sheetFunction_l1 a1_f KK n7 y1 y2) x3 KK at h
        unfold F_sheetFunction_j2 at h
        have hx := True.intro
        refine rgA [0, 29, 30, 31] [] ?_
        iterate 2 refine stA ?_
        refine enA ?_
        exact hK7 _ (n7, (IntKind.i64.wrap (x1 + 1)), x3) siA h (Nat.lt_succ_self _)
    · apply AW_exit
      refine hE6 _ ?_
      exact fiA (hKK _ h)

def C_sheetFunction : CK1   := ptrC 0 (fp1 Lt.Sheet.cs (cA Lt.Func.rw) (fun _ => .tup []) (Lt.preFunction) Lt.sheetFunction)
theorem c_sheetFunction : Con Try.prog 19 C_sheetFunction :=
  Con_fp1 (c := Lt.Sheet.cs) (fn := Try.f19) (co := Try.f19.body.getD .skip) (by kernel_rfl) (by kernel_rfl) (by kernel_rfl) (by decide +kernel) (fun g a0_s a1_f K hg hp hK => walk_sheetFunction g hg a0_s a1_f K _ (fun _ h => h) (law_sheetFunction a0_s a1_f hp _ hK))
attribute [push_cast] C_sheetFunction

set_option maxRecDepth 100000 in
set_option maxHeartbeats 4000000 in
theorem walk_showText (g : G) (hg : g.nt = Try.f8.ntmps) (a0_p : Lt.Program) (K : AV → Prop) (KK : (List UInt8 × Int) → Prop) (hKK : ∀ r, KK r → K (o2 cS (cI .i64) r) ) (h : F_showText a0_p KK) :
    AW Try.prog g (Try.f8.body.getD .skip) (retQ Try.prog [.tmp 2, .tmp 3] K) ⟨entryT 0 [.one ((cA Lt.Program.rw).enc a0_p)], []⟩ := by
  have hcs : CT.Ok Try.prog [(7, C_showRight), (16, C_sheetLine), (17, C_sheetVars), (18, C_number), (19, C_sheetFunction), (20, C_Join)] := (CT.cons c_showRight (CT.cons c_sheetLine (CT.cons c_sheetVars (CT.cons c_number (CT.cons c_sheetFunction (CT.cons c_Join CT.ok0))))))
  have hn : g.nt = 79 := hg
  have hm : Try.prog.follows .mixedOrders = true := by kernel_rfl
  unfold Try.f8
  dsimp only [Option.getD_some]
  unfold F_showText at h
  apply AW_seq_k
  intro K1 hK1
  have hx := True.intro
  refine rgA [1] [] ?_
  iterate 3 refine stA ?_
  refine enA ?_
  refine hK1 _ ?_
  apply AW_seq_k
  intro K2 hK2
  apply AW_seq_k
  intro K3 hK3
  have hx := True.intro
  refine rgA [1, 14] [] ?_
  iterate 3 refine stA ?_
  refine enA ?_
  refine hK3 _ ?_
  refine cdA h rfl (fun h => ?_) (fun h => ?_)
  · apply AW_seq_k
    intro K4 hK4
    have hx := True.intro
    refine rgA [2, 3] [.loc 1] ?_
    iterate 2 refine stA ?_
    refine enA ?_
    refine hK4 _ ?_
    apply AW_ret
    exact fiA (hKK _ h)
  · apply AW_skip
    refine hK2 _ ?_
    apply AW_seq_k
    intro K5 hK5
    have hx := True.intro
    refine rgA [1, 4] [] ?_
    iterate 3 refine stA ?_
    refine enA ?_
    refine hK5 _ ?_
    refine AW_joinO [(1000000, .loc 16, [.fr, .fr])] [1, 4] [] (fun y : List Lt.Line => ⟨[(1, .one (.c (.pl ⟨.loc 1, 0, []⟩))), (4, .one (.c (.pl ⟨.loc 16, 0, []⟩)))], [(.loc 16, ⟨true, [.ow [.fr, .fr] (y.map Lt.Line.enc)]⟩), (.loc 1, ⟨true, [.d (.bool a0_p.SSA), .d (.li (a0_p.Classes.map Lt.Class.enc)), .d (.li (a0_p.Globals.map Lt.Var.enc)), .d (.li (a0_p.Externs.map Lt.Extern.enc)), .d (.li (a0_p.Funcs.map Lt.Func.enc))]⟩)]⟩) (fun y => F_showText_j1 a0_p y KK) ?_ ?_
    · apply AW_seq_k
      intro K37 hK37
      have hx := True.intro
      refine rgA [1, 4, 18] [] ?_
      iterate 2 refine stA ?_
      refine enA ?_
      refine hK37 _ ?_
      refine cdA h rfl (fun h => ?_) (fun h => ?_)
      · obtain ⟨ho1, h⟩ := h
        have hx := True.intro
        have hx := useA ho1 hx
        refine rgA [1, 4] [.gh 20] ?_
        iterate 3 refine stA ?_
        refine enA ?_
        exact ⟨((Lt.sheetLine (Lt.Sheet.mk []) [[115, 115, 97]]).2).l, siA, h⟩
      · apply AW_skip
        exact ⟨[], siA, h⟩
    · rintro x1 h
      change F_showText_j1 a0_p x1 KK at h
      unfold F_showText_j1 at h
      refine AW_joinO [] [1, 4] [] (fun y : List Lt.Line => ⟨[(1, .one (.c (.pl ⟨.loc 1, 0, []⟩))), (4, .one (.c (.pl ⟨.loc 16, 0, []⟩)))], [(.loc 16, ⟨true, [.ow [.fr, .fr] (y.map Lt.Line.enc)]⟩), (.loc 1, ⟨true, [.d (.bool a0_p.SSA), .d (.li (a0_p.Classes.map Lt.Class.enc)), .d (.li (a0_p.Globals.map Lt.Var.enc)), .d (.li (a0_p.Externs.map Lt.Extern.enc)), .d (.li (a0_p.Funcs.map Lt.Func.enc))]⟩)]⟩) (fun y => F_showText_j2 a0_p y KK) ?_ ?_
      · apply AW_seq_k
        intro K28 hK28
        have hx := True.intro
        refine rgA [1, 4, 23, 24, 25] [] ?_
        iterate 2 refine stA ?_
        refine stG fun hp => ?_
        refine stA ?_
        refine enA ?_
        have h := h (by assumption)
        refine hK28 _ ?_
        apply AW_block_k
        intro Q29 hN29 hE29 hO29
        obtain ⟨n30, h⟩ := h
        refine AW_loopO [] [1, 4, 23, 24, 25] [] (fun y : Nat × Int × List Lt.Line => ⟨[(1, .one (.c (.pl ⟨.loc 1, 0, []⟩))), (4, .one (.c (.pl ⟨.loc 16, 0, []⟩))), (23, .one (.c (.d (.li (a0_p.Classes.map Lt.Class.enc))))), (24, .one (.c (.d (.int .i64 (a0_p.Classes.length : Int))))), (25, .one (.c (.d (.int .i64 y.2.1))))], [(.loc 16, ⟨true, [.ow [.fr, .fr] (y.2.2.map Lt.Line.enc)]⟩), (.loc 1, ⟨true, [.d (.bool a0_p.SSA), .d (.li (a0_p.Classes.map Lt.Class.enc)), .d (.li (a0_p.Globals.map Lt.Var.enc)), .d (.li (a0_p.Externs.map Lt.Extern.enc)), .d (.li (a0_p.Funcs.map Lt.Func.enc))]⟩)]⟩) (fun y => F_showText_l7 a0_p KK y.1 y.2.1 y.2.2) (fun y => y.1) (n30, 0, x1) ?_ h ?_
        · exact siA
        clear h
        rintro ⟨n30, x9, x10⟩ h K30 hK30
        cases n30 with
        | zero => exact h.elim
        | succ n30 =>
          change F_showText_l7 a0_p KK (n30 + 1) x9 x10 at h
          unfold F_showText_l7 at h
          apply AW_seq_k
          intro K31 hK31
          have hx := True.intro
          refine rgA [1, 4, 23, 24, 25, 26] [] ?_
          refine stA ?_
          refine enA ?_
          refine hK31 _ ?_
          apply AW_seq_k
          intro K32 hK32
          refine cdA h rfl (fun h => ?_) (fun h => ?_)
          · apply AW_skip
            refine hK32 _ ?_
            apply AW_seq_k
            intro K33 hK33
            apply AW_block_k
            intro Q34 hN34 hE34 hO34
            apply AW_seq_k
            intro K35 hK35
            obtain ⟨ho1, h⟩ := h
            have hx := True.intro
            have hx := getA Lt.Class.enc ho1 hx
            refine rgA [1, 4, 6, 23, 24, 25] [] ?_
            iterate 4 refine stA ?_
            refine enA ?_
            refine hK35 _ ?_
            apply AW_seq_k
            intro K36 hK36
            obtain ⟨ho1, h⟩ := h
            have hx := True.intro
            have hx := useA ho1 hx
            refine rgA [1, 4, 6, 23, 24, 25] [.gh 32] ?_
            iterate 5 refine stA ?_
            refine enA ?_
            refine hK36 _ ?_
            obtain ⟨ho1, h⟩ := h
            have hx := True.intro
            have hx := useA ho1 hx
            refine rgA [1, 4, 23, 24, 25] [.loc 6] ?_
            iterate 4 refine stA ?_
            refine enA ?_
            refine hN34 _ ?_
            refine hK33 _ ?_
            have hx := True.intro
            refine rgA [1, 4, 23, 24, 25] [] ?_
            iterate 2 refine stA ?_
            refine enA ?_
            exact hK30 _ (n30, (IntKind.i64.wrap (x9 + 1)), ((Lt.sheetVars ((Lt.sheetLine (Lt.Sheet.mk x10) [[99, 108, 97, 115, 115], (a0_p.Classes.getD x9.toNat default).Name]).2) [102, 105, 101, 108, 100] ((a0_p.Classes.getD x9.toNat default).Fields)).2).l) siA h (Nat.lt_succ_self _)
          · apply AW_exit
            refine hE29 _ ?_
            exact ⟨x10, siA, h⟩
      · rintro x2 h
        change F_showText_j2 a0_p x2 KK at h
        unfold F_showText_j2 at h
        apply AW_seq_k
        intro K6 hK6
        obtain ⟨ho1, h⟩ := h
        have hx := True.intro
        have hx := useA ho1 hx
        refine rgA [1, 4] [] ?_
        iterate 4 refine stA ?_
        refine enA ?_
        refine hK6 _ ?_
        refine AW_joinO [] [1, 4] [] (fun y : List Lt.Line => ⟨[(1, .one (.c (.pl ⟨.loc 1, 0, []⟩))), (4, .one (.c (.pl ⟨.loc 16, 0, []⟩)))], [(.loc 16, ⟨true, [.ow [.fr, .fr] (y.map Lt.Line.enc)]⟩), (.loc 1, ⟨true, [.d (.bool a0_p.SSA), .d (.li (a0_p.Classes.map Lt.Class.enc)), .d (.li (a0_p.Globals.map Lt.Var.enc)), .d (.li (a0_p.Externs.map Lt.Extern.enc)), .d (.li (a0_p.Funcs.map Lt.Func.enc))]⟩)]⟩) (fun y => F_showText_j3 a0_p y KK) ?_ ?_
        · apply AW_seq_k
          intro K20 hK20
          have hx := True.intro
          refine rgA [1, 4, 44, 45, 46] [] ?_
          iterate 2 refine stA ?_
          refine stG fun hp => ?_
          refine stA ?_
          refine enA ?_
          have h := h (by assumption)
          refine hK20 _ ?_
          apply AW_block_k
          intro Q21 hN21 hE21 hO21
          obtain ⟨n22, h⟩ := h
          refine AW_loopO [] [1, 4, 44, 45, 46] [] (fun y : Nat × Int × List Lt.Line => ⟨[(1, .one (.c (.pl ⟨.loc 1, 0, []⟩))), (4, .one (.c (.pl ⟨.loc 16, 0, []⟩))), (44, .one (.c (.d (.li (a0_p.Externs.map Lt.Extern.enc))))), (45, .one (.c (.d (.int .i64 (a0_p.Externs.length : Int))))), (46, .one (.c (.d (.int .i64 y.2.1))))], [(.loc 16, ⟨true, [.ow [.fr, .fr] (y.2.2.map Lt.Line.enc)]⟩), (.loc 1, ⟨true, [.d (.bool a0_p.SSA), .d (.li (a0_p.Classes.map Lt.Class.enc)), .d (.li (a0_p.Globals.map Lt.Var.enc)), .d (.li (a0_p.Externs.map Lt.Extern.enc)), .d (.li (a0_p.Funcs.map Lt.Func.enc))]⟩)]⟩) (fun y => F_showText_l6 a0_p KK y.1 y.2.1 y.2.2) (fun y => y.1) (n22, 0, ((Lt.sheetVars (Lt.Sheet.mk x2) [103, 108, 111, 98, 97, 108] a0_p.Globals).2).l) ?_ h ?_
          · exact siA
          clear h
          rintro ⟨n22, x7, x8⟩ h K22 hK22
          cases n22 with
          | zero => exact h.elim
          | succ n22 =>
            change F_showText_l6 a0_p KK (n22 + 1) x7 x8 at h
            unfold F_showText_l6 at h
            apply AW_seq_k
            intro K23 hK23
            have hx := True.intro
            refine rgA [1, 4, 44, 45, 46, 47] [] ?_
            refine stA ?_
            refine enA ?_
            refine hK23 _ ?_
            apply AW_seq_k
            intro K24 hK24
            refine cdA h rfl (fun h => ?_) (fun h => ?_)
            · apply AW_skip
              refine hK24 _ ?_
              apply AW_seq_k
              intro K25 hK25
              apply AW_block_k
              intro Q26 hN26 hE26 hO26
              apply AW_seq_k
              intro K27 hK27
              obtain ⟨ho1, h⟩ := h
              have hx := True.intro
              have hx := getA Lt.Extern.enc ho1 hx
              refine rgA [1, 4, 8, 44, 45, 46] [] ?_
              iterate 4 refine stA ?_
              refine enA ?_
              refine hK27 _ ?_
              obtain ⟨ho1, ho2, h⟩ := h
              have hx := True.intro
              have hx := useA ho1 hx
              have hx := useA ho2 hx
              refine dgT [1, 4, 44, 45, 46] [.gh 56, .loc 8] (⟨[(1, .one (.c (.pl ⟨.loc 1, 0, []⟩))), (4, .one (.c (.pl ⟨.loc 16, 0, []⟩))), (44, .one (.c (.d (.li (a0_p.Externs.map Lt.Extern.enc))))), (45, .one (.c (.d (.int .i64 (a0_p.Externs.length : Int))))), (46, .one (.c (.d (.int .i64 x7))))], [(.loc 16, ⟨true, [.ow [.fr, .fr] ((((Lt.sheetLine (Lt.Sheet.mk x8) [[101, 120, 116, 101, 114, 110], (a0_p.Externs.getD x7.toNat default).Name, (Lt.number ((a0_p.Externs.getD x7.toNat default).N))]).2).l).map Lt.Line.enc)]⟩), (.loc 1, ⟨true, [.d (.bool a0_p.SSA), .d (.li (a0_p.Classes.map Lt.Class.enc)), .d (.li (a0_p.Globals.map Lt.Var.enc)), .d (.li (a0_p.Externs.map Lt.Extern.enc)), .d (.li (a0_p.Funcs.map Lt.Func.enc))]⟩)]⟩) (True) (.take 0 [] true (.take 1 [] true (.take 3 [] true (.take 4 [5, 6, 7] false (.two 2 (.one 5 (.one 6 (.one 7 (.done)))) 5 (.take 2 [6, 7] false (.one 6 (.one 7 (.done))))))))) ?_ ?_
              · iterate 4 refine dtA ?_
                refine d2A ?_ ?_
                · iterate 3 refine doA ?_
                  exact dlT trivial
                · refine dtA ?_
                  iterate 2 refine doA ?_
                  exact dlT trivial
              rintro hG0
              refine hN26 _ ?_
              refine hK25 _ ?_
              have hx := True.intro
              refine rgA [1, 4, 44, 45, 46] [] ?_
              iterate 2 refine stA ?_
              refine enA ?_
              exact hK22 _ (n22, (IntKind.i64.wrap (x7 + 1)), ((Lt.sheetLine (Lt.Sheet.mk x8) [[101, 120, 116, 101, 114, 110], (a0_p.Externs.getD x7.toNat default).Name, (Lt.number ((a0_p.Externs.getD x7.toNat default).N))]).2).l) siA h (Nat.lt_succ_self _)
            · apply AW_exit
              refine hE21 _ ?_
              exact ⟨x8, siA, h⟩
        · rintro x3 h
          change F_showText_j3 a0_p x3 KK at h
          unfold F_showText_j3 at h
          refine AW_joinO [] [4] [] (fun y : List Lt.Line => ⟨[(4, .one (.c (.pl ⟨.loc 16, 0, []⟩)))], [(.loc 16, ⟨true, [.ow [.fr, .fr] (y.map Lt.Line.enc)]⟩)]⟩) (fun y => F_showText_j4 y KK) ?_ ?_
          · apply AW_seq_k
            intro K12 hK12
            have hx := True.intro
            refine rgA [4, 60, 61, 62] [.loc 1] ?_
            iterate 2 refine stA ?_
            refine stG fun hp => ?_
            refine stA ?_
            refine enA ?_
            have h := h (by assumption)
            refine hK12 _ ?_
            apply AW_block_k
            intro Q13 hN13 hE13 hO13
            obtain ⟨n14, h⟩ := h
            refine AW_loopO [] [4, 60, 61, 62] [] (fun y : Nat × Int × List Lt.Line => ⟨[(4, .one (.c (.pl ⟨.loc 16, 0, []⟩))), (60, .one (.c (.d (.li (a0_p.Funcs.map Lt.Func.enc))))), (61, .one (.c (.d (.int .i64 (a0_p.Funcs.length : Int))))), (62, .one (.c (.d (.int .i64 y.2.1))))], [(.loc 16, ⟨true, [.ow [.fr, .fr] (y.2.2.map Lt.Line.enc)]⟩)]⟩) (fun y => F_showText_l5 a0_p KK y.1 y.2.1 y.2.2) (fun y => y.1) (n14, 0, x3) ?_ h ?_
            · exact siA
            clear h
            rintro ⟨n14, x5, x6⟩ h K14 hK14
            cases n14 with
            | zero => exact h.elim
            | succ n14 =>
              change F_showText_l5 a0_p KK (n14 + 1) x5 x6 at h
              unfold F_showText_l5 at h
              apply AW_seq_k
              intro K15 hK15
              have hx := True.intro
              refine rgA [4, 60, 61, 62, 63] [] ?_
              refine stA ?_
              refine enA ?_
              refine hK15 _ ?_
              apply AW_seq_k
              intro K16 hK16
              refine cdA h rfl (fun h => ?_) (fun h => ?_)
              · apply AW_skip
                refine hK16 _ ?_
                apply AW_seq_k
                intro K17 hK17
                apply AW_block_k
                intro Q18 hN18 hE18 hO18
                apply AW_seq_k
                intro K19 hK19
                obtain ⟨ho1, h⟩ := h
                have hx := True.intro
                have hx := getA Lt.Func.enc ho1 hx
                refine rgA [4, 10, 60, 61, 62] [] ?_
                iterate 4 refine stA ?_
                refine enA ?_
                refine hK19 _ ?_
                obtain ⟨ho1, h⟩ := h
                have hx := True.intro
                have hx := useA ho1 hx
                refine rgA [4, 60, 61, 62] [.loc 10] ?_
                iterate 3 refine stA ?_
                refine enA ?_
                refine hN18 _ ?_
                refine hK17 _ ?_
                have hx := True.intro
                refine rgA [4, 60, 61, 62] [] ?_
                iterate 2 refine stA ?_
                refine enA ?_
                exact hK14 _ (n14, (IntKind.i64.wrap (x5 + 1)), ((Lt.sheetFunction (Lt.Sheet.mk x6) (a0_p.Funcs.getD x5.toNat default)).2).l) siA h (Nat.lt_succ_self _)
              · apply AW_exit
                refine hE13 _ ?_
                exact ⟨x6, siA, h⟩
          · rintro x4 h
            change F_showText_j4 x4 KK at h
            unfold F_showText_j4 at h
            apply AW_seq_k
            intro K7 hK7
            obtain ⟨ho1, h⟩ := h
            have hx := True.intro
            have hx := useA ho1 hx
            refine rgA [11] [.loc 16] ?_
            iterate 6 refine stA ?_
            refine enA ?_
            refine hK7 _ ?_
            apply AW_seq_k
            intro K8 hK8
            apply AW_seq_k
            intro K9 hK9
            have hx := True.intro
            refine rgA [11, 77] [] ?_
            refine stA ?_
            refine stG fun hp => ?_
            refine stA ?_
            refine enA ?_
            have h := h (by assumption)
            refine hK9 _ ?_
            refine cdA h rfl (fun h => ?_) (fun h => ?_)
            · apply AW_seq_k
              intro K10 hK10
              have hx := True.intro
              refine rgA [2, 3] [] ?_
              iterate 2 refine stA ?_
              refine enA ?_
              refine hK10 _ ?_
              apply AW_ret
              exact fiA (hKK _ h)
            · apply AW_skip
              refine hK8 _ ?_
              apply AW_seq_k
              intro K11 hK11
              have hx := True.intro
              refine rgA [2, 3] [] ?_
              iterate 3 refine stA ?_
              refine enA ?_
              refine hK11 _ ?_
              apply AW_ret
              exact fiA (hKK _ h)

def C_showText : CK1 := pureC (fn1 (cA Lt.Program.rw) (o2 cS (cI .i64)) (Lt.preText) Lt.showText)
theorem c_showText : Con Try.prog 8 C_showText :=
  Con_fn1 (fn := Try.f8) (c := Try.f8.body.getD .skip) (by kernel_rfl) (by kernel_rfl) (by kernel_rfl) (by decide +kernel) (fun g a0_p K hg hp hK => walk_showText g hg a0_p K _ (fun _ h => h) (law_showText a0_p hp _ hK))
attribute [push_cast] C_showText

set_option maxRecDepth 100000 in
set_option maxHeartbeats 4000000 in
theorem walk_awake (g : G) (hg : g.nt = Try.f5.ntmps) (K : AV → Prop) (KK : (Bool) → Prop) (hKK : ∀ r, KK r → K (o1 cB r) ) (h : F_awake KK) :
    AW Try.prog g (Try.f5.body.getD .skip) (retQ Try.prog [.tmp 0] K) ⟨entryT 0 [], []⟩ := by
  have hcs : CT.Ok Try.prog [(8, C_showText), (10, C_example6)] := (CT.cons c_showText (CT.cons c_example6 CT.ok0))
  have hn : g.nt = 28 := hg
  have hm : Try.prog.follows .mixedOrders = true := by kernel_rfl
  unfold Try.f5
  dsimp only [Option.getD_some]
  unfold F_awake at h
  apply AW_seq_k
  intro K1 hK1
  have hx := True.intro
  refine rgA [] [] ?_
  refine stA ?_
  refine enA ?_
  refine hK1 _ ?_
  apply AW_seq_k
  intro K2 hK2
  obtain ⟨ho1, h⟩ := h
  have hx := True.intro
  have hx := useA ho1 hx
  refine rgA [1, 2] [] ?_
  iterate 9 refine stA ?_
  refine enA ?_
  refine hK2 _ ?_
  apply AW_seq_k
  intro K3 hK3
  obtain ⟨ho1, h⟩ := h
  have hx := True.intro
  have hx := useA ho1 hx
  refine rgA [1, 2, 4] [] ?_
  iterate 8 refine stA ?_
  refine enA ?_
  refine hK3 _ ?_
  apply AW_seq_k
  intro K4 hK4
  have hx := True.intro
  refine rgV [] [] 0 (.one (.c (.d (.bool (((decide ((Lt.showText (Lt.example6 (Lt.Term.mk 3 (Lt.Arg.mk 2 ([] : List UInt8) 5) [] 0))).2 = 0)) && (decide ((Lt.showText (Lt.example6 (Lt.Term.mk 3 (Lt.Arg.mk 2 ([] : List UInt8) 5) [] 0))).1 = [102, 117, 110, 99, 32, 102, 32, 105, 110, 116, 10, 98, 108, 111, 99, 107, 32, 98, 10, 114, 101, 116, 32, 53, 10]))) && (decide ((Lt.showText (Lt.example6 (Lt.Term.mk 0 (Lt.Arg.mk 0 ([] : List UInt8) 0) [] 0))).2 = 1))))))) ?_ ?_
  · clear h
    iterate 3 refine stA ?_
    cases hb : (decide ((Lt.showText (Lt.example6 (Lt.Term.mk 3 (Lt.Arg.mk 2 ([] : List UInt8) 5) [] 0))).2 = 0))
    · have hx := And.intro hb hx
      iterate 8 refine stA ?_
      exact lfA
    · have hx := And.intro hb hx
      iterate 4 refine stA ?_
      cases hb : (decide ((Lt.showText (Lt.example6 (Lt.Term.mk 3 (Lt.Arg.mk 2 ([] : List UInt8) 5) [] 0))).1 = [102, 117, 110, 99, 32, 102, 32, 105, 110, 116, 10, 98, 108, 111, 99, 107, 32, 98, 10, 114, 101, 116, 32, 53, 10]))
      · have hx := And.intro hb hx
        iterate 4 refine stA ?_
        exact lfA
      · have hx := And.intro hb hx
        iterate 4 refine stA ?_
        exact lfA
  · refine hK4 _ ?_
    apply AW_ret
    exact fiA (hKK _ h)

def C_awake : CK1 := pureC (fn0 (o1 cB) Lt.awake)
theorem c_awake : Con Try.prog 5 C_awake :=
  Con_fn0 (fn := Try.f5) (c := Try.f5.body.getD .skip) (by kernel_rfl) (by kernel_rfl) (by kernel_rfl) (fun g  K hg hK => walk_awake g hg  K _ (fun _ h => h) (law_awake  _ hK))
attribute [push_cast] C_awake

set_option maxRecDepth 100000 in
set_option maxHeartbeats 4000000 in
theorem walk_countVars (g : G) (hg : g.nt = Try.f11.ntmps) (a0_l : List Lt.Var) (a1_most : Int) (K : AV → Prop) (KK : (Int) → Prop) (hKK : ∀ r, KK r → K (o1 (cI .i64) r) ) (h : F_countVars a0_l a1_most KK) :
    AW Try.prog g (Try.f11.body.getD .skip) (retQ Try.prog [.tmp 4] K) ⟨entryT 0 [.one ((cL Lt.Var.rw).enc a0_l), .one ((cI .i64).enc a1_most)], []⟩ := by
  have hcs : CT.Ok Try.prog [] := CT.ok0
  have hn : g.nt = 46 := hg
  have hm : Try.prog.follows .mixedOrders = true := by kernel_rfl
  unfold Try.f11
  dsimp only [Option.getD_some]
  unfold F_countVars at h
  apply AW_seq_k
  intro K1 hK1
  have hx := True.intro
  refine rgA [0, 1] [] ?_
  refine stA ?_
  refine enA ?_
  refine hK1 _ ?_
  apply AW_seq_k
  intro K2 hK2
  apply AW_seq_k
  intro K3 hK3
  have hx := True.intro
  refine rgA [0, 1, 10] [] ?_
  refine stA ?_
  refine stG fun hp => ?_
  iterate 2 refine stA ?_
  refine enA ?_
  have h := h (by assumption)
  refine hK3 _ ?_
  refine cdA h rfl (fun h => ?_) (fun h => ?_)
  · apply AW_seq_k
    intro K4 hK4
    have hx := True.intro
    refine rgA [4] [] ?_
    iterate 3 refine stA ?_
    refine enA ?_
    refine hK4 _ ?_
    apply AW_ret
    exact fiA (hKK _ h)
  · apply AW_skip
    refine hK2 _ ?_
    apply AW_seq_k
    intro K5 hK5
    have hx := True.intro
    refine rgA [0, 1, 5] [] ?_
    refine stA ?_
    refine stG fun hp => ?_
    refine stA ?_
    refine enA ?_
    have h := h (by assumption)
    refine hK5 _ ?_
    refine AW_joinO [] [5] [] (fun y : Int => ⟨[(5, .one (.c (.d (.int .i64 y))))], []⟩) (fun y => F_countVars_j1 y KK) ?_ ?_
    · apply AW_seq_k
      intro K7 hK7
      have hx := True.intro
      refine rgA [0, 1, 5, 6] [] ?_
      refine stA ?_
      refine enA ?_
      refine hK7 _ ?_
      apply AW_block_k
      intro Q8 hN8 hE8 hO8
      obtain ⟨n9, h⟩ := h
      refine AW_loopO [] [0, 1, 5, 6] [] (fun y : Nat × Int × Int => ⟨[(0, .one (.c (.d (.li (a0_l.map Lt.Var.enc))))), (1, .one (.c (.d (.int .i64 a1_most)))), (5, .one (.c (.d (.int .i64 y.2.1)))), (6, .one (.c (.d (.int .i64 y.2.2))))], []⟩) (fun y => F_countVars_l2 a0_l a1_most KK y.1 y.2.1 y.2.2) (fun y => y.1) (n9, (a0_l.length : Int), 0) ?_ h ?_
      · exact siA
      clear h
      rintro ⟨n9, x2, x3⟩ h K9 hK9
      cases n9 with
      | zero => exact h.elim
      | succ n9 =>
        change F_countVars_l2 a0_l a1_most KK (n9 + 1) x2 x3 at h
        unfold F_countVars_l2 at h
        apply AW_seq_k
        intro K10 hK10
        apply AW_seq_k
        intro K11 hK11
        have hx := True.intro
        refine rgV [0, 1, 5, 6] [] 23 (.one (.c (.d (.bool ((decide (x3 < (a0_l.length : Int))) && (decide (x2 ≤ a1_most))))))) ?_ ?_
        · clear h
          iterate 5 refine stA ?_
          cases hb : (decide (x3 < (a0_l.length : Int)))
          · have hx := And.intro hb hx
            iterate 4 refine stA ?_
            exact lfA
          · have hx := And.intro hb hx
            iterate 4 refine stA ?_
            exact lfA
        · refine hK11 _ ?_
          refine cdA h rfl (fun h => ?_) (fun h => ?_)
          · apply AW_skip
            refine hK10 _ ?_
            refine AW_joinO [] [0, 1, 5, 6] [] (fun y : Int => ⟨[(0, .one (.c (.d (.li (a0_l.map Lt.Var.enc))))), (1, .one (.c (.d (.int .i64 a1_most)))), (5, .one (.c (.d (.int .i64 y)))), (6, .one (.c (.d (.int .i64 x3))))], []⟩) (fun y => F_countVars_j3 x3 (fun y1 y2 => F_countVars_l2 a0_l a1_most KK n9 y1 y2) y KK) ?_ ?_
            · apply AW_block_k
              intro Q12 hN12 hE12 hO12
              apply AW_seq_k
              intro K13 hK13
              obtain ⟨ho1, h⟩ := h
              have hx := True.intro
              have hx := getA Lt.Var.enc ho1 hx
              refine rgA [0, 1, 5, 6] [] ?_
              iterate 6 refine stA ?_
              refine stG fun hp => ?_
              iterate 2 refine stA ?_
              refine enA ?_
              have h := h (by assumption)
              refine hK13 _ ?_
              apply AW_seq_k
              intro K14 hK14
              have hx := True.intro
              refine rgA [0, 1, 5, 6, 36] [] ?_
              iterate 3 refine stA ?_
              refine enA ?_
              refine hK14 _ ?_
              refine cdA h rfl (fun h => ?_) (fun h => ?_)
              · obtain ⟨ho1, h⟩ := h
                have hx := True.intro
                have hx := getA Lt.Var.enc ho1 hx
                refine rgA [0, 1, 5, 6] [] ?_
                iterate 6 refine stA ?_
                refine stG fun hp => ?_
                iterate 2 refine stA ?_
                refine enA ?_
                have h := h (by assumption)
                refine hN12 _ ?_
                exact ⟨(IntKind.i64.wrap ((IntKind.i64.wrap (x2 + (((a0_l.getD x3.toNat default).Name).length : Int))) + (((a0_l.getD x3.toNat default).Type_).length : Int))), siA, h⟩
              · apply AW_skip
                refine hN12 _ ?_
                exact ⟨(IntKind.i64.wrap (x2 + (((a0_l.getD x3.toNat default).Name).length : Int))), siA, h⟩
            · rintro x4 h
              change F_countVars_j3 x3 (fun y1 y2 => F_countVars_l2 a0_l a1_most KK n9 y1 y2) x4 KK at h
              unfold F_countVars_j3 at h
              have hx := True.intro
              refine rgA [0, 1, 5, 6] [] ?_
              iterate 3 refine stA ?_
              refine enA ?_
              exact hK9 _ (n9, x4, (IntKind.i64.wrap (x3 + 1))) siA h (Nat.lt_succ_self _)
          · apply AW_exit
            refine hE8 _ ?_
            exact ⟨x2, siA, h⟩
    · rintro x1 h
      change F_countVars_j1 x1 KK at h
      unfold F_countVars_j1 at h
      apply AW_seq_k
      intro K6 hK6
      have hx := True.intro
      refine rgA [4] [] ?_
      iterate 2 refine stA ?_
      refine enA ?_
      refine hK6 _ ?_
      apply AW_ret
      exact fiA (hKK _ h)

def C_countVars : CK1 := pureC (fn2 (cL Lt.Var.rw) (cI .i64) (o1 (cI .i64)) (fun _ _ => True) Lt.countVars)
theorem c_countVars : Con Try.prog 11 C_countVars :=
  Con_fn2 (fn := Try.f11) (c := Try.f11.body.getD .skip) (by kernel_rfl) (by kernel_rfl) (by kernel_rfl) (by decide +kernel) (fun g a0_l a1_most K hg hp hK => walk_countVars g hg a0_l a1_most K _ (fun _ h => h) (law_countVars a0_l a1_most _ hK))
attribute [push_cast] C_countVars

set_option maxRecDepth 100000 in
set_option maxHeartbeats 4000000 in
theorem walk_countArgs (g : G) (hg : g.nt = Try.f48.ntmps) (a0_l : List Lt.Arg) (a1_most : Int) (K : AV → Prop) (KK : (Int) → Prop) (hKK : ∀ r, KK r → K (o1 (cI .i64) r) ) (h : F_countArgs a0_l a1_most KK) :
    AW Try.prog g (Try.f48.body.getD .skip) (retQ Try.prog [.tmp 4] K) ⟨entryT 0 [.one ((cL Lt.Arg.rw).enc a0_l), .one ((cI .i64).enc a1_most)], []⟩ := by
  have hcs : CT.Ok Try.prog [] := CT.ok0
  have hn : g.nt = 35 := hg
  have hm : Try.prog.follows .mixedOrders = true := by kernel_rfl
  unfold Try.f48
  dsimp only [Option.getD_some]
  unfold F_countArgs at h
  apply AW_seq_k
  intro K1 hK1
  have hx := True.intro
  refine rgA [0, 1] [] ?_
  refine stA ?_
  refine enA ?_
  refine hK1 _ ?_
  apply AW_seq_k
  intro K2 hK2
  apply AW_seq_k
  intro K3 hK3
  have hx := True.intro
  refine rgA [0, 1, 10] [] ?_
  refine stA ?_
  refine stG fun hp => ?_
  iterate 2 refine stA ?_
  refine enA ?_
  have h := h (by assumption)
  refine hK3 _ ?_
  refine cdA h rfl (fun h => ?_) (fun h => ?_)
  · apply AW_seq_k
    intro K4 hK4
    have hx := True.intro
    refine rgA [4] [] ?_
    iterate 3 refine stA ?_
    refine enA ?_
    refine hK4 _ ?_
    apply AW_ret
    exact fiA (hKK _ h)
  · apply AW_skip
    refine hK2 _ ?_
    apply AW_seq_k
    intro K5 hK5
    have hx := True.intro
    refine rgA [0, 1, 5] [] ?_
    refine stA ?_
    refine stG fun hp => ?_
    refine stA ?_
    refine enA ?_
    have h := h (by assumption)
    refine hK5 _ ?_
    refine AW_joinO [] [5] [] (fun y : Int => ⟨[(5, .one (.c (.d (.int .i64 y))))], []⟩) (fun y => F_countArgs_j1 y KK) ?_ ?_
    · apply AW_seq_k
      intro K7 hK7
      have hx := True.intro
      refine rgA [0, 1, 5, 6] [] ?_
      refine stA ?_
      refine enA ?_
      refine hK7 _ ?_
      apply AW_block_k
      intro Q8 hN8 hE8 hO8
      obtain ⟨n9, h⟩ := h
      refine AW_loopO [] [0, 1, 5, 6] [] (fun y : Nat × Int × Int => ⟨[(0, .one (.c (.d (.li (a0_l.map Lt.Arg.enc))))), (1, .one (.c (.d (.int .i64 a1_most)))), (5, .one (.c (.d (.int .i64 y.2.1)))), (6, .one (.c (.d (.int .i64 y.2.2))))], []⟩) (fun y => F_countArgs_l2 a0_l a1_most KK y.1 y.2.1 y.2.2) (fun y => y.1) (n9, (a0_l.length : Int), 0) ?_ h ?_
      · exact siA
      clear h
      rintro ⟨n9, x2, x3⟩ h K9 hK9
      cases n9 with
      | zero => exact h.elim
      | succ n9 =>
        change F_countArgs_l2 a0_l a1_most KK (n9 + 1) x2 x3 at h
        unfold F_countArgs_l2 at h
        apply AW_seq_k
        intro K10 hK10
        apply AW_seq_k
        intro K11 hK11
        have hx := True.intro
        refine rgV [0, 1, 5, 6] [] 23 (.one (.c (.d (.bool ((decide (x3 < (a0_l.length : Int))) && (decide (x2 ≤ a1_most))))))) ?_ ?_
        · clear h
          iterate 5 refine stA ?_
          cases hb : (decide (x3 < (a0_l.length : Int)))
          · have hx := And.intro hb hx
            iterate 4 refine stA ?_
            exact lfA
          · have hx := And.intro hb hx
            iterate 4 refine stA ?_
            exact lfA
        · refine hK11 _ ?_
          refine cdA h rfl (fun h => ?_) (fun h => ?_)
          · apply AW_skip
            refine hK10 _ ?_
            apply AW_seq_k
            intro K12 hK12
            apply AW_block_k
            intro Q13 hN13 hE13 hO13
            obtain ⟨ho1, h⟩ := h
            have hx := True.intro
            have hx := getA Lt.Arg.enc ho1 hx
            refine rgA [0, 1, 5, 6] [] ?_
            iterate 6 refine stA ?_
            refine stG fun hp => ?_
            iterate 2 refine stA ?_
            refine enA ?_
            have h := h (by assumption)
            refine hN13 _ ?_
            refine hK12 _ ?_
            have hx := True.intro
            refine rgA [0, 1, 5, 6] [] ?_
            iterate 3 refine stA ?_
            refine enA ?_
            exact hK9 _ (n9, (IntKind.i64.wrap (x2 + (((a0_l.getD x3.toNat default).S).length : Int))), (IntKind.i64.wrap (x3 + 1))) siA h (Nat.lt_succ_self _)
          · apply AW_exit
            refine hE8 _ ?_
            exact ⟨x2, siA, h⟩
    · rintro x1 h
      change F_countArgs_j1 x1 KK at h
      unfold F_countArgs_j1 at h
      apply AW_seq_k
      intro K6 hK6
      have hx := True.intro
      refine rgA [4] [] ?_
      iterate 2 refine stA ?_
      refine enA ?_
      refine hK6 _ ?_
      apply AW_ret
      exact fiA (hKK _ h)

def C_countArgs : CK1 := pureC (fn2 (cL Lt.Arg.rw) (cI .i64) (o1 (cI .i64)) (fun _ _ => True) Lt.countArgs)
theorem c_countArgs : Con Try.prog 48 C_countArgs :=
  Con_fn2 (fn := Try.f48) (c := Try.f48.body.getD .skip) (by kernel_rfl) (by kernel_rfl) (by kernel_rfl) (by decide +kernel) (fun g a0_l a1_most K hg hp hK => walk_countArgs g hg a0_l a1_most K _ (fun _ h => h) (law_countArgs a0_l a1_most _ hK))
attribute [push_cast] C_countArgs

set_option maxRecDepth 100000 in
set_option maxHeartbeats 4000000 in
theorem walk_countInstr (g : G) (hg : g.nt = Try.f37.ntmps) (a0_x : Lt.Instr) (a1_most : Int) (K : AV → Prop) (KK : (Int) → Prop) (hKK : ∀ r, KK r → K (o1 (cI .i64) r) ) (h : F_countInstr a0_x a1_most KK) :
    AW Try.prog g (Try.f37.body.getD .skip) (retQ Try.prog [.tmp 4] K) ⟨entryT 0 [.one ((cA Lt.Instr.rw).enc a0_x), .one ((cI .i64).enc a1_most)], []⟩ := by
  have hcs : CT.Ok Try.prog [(48, C_countArgs)] := (CT.cons c_countArgs CT.ok0)
  have hn : g.nt = 167 := hg
  have hm : Try.prog.follows .mixedOrders = true := by kernel_rfl
  unfold Try.f37
  dsimp only [Option.getD_some]
  unfold F_countInstr at h
  apply AW_seq_k
  intro K1 hK1
  have hx := True.intro
  refine rgA [1, 2] [] ?_
  iterate 2 refine stA ?_
  refine enA ?_
  refine hK1 _ ?_
  apply AW_seq_k
  intro K2 hK2
  apply AW_seq_k
  intro K3 hK3
  have hx := True.intro
  refine rgV [1, 2] [] 20 (.one (.c (.d (.bool ((decide (a1_most < (a0_x.Frames.length : Int))) || (decide (a1_most < (a0_x.Objs.length : Int)))))))) ?_ ?_
  · clear h
    iterate 6 refine stA ?_
    cases hb : (decide (a1_most < (a0_x.Frames.length : Int)))
    · have hx := And.intro hb hx
      iterate 6 refine stA ?_
      exact lfA
    · have hx := And.intro hb hx
      iterate 6 refine stA ?_
      exact lfA
  · refine hK3 _ ?_
    refine cdA h rfl (fun h => ?_) (fun h => ?_)
    · apply AW_seq_k
      intro K4 hK4
      have hx := True.intro
      refine rgA [4] [.loc 2] ?_
      iterate 3 refine stA ?_
      refine enA ?_
      refine hK4 _ ?_
      apply AW_ret
      exact fiA (hKK _ h)
    · apply AW_skip
      refine hK2 _ ?_
      apply AW_seq_k
      intro K5 hK5
      have hx := True.intro
      refine rgA [1, 2, 5] [] ?_
      iterate 2 refine stA ?_
      refine stG fun hp => ?_
      iterate 3 refine stA ?_
      refine stG fun hp => ?_
      iterate 3 refine stA ?_
      refine stG fun hp => ?_
      iterate 2 refine stA ?_
      refine enA ?_
      have h := h (by assumption)
      have h := h (by assumption)
      have h := h (by assumption)
      refine hK5 _ ?_
      refine AW_joinO [] [1, 2, 5] [] (fun y : Int => ⟨[(1, .one (.c (.d (.int .i64 a1_most)))), (2, .one (.c (.pl ⟨.loc 2, 0, []⟩))), (5, .one (.c (.d (.int .i64 y))))], [(.loc 2, ⟨true, [.d (.int .i64 a0_x.Op), .d (.str a0_x.Dst), .d (.str a0_x.Name), .d (.li (a0_x.Args.map Lt.Arg.enc)), .d (.li (a0_x.Frames.map Lt.Frame.enc)), .d (.li (a0_x.Objs.map Lt.Virt.enc))]⟩)]⟩) (fun y => F_countInstr_j1 a0_x a1_most y KK) ?_ ?_
      · apply AW_seq_k
        intro K32 hK32
        have hx := True.intro
        refine rgA [1, 2, 5, 37] [] ?_
        iterate 3 refine stA ?_
        refine enA ?_
        refine hK32 _ ?_
        refine cdA h rfl (fun h => ?_) (fun h => ?_)
        · have hx := True.intro
          refine rgA [1, 2, 5] [] ?_
          iterate 3 refine stA ?_
          refine stG fun hp => ?_
          iterate 2 refine stA ?_
          refine enA ?_
          have h := h (by assumption)
          exact ⟨(IntKind.i64.wrap ((IntKind.i64.wrap ((IntKind.i64.wrap ((IntKind.i64.wrap (1 + (a0_x.Dst.length : Int))) + (a0_x.Frames.length : Int))) + (a0_x.Objs.length : Int))) + (a0_x.Name.length : Int))), siA, h⟩
        · apply AW_skip
          exact ⟨(IntKind.i64.wrap ((IntKind.i64.wrap ((IntKind.i64.wrap (1 + (a0_x.Dst.length : Int))) + (a0_x.Frames.length : Int))) + (a0_x.Objs.length : Int))), siA, h⟩
      · rintro x1 h
        change F_countInstr_j1 a0_x a1_most x1 KK at h
        unfold F_countInstr_j1 at h
        refine AW_joinO [] [1, 2, 5] [] (fun y : Int => ⟨[(1, .one (.c (.d (.int .i64 a1_most)))), (2, .one (.c (.pl ⟨.loc 2, 0, []⟩))), (5, .one (.c (.d (.int .i64 y))))], [(.loc 2, ⟨true, [.d (.int .i64 a0_x.Op), .d (.str a0_x.Dst), .d (.str a0_x.Name), .d (.li (a0_x.Args.map Lt.Arg.enc)), .d (.li (a0_x.Frames.map Lt.Frame.enc)), .d (.li (a0_x.Objs.map Lt.Virt.enc))]⟩)]⟩) (fun y => F_countInstr_j2 a0_x a1_most y KK) ?_ ?_
        · apply AW_seq_k
          intro K31 hK31
          have hx := True.intro
          refine rgA [1, 2, 5, 45] [] ?_
          iterate 3 refine stA ?_
          refine enA ?_
          refine hK31 _ ?_
          refine cdA h rfl (fun h => ?_) (fun h => ?_)
          · have hx := True.intro
            refine rgA [1, 2, 5] [] ?_
            iterate 7 refine stA ?_
            refine enA ?_
            exact ⟨(IntKind.i64.wrap (x1 + (Lt.countArgs a0_x.Args a1_most))), siA, h⟩
          · apply AW_skip
            exact ⟨x1, siA, h⟩
        · rintro x2 h
          change F_countInstr_j2 a0_x a1_most x2 KK at h
          unfold F_countInstr_j2 at h
          refine AW_joinO [] [1, 2, 5] [] (fun y : Int => ⟨[(1, .one (.c (.d (.int .i64 a1_most)))), (2, .one (.c (.pl ⟨.loc 2, 0, []⟩))), (5, .one (.c (.d (.int .i64 y))))], [(.loc 2, ⟨true, [.d (.int .i64 a0_x.Op), .d (.str a0_x.Dst), .d (.str a0_x.Name), .d (.li (a0_x.Args.map Lt.Arg.enc)), .d (.li (a0_x.Frames.map Lt.Frame.enc)), .d (.li (a0_x.Objs.map Lt.Virt.enc))]⟩)]⟩) (fun y => F_countInstr_j3 a0_x a1_most y KK) ?_ ?_
          · apply AW_seq_k
            intro K15 hK15
            have hx := True.intro
            refine rgA [1, 2, 5, 6] [] ?_
            refine stA ?_
            refine enA ?_
            refine hK15 _ ?_
            apply AW_block_k
            intro Q16 hN16 hE16 hO16
            obtain ⟨n17, h⟩ := h
            refine AW_loopO [] [1, 2, 5, 6] [] (fun y : Nat × Int × Int => ⟨[(1, .one (.c (.d (.int .i64 a1_most)))), (2, .one (.c (.pl ⟨.loc 2, 0, []⟩))), (5, .one (.c (.d (.int .i64 y.2.1)))), (6, .one (.c (.d (.int .i64 y.2.2))))], [(.loc 2, ⟨true, [.d (.int .i64 a0_x.Op), .d (.str a0_x.Dst), .d (.str a0_x.Name), .d (.li (a0_x.Args.map Lt.Arg.enc)), .d (.li (a0_x.Frames.map Lt.Frame.enc)), .d (.li (a0_x.Objs.map Lt.Virt.enc))]⟩)]⟩) (fun y => F_countInstr_l7 a0_x a1_most KK y.1 y.2.1 y.2.2) (fun y => y.1) (n17, x2, 0) ?_ h ?_
            · exact siA
            clear h
            rintro ⟨n17, x8, x9⟩ h K17 hK17
            cases n17 with
            | zero => exact h.elim
            | succ n17 =>
              change F_countInstr_l7 a0_x a1_most KK (n17 + 1) x8 x9 at h
              unfold F_countInstr_l7 at h
              apply AW_seq_k
              intro K18 hK18
              apply AW_seq_k
              intro K19 hK19
              have hx := True.intro
              refine rgV [1, 2, 5, 6] [] 61 (.one (.c (.d (.bool ((decide (x9 < (a0_x.Frames.length : Int))) && (decide (x8 ≤ a1_most))))))) ?_ ?_
              · clear h
                iterate 6 refine stA ?_
                cases hb : (decide (x9 < (a0_x.Frames.length : Int)))
                · have hx := And.intro hb hx
                  iterate 4 refine stA ?_
                  exact lfA
                · have hx := And.intro hb hx
                  iterate 4 refine stA ?_
                  exact lfA
              · refine hK19 _ ?_
                refine cdA h rfl (fun h => ?_) (fun h => ?_)
                · apply AW_skip
                  refine hK18 _ ?_
                  refine AW_joinO [] [1, 2, 5, 6] [] (fun y : Int => ⟨[(1, .one (.c (.d (.int .i64 a1_most)))), (2, .one (.c (.pl ⟨.loc 2, 0, []⟩))), (5, .one (.c (.d (.int .i64 y)))), (6, .one (.c (.d (.int .i64 x9))))], [(.loc 2, ⟨true, [.d (.int .i64 a0_x.Op), .d (.str a0_x.Dst), .d (.str a0_x.Name), .d (.li (a0_x.Args.map Lt.Arg.enc)), .d (.li (a0_x.Frames.map Lt.Frame.enc)), .d (.li (a0_x.Objs.map Lt.Virt.enc))]⟩)]⟩) (fun y => F_countInstr_j8 x9 (fun y1 y2 => F_countInstr_l7 a0_x a1_most KK n17 y1 y2) y KK) ?_ ?_
                  · apply AW_block_k
                    intro Q20 hN20 hE20 hO20
                    apply AW_seq_k
                    intro K21 hK21
                    obtain ⟨ho1, h⟩ := h
                    have hx := True.intro
                    have hx := getA Lt.Frame.enc ho1 hx
                    refine rgA [1, 2, 5, 6] [] ?_
                    iterate 7 refine stA ?_
                    refine stG fun hp => ?_
                    iterate 2 refine stA ?_
                    refine enA ?_
                    have h := h (by assumption)
                    refine hK21 _ ?_
                    refine AW_joinO [] [1, 2, 5, 6] [] (fun y : Int => ⟨[(1, .one (.c (.d (.int .i64 a1_most)))), (2, .one (.c (.pl ⟨.loc 2, 0, []⟩))), (5, .one (.c (.d (.int .i64 y)))), (6, .one (.c (.d (.int .i64 x9))))], [(.loc 2, ⟨true, [.d (.int .i64 a0_x.Op), .d (.str a0_x.Dst), .d (.str a0_x.Name), .d (.li (a0_x.Args.map Lt.Arg.enc)), .d (.li (a0_x.Frames.map Lt.Frame.enc)), .d (.li (a0_x.Objs.map Lt.Virt.enc))]⟩)]⟩) (fun y => F_countInstr_j9 a0_x a1_most x9 (fun y1 y2 => F_countInstr_l7 a0_x a1_most KK n17 y1 y2) y KK) ?_ ?_
                    · apply AW_seq_k
                      intro K30 hK30
                      have hx := True.intro
                      refine rgA [1, 2, 5, 6, 75] [] ?_
                      iterate 3 refine stA ?_
                      refine enA ?_
                      refine hK30 _ ?_
                      refine cdA h rfl (fun h => ?_) (fun h => ?_)
                      · obtain ⟨ho1, h⟩ := h
                        have hx := True.intro
                        have hx := getA Lt.Frame.enc ho1 hx
                        refine rgA [1, 2, 5, 6] [] ?_
                        iterate 7 refine stA ?_
                        refine stG fun hp => ?_
                        iterate 2 refine stA ?_
                        refine enA ?_
                        have h := h (by assumption)
                        exact ⟨(IntKind.i64.wrap ((IntKind.i64.wrap (x8 + (((a0_x.Frames.getD x9.toNat default).Func).length : Int))) + (((a0_x.Frames.getD x9.toNat default).Block).length : Int))), siA, h⟩
                      · apply AW_skip
                        exact ⟨(IntKind.i64.wrap (x8 + (((a0_x.Frames.getD x9.toNat default).Func).length : Int))), siA, h⟩
                    · rintro x11 h
                      change F_countInstr_j9 a0_x a1_most x9 (fun y1 y2 => F_countInstr_l7 a0_x a1_most KK n17 y1 y2) x11 KK at h
                      unfold F_countInstr_j9 at h
                      apply AW_seq_k
                      intro K22 hK22
                      have hx := True.intro
                      refine rgA [1, 2, 5, 6, 7] [] ?_
                      refine stA ?_
                      refine enA ?_
                      refine hK22 _ ?_
                      apply AW_block_k
                      intro Q23 hN23 hE23 hO23
                      obtain ⟨n24, h⟩ := h
                      refine AW_loopO [] [1, 2, 5, 6, 7] [] (fun y : Nat × Int × Int => ⟨[(1, .one (.c (.d (.int .i64 a1_most)))), (2, .one (.c (.pl ⟨.loc 2, 0, []⟩))), (5, .one (.c (.d (.int .i64 y.2.1)))), (6, .one (.c (.d (.int .i64 x9)))), (7, .one (.c (.d (.int .i64 y.2.2))))], [(.loc 2, ⟨true, [.d (.int .i64 a0_x.Op), .d (.str a0_x.Dst), .d (.str a0_x.Name), .d (.li (a0_x.Args.map Lt.Arg.enc)), .d (.li (a0_x.Frames.map Lt.Frame.enc)), .d (.li (a0_x.Objs.map Lt.Virt.enc))]⟩)]⟩) (fun y => F_countInstr_l10 a0_x a1_most x9 (fun y1 y2 => F_countInstr_l7 a0_x a1_most KK n17 y1 y2) KK y.1 y.2.1 y.2.2) (fun y => y.1) (n24, x11, 0) ?_ h ?_
                      · exact siA
                      clear h
                      rintro ⟨n24, x12, x13⟩ h K24 hK24
                      cases n24 with
                      | zero => exact h.elim
                      | succ n24 =>
                        change F_countInstr_l10 a0_x a1_most x9 (fun y1 y2 => F_countInstr_l7 a0_x a1_most KK n17 y1 y2) KK (n24 + 1) x12 x13 at h
                        unfold F_countInstr_l10 at h
                        apply AW_seq_k
                        intro K25 hK25
                        apply AW_seq_k
                        intro K26 hK26
                        obtain ⟨ho1, h⟩ := h
                        have hx := True.intro
                        have hx := getA Lt.Frame.enc ho1 hx
                        refine rgV [1, 2, 5, 6, 7] [] 98 (.one (.c (.d (.bool ((decide (x13 < (((a0_x.Frames.getD x9.toNat default).Vars).length : Int))) && (decide (x12 ≤ a1_most))))))) ?_ ?_
                        · clear h
                          iterate 10 refine stA ?_
                          cases hb : (decide (x13 < (((a0_x.Frames.getD x9.toNat default).Vars).length : Int)))
                          · have hx := And.intro hb hx
                            iterate 4 refine stA ?_
                            exact lfA
                          · have hx := And.intro hb hx
                            iterate 4 refine stA ?_
                            exact lfA
                        · refine hK26 _ ?_
                          refine cdA h rfl (fun h => ?_) (fun h => ?_)
                          · apply AW_skip
                            refine hK25 _ ?_
                            refine AW_joinO [] [1, 2, 5, 6, 7] [] (fun y : Int => ⟨[(1, .one (.c (.d (.int .i64 a1_most)))), (2, .one (.c (.pl ⟨.loc 2, 0, []⟩))), (5, .one (.c (.d (.int .i64 y)))), (6, .one (.c (.d (.int .i64 x9)))), (7, .one (.c (.d (.int .i64 x13))))], [(.loc 2, ⟨true, [.d (.int .i64 a0_x.Op), .d (.str a0_x.Dst), .d (.str a0_x.Name), .d (.li (a0_x.Args.map Lt.Arg.enc)), .d (.li (a0_x.Frames.map Lt.Frame.enc)), .d (.li (a0_x.Objs.map Lt.Virt.enc))]⟩)]⟩) (fun y => F_countInstr_j11 x13 (fun y1 y2 => F_countInstr_l10 a0_x a1_most x9 (fun y1 y2 => F_countInstr_l7 a0_x a1_most KK n17 y1 y2) KK n24 y1 y2) y KK) ?_ ?_
                            · apply AW_block_k
                              intro Q27 hN27 hE27 hO27
                              apply AW_seq_k
                              intro K28 hK28
                              obtain ⟨ho1, ho2, h⟩ := h
                              have hx := True.intro
                              have hx := getA Lt.Frame.enc ho1 hx
                              have hx := getA Lt.Bind.enc ho2 hx
                              refine rgA [1, 2, 5, 6, 7] [] ?_
                              iterate 12 refine stA ?_
                              refine stG fun hp => ?_
                              iterate 2 refine stA ?_
                              refine enA ?_
                              have h := h (by assumption)
                              refine hK28 _ ?_
                              apply AW_seq_k
                              intro K29 hK29
                              have hx := True.intro
                              refine rgA [1, 2, 5, 6, 7, 117] [] ?_
                              iterate 3 refine stA ?_
                              refine enA ?_
                              refine hK29 _ ?_
                              refine cdA h rfl (fun h => ?_) (fun h => ?_)
                              · obtain ⟨ho1, ho2, h⟩ := h
                                have hx := True.intro
                                have hx := getA Lt.Frame.enc ho1 hx
                                have hx := getA Lt.Bind.enc ho2 hx
                                refine rgA [1, 2, 5, 6, 7] [] ?_
                                iterate 12 refine stA ?_
                                refine stG fun hp => ?_
                                iterate 2 refine stA ?_
                                refine enA ?_
                                have h := h (by assumption)
                                refine hN27 _ ?_
                                exact ⟨(IntKind.i64.wrap ((IntKind.i64.wrap ((IntKind.i64.wrap (x12 + 1)) + (((((a0_x.Frames.getD x9.toNat default).Vars).getD x13.toNat default).Name).length : Int))) + ((((((a0_x.Frames.getD x9.toNat default).Vars).getD x13.toNat default).A).S).length : Int))), siA, h⟩
                              · apply AW_skip
                                refine hN27 _ ?_
                                exact ⟨(IntKind.i64.wrap ((IntKind.i64.wrap (x12 + 1)) + (((((a0_x.Frames.getD x9.toNat default).Vars).getD x13.toNat default).Name).length : Int))), siA, h⟩
                            · rintro x14 h
                              change F_countInstr_j11 x13 (fun y1 y2 => F_countInstr_l10 a0_x a1_most x9 (fun y1 y2 => F_countInstr_l7 a0_x a1_most KK n17 y1 y2) KK n24 y1 y2) x14 KK at h
                              unfold F_countInstr_j11 at h
                              have hx := True.intro
                              refine rgA [1, 2, 5, 6, 7] [] ?_
                              iterate 3 refine stA ?_
                              refine enA ?_
                              exact hK24 _ (n24, x14, (IntKind.i64.wrap (x13 + 1))) siA h (Nat.lt_succ_self _)
                          · apply AW_exit
                            refine hE23 _ ?_
                            refine hN20 _ ?_
                            exact ⟨x12, siA, h⟩
                  · rintro x10 h
                    change F_countInstr_j8 x9 (fun y1 y2 => F_countInstr_l7 a0_x a1_most KK n17 y1 y2) x10 KK at h
                    unfold F_countInstr_j8 at h
                    have hx := True.intro
                    refine rgA [1, 2, 5, 6] [] ?_
                    iterate 3 refine stA ?_
                    refine enA ?_
                    exact hK17 _ (n17, x10, (IntKind.i64.wrap (x9 + 1))) siA h (Nat.lt_succ_self _)
                · apply AW_exit
                  refine hE16 _ ?_
                  exact ⟨x8, siA, h⟩
          · rintro x3 h
            change F_countInstr_j3 a0_x a1_most x3 KK at h
            unfold F_countInstr_j3 at h
            refine AW_joinO [] [5] [.loc 2] (fun y : Int => ⟨[(5, .one (.c (.d (.int .i64 y))))], []⟩) (fun y => F_countInstr_j4 y KK) ?_ ?_
            · apply AW_seq_k
              intro K7 hK7
              have hx := True.intro
              refine rgA [1, 2, 5, 8] [] ?_
              refine stA ?_
              refine enA ?_
              refine hK7 _ ?_
              apply AW_block_k
              intro Q8 hN8 hE8 hO8
              obtain ⟨n9, h⟩ := h
              refine AW_loopO [] [1, 2, 5, 8] [] (fun y : Nat × Int × Int => ⟨[(1, .one (.c (.d (.int .i64 a1_most)))), (2, .one (.c (.pl ⟨.loc 2, 0, []⟩))), (5, .one (.c (.d (.int .i64 y.2.1)))), (8, .one (.c (.d (.int .i64 y.2.2))))], [(.loc 2, ⟨true, [.d (.int .i64 a0_x.Op), .d (.str a0_x.Dst), .d (.str a0_x.Name), .d (.li (a0_x.Args.map Lt.Arg.enc)), .d (.li (a0_x.Frames.map Lt.Frame.enc)), .d (.li (a0_x.Objs.map Lt.Virt.enc))]⟩)]⟩) (fun y => F_countInstr_l5 a0_x a1_most KK y.1 y.2.1 y.2.2) (fun y => y.1) (n9, x3, 0) ?_ h ?_
              · exact siA
              clear h
              rintro ⟨n9, x5, x6⟩ h K9 hK9
              cases n9 with
              | zero => exact h.elim
              | succ n9 =>
                change F_countInstr_l5 a0_x a1_most KK (n9 + 1) x5 x6 at h
                unfold F_countInstr_l5 at h
                apply AW_seq_k
                intro K10 hK10
                apply AW_seq_k
                intro K11 hK11
                have hx := True.intro
                refine rgV [1, 2, 5, 8] [] 141 (.one (.c (.d (.bool ((decide (x6 < (a0_x.Objs.length : Int))) && (decide (x5 ≤ a1_most))))))) ?_ ?_
                · clear h
                  iterate 6 refine stA ?_
                  cases hb : (decide (x6 < (a0_x.Objs.length : Int)))
                  · have hx := And.intro hb hx
                    iterate 4 refine stA ?_
                    exact lfA
                  · have hx := And.intro hb hx
                    iterate 4 refine stA ?_
                    exact lfA
                · refine hK11 _ ?_
                  refine cdA h rfl (fun h => ?_) (fun h => ?_)
                  · apply AW_skip
                    refine hK10 _ ?_
                    refine AW_joinO [] [1, 2, 5, 8] [] (fun y : Int => ⟨[(1, .one (.c (.d (.int .i64 a1_most)))), (2, .one (.c (.pl ⟨.loc 2, 0, []⟩))), (5, .one (.c (.d (.int .i64 y)))), (8, .one (.c (.d (.int .i64 x6))))], [(.loc 2, ⟨true, [.d (.int .i64 a0_x.Op), .d (.str a0_x.Dst), .d (.str a0_x.Name), .d (.li (a0_x.Args.map Lt.Arg.enc)), .d (.li (a0_x.Frames.map Lt.Frame.enc)), .d (.li (a0_x.Objs.map Lt.Virt.enc))]⟩)]⟩) (fun y => F_countInstr_j6 x6 (fun y1 y2 => F_countInstr_l5 a0_x a1_most KK n9 y1 y2) y KK) ?_ ?_
                    · apply AW_block_k
                      intro Q12 hN12 hE12 hO12
                      apply AW_seq_k
                      intro K13 hK13
                      obtain ⟨ho1, h⟩ := h
                      have hx := True.intro
                      have hx := getA Lt.Virt.enc ho1 hx
                      refine rgA [1, 2, 5, 8] [] ?_
                      iterate 7 refine stA ?_
                      refine stG fun hp => ?_
                      iterate 2 refine stA ?_
                      refine enA ?_
                      have h := h (by assumption)
                      refine hK13 _ ?_
                      apply AW_seq_k
                      intro K14 hK14
                      have hx := True.intro
                      refine rgA [1, 2, 5, 8, 155] [] ?_
                      iterate 3 refine stA ?_
                      refine enA ?_
                      refine hK14 _ ?_
                      refine cdA h rfl (fun h => ?_) (fun h => ?_)
                      · obtain ⟨ho1, h⟩ := h
                        have hx := True.intro
                        have hx := getA Lt.Virt.enc ho1 hx
                        refine rgA [1, 2, 5, 8] [] ?_
                        iterate 11 refine stA ?_
                        refine enA ?_
                        refine hN12 _ ?_
                        exact ⟨(IntKind.i64.wrap ((IntKind.i64.wrap (x5 + (((a0_x.Objs.getD x6.toNat default).Class).length : Int))) + (Lt.countArgs ((a0_x.Objs.getD x6.toNat default).Vals) a1_most))), siA, h⟩
                      · apply AW_skip
                        refine hN12 _ ?_
                        exact ⟨(IntKind.i64.wrap (x5 + (((a0_x.Objs.getD x6.toNat default).Class).length : Int))), siA, h⟩
                    · rintro x7 h
                      change F_countInstr_j6 x6 (fun y1 y2 => F_countInstr_l5 a0_x a1_most KK n9 y1 y2) x7 KK at h
                      unfold F_countInstr_j6 at h
                      have hx := True.intro
                      refine rgA [1, 2, 5, 8] [] ?_
                      iterate 3 refine stA ?_
                      refine enA ?_
                      exact hK9 _ (n9, x7, (IntKind.i64.wrap (x6 + 1))) siA h (Nat.lt_succ_self _)
                  · apply AW_exit
                    refine hE8 _ ?_
                    exact ⟨x5, siA, h⟩
            · rintro x4 h
              change F_countInstr_j4 x4 KK at h
              unfold F_countInstr_j4 at h
              apply AW_seq_k
              intro K6 hK6
              have hx := True.intro
              refine rgA [4] [] ?_
              iterate 2 refine stA ?_
              refine enA ?_
              refine hK6 _ ?_
              apply AW_ret
              exact fiA (hKK _ h)

def C_countInstr : CK1 := pureC (fn2 (cA Lt.Instr.rw) (cI .i64) (o1 (cI .i64)) (Lt.preCI) Lt.countInstr)
theorem c_countInstr : Con Try.prog 37 C_countInstr :=
  Con_fn2 (fn := Try.f37) (c := Try.f37.body.getD .skip) (by kernel_rfl) (by kernel_rfl) (by kernel_rfl) (by decide +kernel) (fun g a0_x a1_most K hg hp hK => walk_countInstr g hg a0_x a1_most K _ (fun _ h => h) (law_countInstr a0_x a1_most hp _ hK))
attribute [push_cast] C_countInstr

end Go.Am
end

section
namespace Go.Am
open Go.Proofs
set_option linter.unusedSimpArgs false
set_option linter.unusedVariables false
set_option maxRecDepth 100000 in
set_option maxHeartbeats 4000000 in
theorem walk_countBlock (g : G) (hg : g.nt = Try.f23.ntmps) (a0_b : Lt.Block) (a1_most : Int) (K : AV → Prop) (KK : (Int) → Prop) (hKK : ∀ r, KK r → K (o1 (cI .i64) r) ) (h : F_countBlock a0_b a1_most KK) :
    AW Try.prog g (Try.f23.body.getD .skip) (retQ Try.prog [.tmp 4] K) ⟨entryT 0 [.one ((cA Lt.Block.rw).enc a0_b), .one ((cI .i64).enc a1_most)], []⟩ := by
  have hcs : CT.Ok Try.prog [(37, C_countInstr)] := (CT.cons c_countInstr CT.ok0)
  have hn : g.nt = 160 := hg
  have hm : Try.prog.follows .mixedOrders = true := by kernel_rfl
  unfold Try.f23
  dsimp only [Option.getD_some]
  unfold F_countBlock at h
  apply AW_seq_k
  intro K1 hK1
  have hx := True.intro
  refine rgA [1, 2] [] ?_
  iterate 2 refine stA ?_
  refine enA ?_
  refine hK1 _ ?_
  apply AW_seq_k
  intro K2 hK2
  apply AW_seq_k
  intro K3 hK3
  have hx := True.intro
  refine rgV [1, 2] [] 29 (.one (.c (.d (.bool (((decide (a1_most < (a0_b.Phis.length : Int))) || (decide (a1_most < (a0_b.Code.length : Int)))) || (decide (a1_most < (a0_b.End.To.length : Int)))))))) ?_ ?_
  · clear h
    iterate 6 refine stA ?_
    cases hb : (decide (a1_most < (a0_b.Phis.length : Int)))
    · have hx := And.intro hb hx
      iterate 7 refine stA ?_
      cases hb : (decide (a1_most < (a0_b.Code.length : Int)))
      · have hx := And.intro hb hx
        iterate 7 refine stA ?_
        exact lfA
      · have hx := And.intro hb hx
        iterate 7 refine stA ?_
        exact lfA
    · have hx := And.intro hb hx
      iterate 14 refine stA ?_
      exact lfA
  · refine hK3 _ ?_
    refine cdA h rfl (fun h => ?_) (fun h => ?_)
    · apply AW_seq_k
      intro K4 hK4
      have hx := True.intro
      refine rgA [4] [.loc 2] ?_
      iterate 3 refine stA ?_
      refine enA ?_
      refine hK4 _ ?_
      apply AW_ret
      exact fiA (hKK _ h)
    · apply AW_skip
      refine hK2 _ ?_
      apply AW_seq_k
      intro K5 hK5
      have hx := True.intro
      refine rgA [1, 2, 5] [] ?_
      iterate 2 refine stA ?_
      refine stG fun hp => ?_
      iterate 2 refine stA ?_
      refine enA ?_
      have h := h (by assumption)
      refine hK5 _ ?_
      refine AW_joinO [] [1, 2, 5] [] (fun y : Int => ⟨[(1, .one (.c (.d (.int .i64 a1_most)))), (2, .one (.c (.pl ⟨.loc 2, 0, []⟩))), (5, .one (.c (.d (.int .i64 y))))], [(.loc 2, ⟨true, [.d (.str a0_b.Name), .d (.li (a0_b.Phis.map Lt.Phi.enc)), .d (.li (a0_b.Code.map Lt.Instr.enc)), .d (.int .i64 a0_b.End.Kind), .d (.int .i64 a0_b.End.A.Kind), .d (.str a0_b.End.A.S), .d (.int .i64 a0_b.End.A.N), .d (.li (a0_b.End.To.map rS.enc)), .d (.int .i64 a0_b.End.N)]⟩)]⟩) (fun y => F_countBlock_j1 a0_b a1_most y KK) ?_ ?_
      · apply AW_seq_k
        intro K36 hK36
        have hx := True.intro
        refine rgA [1, 2, 5, 38] [] ?_
        iterate 3 refine stA ?_
        refine enA ?_
        refine hK36 _ ?_
        refine cdA h rfl (fun h => ?_) (fun h => ?_)
        · have hx := True.intro
          refine rgA [1, 2, 5] [] ?_
          iterate 5 refine stA ?_
          refine stG fun hp => ?_
          iterate 2 refine stA ?_
          refine enA ?_
          have h := h (by assumption)
          exact ⟨(IntKind.i64.wrap ((IntKind.i64.wrap (1 + (a0_b.Name.length : Int))) + (a0_b.End.A.S.length : Int))), siA, h⟩
        · apply AW_skip
          exact ⟨(IntKind.i64.wrap (1 + (a0_b.Name.length : Int))), siA, h⟩
      · rintro x1 h
        change F_countBlock_j1 a0_b a1_most x1 KK at h
        unfold F_countBlock_j1 at h
        refine AW_joinO [] [1, 2, 5] [] (fun y : Int => ⟨[(1, .one (.c (.d (.int .i64 a1_most)))), (2, .one (.c (.pl ⟨.loc 2, 0, []⟩))), (5, .one (.c (.d (.int .i64 y))))], [(.loc 2, ⟨true, [.d (.str a0_b.Name), .d (.li (a0_b.Phis.map Lt.Phi.enc)), .d (.li (a0_b.Code.map Lt.Instr.enc)), .d (.int .i64 a0_b.End.Kind), .d (.int .i64 a0_b.End.A.Kind), .d (.str a0_b.End.A.S), .d (.int .i64 a0_b.End.A.N), .d (.li (a0_b.End.To.map rS.enc)), .d (.int .i64 a0_b.End.N)]⟩)]⟩) (fun y => F_countBlock_j2 a0_b a1_most y KK) ?_ ?_
        · apply AW_seq_k
          intro K29 hK29
          have hx := True.intro
          refine rgA [1, 2, 5, 6] [] ?_
          refine stA ?_
          refine enA ?_
          refine hK29 _ ?_
          apply AW_block_k
          intro Q30 hN30 hE30 hO30
          obtain ⟨n31, h⟩ := h
          refine AW_loopO [] [1, 2, 5, 6] [] (fun y : Nat × Int × Int => ⟨[(1, .one (.c (.d (.int .i64 a1_most)))), (2, .one (.c (.pl ⟨.loc 2, 0, []⟩))), (5, .one (.c (.d (.int .i64 y.2.1)))), (6, .one (.c (.d (.int .i64 y.2.2))))], [(.loc 2, ⟨true, [.d (.str a0_b.Name), .d (.li (a0_b.Phis.map Lt.Phi.enc)), .d (.li (a0_b.Code.map Lt.Instr.enc)), .d (.int .i64 a0_b.End.Kind), .d (.int .i64 a0_b.End.A.Kind), .d (.str a0_b.End.A.S), .d (.int .i64 a0_b.End.A.N), .d (.li (a0_b.End.To.map rS.enc)), .d (.int .i64 a0_b.End.N)]⟩)]⟩) (fun y => F_countBlock_l10 a0_b a1_most KK y.1 y.2.1 y.2.2) (fun y => y.1) (n31, x1, 0) ?_ h ?_
          · exact siA
          clear h
          rintro ⟨n31, x13, x14⟩ h K31 hK31
          cases n31 with
          | zero => exact h.elim
          | succ n31 =>
            change F_countBlock_l10 a0_b a1_most KK (n31 + 1) x13 x14 at h
            unfold F_countBlock_l10 at h
            apply AW_seq_k
            intro K32 hK32
            apply AW_seq_k
            intro K33 hK33
            have hx := True.intro
            refine rgV [1, 2, 5, 6] [] 56 (.one (.c (.d (.bool ((decide (x14 < (a0_b.End.To.length : Int))) && (decide (x13 ≤ a1_most))))))) ?_ ?_
            · clear h
              iterate 7 refine stA ?_
              cases hb : (decide (x14 < (a0_b.End.To.length : Int)))
              · have hx := And.intro hb hx
                iterate 4 refine stA ?_
                exact lfA
              · have hx := And.intro hb hx
                iterate 4 refine stA ?_
                exact lfA
            · refine hK33 _ ?_
              refine cdA h rfl (fun h => ?_) (fun h => ?_)
              · apply AW_skip
                refine hK32 _ ?_
                apply AW_seq_k
                intro K34 hK34
                apply AW_block_k
                intro Q35 hN35 hE35 hO35
                obtain ⟨ho1, h⟩ := h
                have hx := True.intro
                have hx := getA rS.enc ho1 hx
                refine rgA [1, 2, 5, 6] [] ?_
                iterate 8 refine stA ?_
                refine stG fun hp => ?_
                iterate 2 refine stA ?_
                refine enA ?_
                have h := h (by assumption)
                refine hN35 _ ?_
                refine hK34 _ ?_
                have hx := True.intro
                refine rgA [1, 2, 5, 6] [] ?_
                iterate 3 refine stA ?_
                refine enA ?_
                exact hK31 _ (n31, (IntKind.i64.wrap ((IntKind.i64.wrap (x13 + 1)) + ((a0_b.End.To.getD x14.toNat default).length : Int))), (IntKind.i64.wrap (x14 + 1))) siA h (Nat.lt_succ_self _)
              · apply AW_exit
                refine hE30 _ ?_
                exact ⟨x13, siA, h⟩
        · rintro x2 h
          change F_countBlock_j2 a0_b a1_most x2 KK at h
          unfold F_countBlock_j2 at h
          refine AW_joinO [] [1, 2, 5] [] (fun y : Int => ⟨[(1, .one (.c (.d (.int .i64 a1_most)))), (2, .one (.c (.pl ⟨.loc 2, 0, []⟩))), (5, .one (.c (.d (.int .i64 y))))], [(.loc 2, ⟨true, [.d (.str a0_b.Name), .d (.li (a0_b.Phis.map Lt.Phi.enc)), .d (.li (a0_b.Code.map Lt.Instr.enc)), .d (.int .i64 a0_b.End.Kind), .d (.int .i64 a0_b.End.A.Kind), .d (.str a0_b.End.A.S), .d (.int .i64 a0_b.End.A.N), .d (.li (a0_b.End.To.map rS.enc)), .d (.int .i64 a0_b.End.N)]⟩)]⟩) (fun y => F_countBlock_j3 a0_b a1_most y KK) ?_ ?_
          · apply AW_seq_k
            intro K14 hK14
            have hx := True.intro
            refine rgA [1, 2, 5, 7] [] ?_
            refine stA ?_
            refine enA ?_
            refine hK14 _ ?_
            apply AW_block_k
            intro Q15 hN15 hE15 hO15
            obtain ⟨n16, h⟩ := h
            refine AW_loopO [] [1, 2, 5, 7] [] (fun y : Nat × Int × Int => ⟨[(1, .one (.c (.d (.int .i64 a1_most)))), (2, .one (.c (.pl ⟨.loc 2, 0, []⟩))), (5, .one (.c (.d (.int .i64 y.2.1)))), (7, .one (.c (.d (.int .i64 y.2.2))))], [(.loc 2, ⟨true, [.d (.str a0_b.Name), .d (.li (a0_b.Phis.map Lt.Phi.enc)), .d (.li (a0_b.Code.map Lt.Instr.enc)), .d (.int .i64 a0_b.End.Kind), .d (.int .i64 a0_b.End.A.Kind), .d (.str a0_b.End.A.S), .d (.int .i64 a0_b.End.A.N), .d (.li (a0_b.End.To.map rS.enc)), .d (.int .i64 a0_b.End.N)]⟩)]⟩) (fun y => F_countBlock_l6 a0_b a1_most KK y.1 y.2.1 y.2.2) (fun y => y.1) (n16, x2, 0) ?_ h ?_
            · exact siA
            clear h
            rintro ⟨n16, x7, x8⟩ h K16 hK16
            cases n16 with
            | zero => exact h.elim
            | succ n16 =>
              change F_countBlock_l6 a0_b a1_most KK (n16 + 1) x7 x8 at h
              unfold F_countBlock_l6 at h
              apply AW_seq_k
              intro K17 hK17
              apply AW_seq_k
              intro K18 hK18
              have hx := True.intro
              refine rgV [1, 2, 5, 7] [] 78 (.one (.c (.d (.bool ((decide (x8 < (a0_b.Phis.length : Int))) && (decide (x7 ≤ a1_most))))))) ?_ ?_
              · clear h
                iterate 6 refine stA ?_
                cases hb : (decide (x8 < (a0_b.Phis.length : Int)))
                · have hx := And.intro hb hx
                  iterate 4 refine stA ?_
                  exact lfA
                · have hx := And.intro hb hx
                  iterate 4 refine stA ?_
                  exact lfA
              · refine hK18 _ ?_
                refine cdA h rfl (fun h => ?_) (fun h => ?_)
                · apply AW_skip
                  refine hK17 _ ?_
                  refine AW_joinO [] [1, 2, 5, 7] [] (fun y : Int => ⟨[(1, .one (.c (.d (.int .i64 a1_most)))), (2, .one (.c (.pl ⟨.loc 2, 0, []⟩))), (5, .one (.c (.d (.int .i64 y)))), (7, .one (.c (.d (.int .i64 x8))))], [(.loc 2, ⟨true, [.d (.str a0_b.Name), .d (.li (a0_b.Phis.map Lt.Phi.enc)), .d (.li (a0_b.Code.map Lt.Instr.enc)), .d (.int .i64 a0_b.End.Kind), .d (.int .i64 a0_b.End.A.Kind), .d (.str a0_b.End.A.S), .d (.int .i64 a0_b.End.A.N), .d (.li (a0_b.End.To.map rS.enc)), .d (.int .i64 a0_b.End.N)]⟩)]⟩) (fun y => F_countBlock_j7 x8 (fun y1 y2 => F_countBlock_l6 a0_b a1_most KK n16 y1 y2) y KK) ?_ ?_
                  · apply AW_block_k
                    intro Q19 hN19 hE19 hO19
                    apply AW_seq_k
                    intro K20 hK20
                    obtain ⟨ho1, h⟩ := h
                    have hx := True.intro
                    have hx := getA Lt.Phi.enc ho1 hx
                    refine rgA [1, 2, 5, 7] [] ?_
                    iterate 8 refine stA ?_
                    refine stG fun hp => ?_
                    iterate 2 refine stA ?_
                    refine enA ?_
                    have h := h (by assumption)
                    refine hK20 _ ?_
                    apply AW_seq_k
                    intro K21 hK21
                    have hx := True.intro
                    refine rgA [1, 2, 5, 7, 8] [] ?_
                    refine stA ?_
                    refine enA ?_
                    refine hK21 _ ?_
                    apply AW_block_k
                    intro Q22 hN22 hE22 hO22
                    obtain ⟨n23, h⟩ := h
                    refine AW_loopO [] [1, 2, 5, 7, 8] [] (fun y : Nat × Int × Int => ⟨[(1, .one (.c (.d (.int .i64 a1_most)))), (2, .one (.c (.pl ⟨.loc 2, 0, []⟩))), (5, .one (.c (.d (.int .i64 y.2.1)))), (7, .one (.c (.d (.int .i64 x8)))), (8, .one (.c (.d (.int .i64 y.2.2))))], [(.loc 2, ⟨true, [.d (.str a0_b.Name), .d (.li (a0_b.Phis.map Lt.Phi.enc)), .d (.li (a0_b.Code.map Lt.Instr.enc)), .d (.int .i64 a0_b.End.Kind), .d (.int .i64 a0_b.End.A.Kind), .d (.str a0_b.End.A.S), .d (.int .i64 a0_b.End.A.N), .d (.li (a0_b.End.To.map rS.enc)), .d (.int .i64 a0_b.End.N)]⟩)]⟩) (fun y => F_countBlock_l8 a0_b a1_most x8 (fun y1 y2 => F_countBlock_l6 a0_b a1_most KK n16 y1 y2) KK y.1 y.2.1 y.2.2) (fun y => y.1) (n23, (IntKind.i64.wrap ((IntKind.i64.wrap (x7 + 1)) + (((a0_b.Phis.getD x8.toNat default).Dst).length : Int))), 0) ?_ h ?_
                    · exact siA
                    clear h
                    rintro ⟨n23, x10, x11⟩ h K23 hK23
                    cases n23 with
                    | zero => exact h.elim
                    | succ n23 =>
                      change F_countBlock_l8 a0_b a1_most x8 (fun y1 y2 => F_countBlock_l6 a0_b a1_most KK n16 y1 y2) KK (n23 + 1) x10 x11 at h
                      unfold F_countBlock_l8 at h
                      apply AW_seq_k
                      intro K24 hK24
                      apply AW_seq_k
                      intro K25 hK25
                      obtain ⟨ho1, h⟩ := h
                      have hx := True.intro
                      have hx := getA Lt.Phi.enc ho1 hx
                      refine rgV [1, 2, 5, 7, 8] [] 104 (.one (.c (.d (.bool ((decide (x11 < (((a0_b.Phis.getD x8.toNat default).Ins).length : Int))) && (decide (x10 ≤ a1_most))))))) ?_ ?_
                      · clear h
                        iterate 10 refine stA ?_
                        cases hb : (decide (x11 < (((a0_b.Phis.getD x8.toNat default).Ins).length : Int)))
                        · have hx := And.intro hb hx
                          iterate 4 refine stA ?_
                          exact lfA
                        · have hx := And.intro hb hx
                          iterate 4 refine stA ?_
                          exact lfA
                      · refine hK25 _ ?_
                        refine cdA h rfl (fun h => ?_) (fun h => ?_)
                        · apply AW_skip
                          refine hK24 _ ?_
                          refine AW_joinO [] [1, 2, 5, 7, 8] [] (fun y : Int => ⟨[(1, .one (.c (.d (.int .i64 a1_most)))), (2, .one (.c (.pl ⟨.loc 2, 0, []⟩))), (5, .one (.c (.d (.int .i64 y)))), (7, .one (.c (.d (.int .i64 x8)))), (8, .one (.c (.d (.int .i64 x11))))], [(.loc 2, ⟨true, [.d (.str a0_b.Name), .d (.li (a0_b.Phis.map Lt.Phi.enc)), .d (.li (a0_b.Code.map Lt.Instr.enc)), .d (.int .i64 a0_b.End.Kind), .d (.int .i64 a0_b.End.A.Kind), .d (.str a0_b.End.A.S), .d (.int .i64 a0_b.End.A.N), .d (.li (a0_b.End.To.map rS.enc)), .d (.int .i64 a0_b.End.N)]⟩)]⟩) (fun y => F_countBlock_j9 x11 (fun y1 y2 => F_countBlock_l8 a0_b a1_most x8 (fun y1 y2 => F_countBlock_l6 a0_b a1_most KK n16 y1 y2) KK n23 y1 y2) y KK) ?_ ?_
                          · apply AW_block_k
                            intro Q26 hN26 hE26 hO26
                            apply AW_seq_k
                            intro K27 hK27
                            obtain ⟨ho1, ho2, h⟩ := h
                            have hx := True.intro
                            have hx := getA Lt.Phi.enc ho1 hx
                            have hx := getA Lt.In.enc ho2 hx
                            refine rgA [1, 2, 5, 7, 8] [] ?_
                            iterate 12 refine stA ?_
                            refine stG fun hp => ?_
                            iterate 2 refine stA ?_
                            refine enA ?_
                            have h := h (by assumption)
                            refine hK27 _ ?_
                            apply AW_seq_k
                            intro K28 hK28
                            have hx := True.intro
                            refine rgA [1, 2, 5, 7, 8, 123] [] ?_
                            iterate 3 refine stA ?_
                            refine enA ?_
                            refine hK28 _ ?_
                            refine cdA h rfl (fun h => ?_) (fun h => ?_)
                            · obtain ⟨ho1, ho2, h⟩ := h
                              have hx := True.intro
                              have hx := getA Lt.Phi.enc ho1 hx
                              have hx := getA Lt.In.enc ho2 hx
                              refine rgA [1, 2, 5, 7, 8] [] ?_
                              iterate 12 refine stA ?_
                              refine stG fun hp => ?_
                              iterate 2 refine stA ?_
                              refine enA ?_
                              have h := h (by assumption)
                              refine hN26 _ ?_
                              exact ⟨(IntKind.i64.wrap ((IntKind.i64.wrap ((IntKind.i64.wrap (x10 + 1)) + (((((a0_b.Phis.getD x8.toNat default).Ins).getD x11.toNat default).Block).length : Int))) + ((((((a0_b.Phis.getD x8.toNat default).Ins).getD x11.toNat default).A).S).length : Int))), siA, h⟩
                            · apply AW_skip
                              refine hN26 _ ?_
                              exact ⟨(IntKind.i64.wrap ((IntKind.i64.wrap (x10 + 1)) + (((((a0_b.Phis.getD x8.toNat default).Ins).getD x11.toNat default).Block).length : Int))), siA, h⟩
                          · rintro x12 h
                            change F_countBlock_j9 x11 (fun y1 y2 => F_countBlock_l8 a0_b a1_most x8 (fun y1 y2 => F_countBlock_l6 a0_b a1_most KK n16 y1 y2) KK n23 y1 y2) x12 KK at h
                            unfold F_countBlock_j9 at h
                            have hx := True.intro
                            refine rgA [1, 2, 5, 7, 8] [] ?_
                            iterate 3 refine stA ?_
                            refine enA ?_
                            exact hK23 _ (n23, x12, (IntKind.i64.wrap (x11 + 1))) siA h (Nat.lt_succ_self _)
                        · apply AW_exit
                          refine hE22 _ ?_
                          refine hN19 _ ?_
                          exact ⟨x10, siA, h⟩
                  · rintro x9 h
                    change F_countBlock_j7 x8 (fun y1 y2 => F_countBlock_l6 a0_b a1_most KK n16 y1 y2) x9 KK at h
                    unfold F_countBlock_j7 at h
                    have hx := True.intro
                    refine rgA [1, 2, 5, 7] [] ?_
                    iterate 3 refine stA ?_
                    refine enA ?_
                    exact hK16 _ (n16, x9, (IntKind.i64.wrap (x8 + 1))) siA h (Nat.lt_succ_self _)
                · apply AW_exit
                  refine hE15 _ ?_
                  exact ⟨x7, siA, h⟩
          · rintro x3 h
            change F_countBlock_j3 a0_b a1_most x3 KK at h
            unfold F_countBlock_j3 at h
            refine AW_joinO [] [5] [.loc 2] (fun y : Int => ⟨[(5, .one (.c (.d (.int .i64 y))))], []⟩) (fun y => F_countBlock_j4 y KK) ?_ ?_
            · apply AW_seq_k
              intro K7 hK7
              have hx := True.intro
              refine rgA [1, 2, 5, 9] [] ?_
              refine stA ?_
              refine enA ?_
              refine hK7 _ ?_
              apply AW_block_k
              intro Q8 hN8 hE8 hO8
              obtain ⟨n9, h⟩ := h
              refine AW_loopO [] [1, 2, 5, 9] [] (fun y : Nat × Int × Int => ⟨[(1, .one (.c (.d (.int .i64 a1_most)))), (2, .one (.c (.pl ⟨.loc 2, 0, []⟩))), (5, .one (.c (.d (.int .i64 y.2.1)))), (9, .one (.c (.d (.int .i64 y.2.2))))], [(.loc 2, ⟨true, [.d (.str a0_b.Name), .d (.li (a0_b.Phis.map Lt.Phi.enc)), .d (.li (a0_b.Code.map Lt.Instr.enc)), .d (.int .i64 a0_b.End.Kind), .d (.int .i64 a0_b.End.A.Kind), .d (.str a0_b.End.A.S), .d (.int .i64 a0_b.End.A.N), .d (.li (a0_b.End.To.map rS.enc)), .d (.int .i64 a0_b.End.N)]⟩)]⟩) (fun y => F_countBlock_l5 a0_b a1_most KK y.1 y.2.1 y.2.2) (fun y => y.1) (n9, x3, 0) ?_ h ?_
              · exact siA
              clear h
              rintro ⟨n9, x5, x6⟩ h K9 hK9
              cases n9 with
              | zero => exact h.elim
              | succ n9 =>
                change F_countBlock_l5 a0_b a1_most KK (n9 + 1) x5 x6 at h
                unfold F_countBlock_l5 at h
                apply AW_seq_k
                intro K10 hK10
                apply AW_seq_k
                intro K11 hK11
                have hx := True.intro
                refine rgV [1, 2, 5, 9] [] 147 (.one (.c (.d (.bool ((decide (x6 < (a0_b.Code.length : Int))) && (decide (x5 ≤ a1_most))))))) ?_ ?_
                · clear h
                  iterate 6 refine stA ?_
                  cases hb : (decide (x6 < (a0_b.Code.length : Int)))
                  · have hx := And.intro hb hx
                    iterate 4 refine stA ?_
                    exact lfA
                  · have hx := And.intro hb hx
                    iterate 4 refine stA ?_
                    exact lfA
                · refine hK11 _ ?_
                  refine cdA h rfl (fun h => ?_) (fun h => ?_)
                  · apply AW_skip
                    refine hK10 _ ?_
                    apply AW_seq_k
                    intro K12 hK12
                    apply AW_block_k
                    intro Q13 hN13 hE13 hO13
                    obtain ⟨ho1, ho2, h⟩ := h
                    have hx := True.intro
                    have hx := getA Lt.Instr.enc ho1 hx
                    have hx := useA ho2 hx
                    refine rgA [1, 2, 5, 9] [] ?_
                    iterate 10 refine stA ?_
                    refine enA ?_
                    refine hN13 _ ?_
                    refine hK12 _ ?_
                    have hx := True.intro
                    refine rgA [1, 2, 5, 9] [] ?_
                    iterate 3 refine stA ?_
                    refine enA ?_
                    exact hK9 _ (n9, (IntKind.i64.wrap (x5 + (Lt.countInstr (a0_b.Code.getD x6.toNat default) a1_most))), (IntKind.i64.wrap (x6 + 1))) siA h (Nat.lt_succ_self _)
                  · apply AW_exit
                    refine hE8 _ ?_
                    exact ⟨x5, siA, h⟩
            · rintro x4 h
              change F_countBlock_j4 x4 KK at h
              unfold F_countBlock_j4 at h
              apply AW_seq_k
              intro K6 hK6
              have hx := True.intro
              refine rgA [4] [] ?_
              iterate 2 refine stA ?_
              refine enA ?_
              refine hK6 _ ?_
              apply AW_ret
              exact fiA (hKK _ h)

def C_countBlock : CK1 := pureC (fn2 (cA Lt.Block.rw) (cI .i64) (o1 (cI .i64)) (Lt.preCB) Lt.countBlock)
theorem c_countBlock : Con Try.prog 23 C_countBlock :=
  Con_fn2 (fn := Try.f23) (c := Try.f23.body.getD .skip) (by kernel_rfl) (by kernel_rfl) (by kernel_rfl) (by decide +kernel) (fun g a0_b a1_most K hg hp hK => walk_countBlock g hg a0_b a1_most K _ (fun _ h => h) (law_countBlock a0_b a1_most hp _ hK))
attribute [push_cast] C_countBlock

set_option maxRecDepth 100000 in
set_option maxHeartbeats 4000000 in
theorem walk_FewFunc (g : G) (hg : g.nt = Try.f12.ntmps) (a0_f : Lt.Func) (a1_most : Int) (K : AV → Prop) (KK : (Int) → Prop) (hKK : ∀ r, KK r → K (o1 (cI .i64) r) ) (h : F_FewFunc a0_f a1_most KK) :
    AW Try.prog g (Try.f12.body.getD .skip) (retQ Try.prog [.tmp 4] K) ⟨entryT 0 [.one ((cA Lt.Func.rw).enc a0_f), .one ((cI .i64).enc a1_most)], []⟩ := by
  have hcs : CT.Ok Try.prog [(11, C_countVars), (23, C_countBlock)] := (CT.cons c_countVars (CT.cons c_countBlock CT.ok0))
  have hn : g.nt = 66 := hg
  have hm : Try.prog.follows .mixedOrders = true := by kernel_rfl
  unfold Try.f12
  dsimp only [Option.getD_some]
  unfold F_FewFunc at h
  apply AW_seq_k
  intro K1 hK1
  have hx := True.intro
  refine rgA [1, 2] [] ?_
  iterate 2 refine stA ?_
  refine enA ?_
  refine hK1 _ ?_
  apply AW_seq_k
  intro K2 hK2
  apply AW_seq_k
  intro K3 hK3
  have hx := True.intro
  refine rgA [1, 2, 11] [] ?_
  iterate 2 refine stA ?_
  refine stG fun hp => ?_
  iterate 2 refine stA ?_
  refine enA ?_
  have h := h (by assumption)
  refine hK3 _ ?_
  refine cdA h rfl (fun h => ?_) (fun h => ?_)
  · apply AW_seq_k
    intro K4 hK4
    have hx := True.intro
    refine rgA [4] [.loc 2] ?_
    iterate 3 refine stA ?_
    refine enA ?_
    refine hK4 _ ?_
    apply AW_ret
    exact fiA (hKK _ h)
  · apply AW_skip
    refine hK2 _ ?_
    apply AW_seq_k
    intro K5 hK5
    have hx := True.intro
    refine rgA [1, 2, 5] [] ?_
    iterate 2 refine stA ?_
    refine stG fun hp => ?_
    iterate 2 refine stA ?_
    refine enA ?_
    have h := h (by assumption)
    refine hK5 _ ?_
    refine AW_joinO [] [1, 2, 5] [] (fun y : Int => ⟨[(1, .one (.c (.d (.int .i64 a1_most)))), (2, .one (.c (.pl ⟨.loc 2, 0, []⟩))), (5, .one (.c (.d (.int .i64 y))))], [(.loc 2, ⟨true, [.d (.str a0_f.Name), .d (.str a0_f.Result), .d (.li (a0_f.Params.map Lt.Var.enc)), .d (.li (a0_f.Vars.map Lt.Var.enc)), .d (.li (a0_f.Blocks.map Lt.Block.enc))]⟩)]⟩) (fun y => F_FewFunc_j1 a0_f a1_most y KK) ?_ ?_
    · apply AW_seq_k
      intro K16 hK16
      have hx := True.intro
      refine rgA [1, 2, 5, 20] [] ?_
      iterate 3 refine stA ?_
      refine enA ?_
      refine hK16 _ ?_
      refine cdA h rfl (fun h => ?_) (fun h => ?_)
      · have hx := True.intro
        refine rgA [1, 2, 5] [] ?_
        iterate 3 refine stA ?_
        refine stG fun hp => ?_
        iterate 2 refine stA ?_
        refine enA ?_
        have h := h (by assumption)
        exact ⟨(IntKind.i64.wrap ((IntKind.i64.wrap (1 + (a0_f.Name.length : Int))) + (a0_f.Result.length : Int))), siA, h⟩
      · apply AW_skip
        exact ⟨(IntKind.i64.wrap (1 + (a0_f.Name.length : Int))), siA, h⟩
    · rintro x1 h
      change F_FewFunc_j1 a0_f a1_most x1 KK at h
      unfold F_FewFunc_j1 at h
      refine AW_joinO [] [1, 2, 5] [] (fun y : Int => ⟨[(1, .one (.c (.d (.int .i64 a1_most)))), (2, .one (.c (.pl ⟨.loc 2, 0, []⟩))), (5, .one (.c (.d (.int .i64 y))))], [(.loc 2, ⟨true, [.d (.str a0_f.Name), .d (.str a0_f.Result), .d (.li (a0_f.Params.map Lt.Var.enc)), .d (.li (a0_f.Vars.map Lt.Var.enc)), .d (.li (a0_f.Blocks.map Lt.Block.enc))]⟩)]⟩) (fun y => F_FewFunc_j2 a0_f a1_most y KK) ?_ ?_
      · apply AW_seq_k
        intro K15 hK15
        have hx := True.intro
        refine rgA [1, 2, 5, 28] [] ?_
        iterate 3 refine stA ?_
        refine enA ?_
        refine hK15 _ ?_
        refine cdA h rfl (fun h => ?_) (fun h => ?_)
        · have hx := True.intro
          refine rgA [1, 2, 5] [] ?_
          iterate 7 refine stA ?_
          refine enA ?_
          exact ⟨(IntKind.i64.wrap (x1 + (Lt.countVars a0_f.Params a1_most))), siA, h⟩
        · apply AW_skip
          exact ⟨x1, siA, h⟩
      · rintro x2 h
        change F_FewFunc_j2 a0_f a1_most x2 KK at h
        unfold F_FewFunc_j2 at h
        refine AW_joinO [] [1, 2, 5] [] (fun y : Int => ⟨[(1, .one (.c (.d (.int .i64 a1_most)))), (2, .one (.c (.pl ⟨.loc 2, 0, []⟩))), (5, .one (.c (.d (.int .i64 y))))], [(.loc 2, ⟨true, [.d (.str a0_f.Name), .d (.str a0_f.Result), .d (.li (a0_f.Params.map Lt.Var.enc)), .d (.li (a0_f.Vars.map Lt.Var.enc)), .d (.li (a0_f.Blocks.map Lt.Block.enc))]⟩)]⟩) (fun y => F_FewFunc_j3 a0_f a1_most y KK) ?_ ?_
        · apply AW_seq_k
          intro K14 hK14
          have hx := True.intro
          refine rgA [1, 2, 5, 37] [] ?_
          iterate 3 refine stA ?_
          refine enA ?_
          refine hK14 _ ?_
          refine cdA h rfl (fun h => ?_) (fun h => ?_)
          · have hx := True.intro
            refine rgA [1, 2, 5] [] ?_
            iterate 7 refine stA ?_
            refine enA ?_
            exact ⟨(IntKind.i64.wrap (x2 + (Lt.countVars a0_f.Vars a1_most))), siA, h⟩
          · apply AW_skip
            exact ⟨x2, siA, h⟩
        · rintro x3 h
          change F_FewFunc_j3 a0_f a1_most x3 KK at h
          unfold F_FewFunc_j3 at h
          refine AW_joinO [] [5] [.loc 2] (fun y : Int => ⟨[(5, .one (.c (.d (.int .i64 y))))], []⟩) (fun y => F_FewFunc_j4 y KK) ?_ ?_
          · apply AW_seq_k
            intro K7 hK7
            have hx := True.intro
            refine rgA [1, 2, 5, 6] [] ?_
            refine stA ?_
            refine enA ?_
            refine hK7 _ ?_
            apply AW_block_k
            intro Q8 hN8 hE8 hO8
            obtain ⟨n9, h⟩ := h
            refine AW_loopO [] [1, 2, 5, 6] [] (fun y : Nat × Int × Int => ⟨[(1, .one (.c (.d (.int .i64 a1_most)))), (2, .one (.c (.pl ⟨.loc 2, 0, []⟩))), (5, .one (.c (.d (.int .i64 y.2.1)))), (6, .one (.c (.d (.int .i64 y.2.2))))], [(.loc 2, ⟨true, [.d (.str a0_f.Name), .d (.str a0_f.Result), .d (.li (a0_f.Params.map Lt.Var.enc)), .d (.li (a0_f.Vars.map Lt.Var.enc)), .d (.li (a0_f.Blocks.map Lt.Block.enc))]⟩)]⟩) (fun y => F_FewFunc_l5 a0_f a1_most KK y.1 y.2.1 y.2.2) (fun y => y.1) (n9, x3, 0) ?_ h ?_
            · exact siA
            clear h
            rintro ⟨n9, x5, x6⟩ h K9 hK9
            cases n9 with
            | zero => exact h.elim
            | succ n9 =>
              change F_FewFunc_l5 a0_f a1_most KK (n9 + 1) x5 x6 at h
              unfold F_FewFunc_l5 at h
              apply AW_seq_k
              intro K10 hK10
              apply AW_seq_k
              intro K11 hK11
              have hx := True.intro
              refine rgV [1, 2, 5, 6] [] 53 (.one (.c (.d (.bool ((decide (x6 < (a0_f.Blocks.length : Int))) && (decide (x5 ≤ a1_most))))))) ?_ ?_
              · clear h
                iterate 6 refine stA ?_
                cases hb : (decide (x6 < (a0_f.Blocks.length : Int)))
                · have hx := And.intro hb hx
                  iterate 4 refine stA ?_
                  exact lfA
                · have hx := And.intro hb hx
                  iterate 4 refine stA ?_
                  exact lfA
              · refine hK11 _ ?_
                refine cdA h rfl (fun h => ?_) (fun h => ?_)
                · apply AW_skip
                  refine hK10 _ ?_
                  apply AW_seq_k
                  intro K12 hK12
                  apply AW_block_k
                  intro Q13 hN13 hE13 hO13
                  obtain ⟨ho1, ho2, h⟩ := h
                  have hx := True.intro
                  have hx := getA Lt.Block.enc ho1 hx
                  have hx := useA ho2 hx
                  refine rgA [1, 2, 5, 6] [] ?_
                  iterate 10 refine stA ?_
                  refine enA ?_
                  refine hN13 _ ?_
                  refine hK12 _ ?_
                  have hx := True.intro
                  refine rgA [1, 2, 5, 6] [] ?_
                  iterate 3 refine stA ?_
                  refine enA ?_
                  exact hK9 _ (n9, (IntKind.i64.wrap (x5 + (Lt.countBlock (Lt.Block.mk ((a0_f.Blocks.getD x6.toNat default).Name) ((a0_f.Blocks.getD x6.toNat default).Phis) ((a0_f.Blocks.getD x6.toNat default).Code) (Lt.Term.mk (((a0_f.Blocks.getD x6.toNat default).End).Kind) (((a0_f.Blocks.getD x6.toNat default).End).A) (((a0_f.Blocks.getD x6.toNat default).End).To) (((a0_f.Blocks.getD x6.toNat default).End).N))) a1_most))), (IntKind.i64.wrap (x6 + 1))) siA h (Nat.lt_succ_self _)
                · apply AW_exit
                  refine hE8 _ ?_
                  exact ⟨x5, siA, h⟩
          · rintro x4 h
            change F_FewFunc_j4 x4 KK at h
            unfold F_FewFunc_j4 at h
            apply AW_seq_k
            intro K6 hK6
            have hx := True.intro
            refine rgA [4] [] ?_
            iterate 2 refine stA ?_
            refine enA ?_
            refine hK6 _ ?_
            apply AW_ret
            exact fiA (hKK _ h)

def C_FewFunc : CK1 := pureC (fn2 (cA Lt.Func.rw) (cI .i64) (o1 (cI .i64)) (Lt.preFF) Lt.FewFunc)
theorem c_FewFunc : Con Try.prog 12 C_FewFunc :=
  Con_fn2 (fn := Try.f12) (c := Try.f12.body.getD .skip) (by kernel_rfl) (by kernel_rfl) (by kernel_rfl) (by decide +kernel) (fun g a0_f a1_most K hg hp hK => walk_FewFunc g hg a0_f a1_most K _ (fun _ h => h) (law_FewFunc a0_f a1_most hp _ hK))
attribute [push_cast] C_FewFunc

set_option maxRecDepth 100000 in
set_option maxHeartbeats 4000000 in
theorem walk_Few (g : G) (hg : g.nt = Try.f6.ntmps) (a0_p : Lt.Program) (a1_most : Int) (K : AV → Prop) (KK : (Bool) → Prop) (hKK : ∀ r, KK r → K (o1 cB r) ) (h : F_Few a0_p a1_most KK) :
    AW Try.prog g (Try.f6.body.getD .skip) (retQ Try.prog [.tmp 4] K) ⟨entryT 0 [.one ((cA Lt.Program.rw).enc a0_p), .one ((cI .i64).enc a1_most)], []⟩ := by
  have hcs : CT.Ok Try.prog [(11, C_countVars), (12, C_FewFunc)] := (CT.cons c_countVars (CT.cons c_FewFunc CT.ok0))
  have hn : g.nt = 109 := hg
  have hm : Try.prog.follows .mixedOrders = true := by kernel_rfl
  unfold Try.f6
  dsimp only [Option.getD_some]
  unfold F_Few at h
  apply AW_seq_k
  intro K1 hK1
  have hx := True.intro
  refine rgA [1, 2] [] ?_
  iterate 2 refine stA ?_
  refine enA ?_
  refine hK1 _ ?_
  apply AW_seq_k
  intro K2 hK2
  apply AW_seq_k
  intro K3 hK3
  have hx := True.intro
  refine rgV [1, 2] [] 24 (.one (.c (.d (.bool (((decide (50 < (a0_p.Classes.length : Int))) || (decide (50 < (a0_p.Externs.length : Int)))) || (decide (50 < (a0_p.Funcs.length : Int)))))))) ?_ ?_
  · clear h
    iterate 5 refine stA ?_
    cases hb : (decide (50 < (a0_p.Classes.length : Int)))
    · have hx := And.intro hb hx
      iterate 6 refine stA ?_
      cases hb : (decide (50 < (a0_p.Externs.length : Int)))
      · have hx := And.intro hb hx
        iterate 5 refine stA ?_
        exact lfA
      · have hx := And.intro hb hx
        iterate 5 refine stA ?_
        exact lfA
    · have hx := And.intro hb hx
      iterate 11 refine stA ?_
      exact lfA
  · refine hK3 _ ?_
    refine cdA h rfl (fun h => ?_) (fun h => ?_)
    · apply AW_seq_k
      intro K4 hK4
      have hx := True.intro
      refine rgA [4] [.loc 2] ?_
      refine stA ?_
      refine enA ?_
      refine hK4 _ ?_
      apply AW_ret
      exact fiA (hKK _ h)
    · apply AW_skip
      refine hK2 _ ?_
      apply AW_seq_k
      intro K5 hK5
      have hx := True.intro
      refine rgA [1, 2, 5] [] ?_
      iterate 5 refine stA ?_
      refine enA ?_
      refine hK5 _ ?_
      refine AW_joinO [] [1, 2, 5] [] (fun y : Int => ⟨[(1, .one (.c (.d (.int .i64 a1_most)))), (2, .one (.c (.pl ⟨.loc 2, 0, []⟩))), (5, .one (.c (.d (.int .i64 y))))], [(.loc 2, ⟨true, [.d (.bool a0_p.SSA), .d (.li (a0_p.Classes.map Lt.Class.enc)), .d (.li (a0_p.Globals.map Lt.Var.enc)), .d (.li (a0_p.Externs.map Lt.Extern.enc)), .d (.li (a0_p.Funcs.map Lt.Func.enc))]⟩)]⟩) (fun y => F_Few_j1 a0_p a1_most y KK) ?_ ?_
      · apply AW_seq_k
        intro K21 hK21
        have hx := True.intro
        refine rgA [1, 2, 5, 6] [] ?_
        refine stA ?_
        refine enA ?_
        refine hK21 _ ?_
        apply AW_block_k
        intro Q22 hN22 hE22 hO22
        obtain ⟨n23, h⟩ := h
        refine AW_loopO [] [1, 2, 5, 6] [] (fun y : Nat × Int × Int => ⟨[(1, .one (.c (.d (.int .i64 a1_most)))), (2, .one (.c (.pl ⟨.loc 2, 0, []⟩))), (5, .one (.c (.d (.int .i64 y.2.1)))), (6, .one (.c (.d (.int .i64 y.2.2))))], [(.loc 2, ⟨true, [.d (.bool a0_p.SSA), .d (.li (a0_p.Classes.map Lt.Class.enc)), .d (.li (a0_p.Globals.map Lt.Var.enc)), .d (.li (a0_p.Externs.map Lt.Extern.enc)), .d (.li (a0_p.Funcs.map Lt.Func.enc))]⟩)]⟩) (fun y => F_Few_l6 a0_p a1_most KK y.1 y.2.1 y.2.2) (fun y => y.1) (n23, (Lt.countVars a0_p.Globals a1_most), 0) ?_ h ?_
        · exact siA
        clear h
        rintro ⟨n23, x8, x9⟩ h K23 hK23
        cases n23 with
        | zero => exact h.elim
        | succ n23 =>
          change F_Few_l6 a0_p a1_most KK (n23 + 1) x8 x9 at h
          unfold F_Few_l6 at h
          apply AW_seq_k
          intro K24 hK24
          apply AW_seq_k
          intro K25 hK25
          have hx := True.intro
          refine rgV [1, 2, 5, 6] [] 38 (.one (.c (.d (.bool ((decide (x9 < (a0_p.Classes.length : Int))) && (decide (x8 ≤ a1_most))))))) ?_ ?_
          · clear h
            iterate 6 refine stA ?_
            cases hb : (decide (x9 < (a0_p.Classes.length : Int)))
            · have hx := And.intro hb hx
              iterate 4 refine stA ?_
              exact lfA
            · have hx := And.intro hb hx
              iterate 4 refine stA ?_
              exact lfA
          · refine hK25 _ ?_
            refine cdA h rfl (fun h => ?_) (fun h => ?_)
            · apply AW_skip
              refine hK24 _ ?_
              refine AW_joinO [] [1, 2, 5, 6] [] (fun y : Int => ⟨[(1, .one (.c (.d (.int .i64 a1_most)))), (2, .one (.c (.pl ⟨.loc 2, 0, []⟩))), (5, .one (.c (.d (.int .i64 y)))), (6, .one (.c (.d (.int .i64 x9))))], [(.loc 2, ⟨true, [.d (.bool a0_p.SSA), .d (.li (a0_p.Classes.map Lt.Class.enc)), .d (.li (a0_p.Globals.map Lt.Var.enc)), .d (.li (a0_p.Externs.map Lt.Extern.enc)), .d (.li (a0_p.Funcs.map Lt.Func.enc))]⟩)]⟩) (fun y => F_Few_j7 x9 (fun y1 y2 => F_Few_l6 a0_p a1_most KK n23 y1 y2) y KK) ?_ ?_
              · apply AW_block_k
                intro Q26 hN26 hE26 hO26
                apply AW_seq_k
                intro K27 hK27
                obtain ⟨ho1, h⟩ := h
                have hx := True.intro
                have hx := getA Lt.Class.enc ho1 hx
                refine rgA [1, 2, 5, 6] [] ?_
                iterate 7 refine stA ?_
                refine stG fun hp => ?_
                iterate 2 refine stA ?_
                refine enA ?_
                have h := h (by assumption)
                refine hK27 _ ?_
                apply AW_seq_k
                intro K28 hK28
                have hx := True.intro
                refine rgA [1, 2, 5, 6, 52] [] ?_
                iterate 3 refine stA ?_
                refine enA ?_
                refine hK28 _ ?_
                refine cdA h rfl (fun h => ?_) (fun h => ?_)
                · obtain ⟨ho1, h⟩ := h
                  have hx := True.intro
                  have hx := getA Lt.Class.enc ho1 hx
                  refine rgA [1, 2, 5, 6] [] ?_
                  iterate 11 refine stA ?_
                  refine enA ?_
                  refine hN26 _ ?_
                  exact ⟨(IntKind.i64.wrap ((IntKind.i64.wrap (x8 + (((a0_p.Classes.getD x9.toNat default).Name).length : Int))) + (Lt.countVars ((a0_p.Classes.getD x9.toNat default).Fields) a1_most))), siA, h⟩
                · apply AW_skip
                  refine hN26 _ ?_
                  exact ⟨(IntKind.i64.wrap (x8 + (((a0_p.Classes.getD x9.toNat default).Name).length : Int))), siA, h⟩
              · rintro x10 h
                change F_Few_j7 x9 (fun y1 y2 => F_Few_l6 a0_p a1_most KK n23 y1 y2) x10 KK at h
                unfold F_Few_j7 at h
                have hx := True.intro
                refine rgA [1, 2, 5, 6] [] ?_
                iterate 3 refine stA ?_
                refine enA ?_
                exact hK23 _ (n23, x10, (IntKind.i64.wrap (x9 + 1))) siA h (Nat.lt_succ_self _)
            · apply AW_exit
              refine hE22 _ ?_
              exact ⟨x8, siA, h⟩
      · rintro x1 h
        change F_Few_j1 a0_p a1_most x1 KK at h
        unfold F_Few_j1 at h
        refine AW_joinO [] [1, 2, 5] [] (fun y : Int => ⟨[(1, .one (.c (.d (.int .i64 a1_most)))), (2, .one (.c (.pl ⟨.loc 2, 0, []⟩))), (5, .one (.c (.d (.int .i64 y))))], [(.loc 2, ⟨true, [.d (.bool a0_p.SSA), .d (.li (a0_p.Classes.map Lt.Class.enc)), .d (.li (a0_p.Globals.map Lt.Var.enc)), .d (.li (a0_p.Externs.map Lt.Extern.enc)), .d (.li (a0_p.Funcs.map Lt.Func.enc))]⟩)]⟩) (fun y => F_Few_j2 a0_p a1_most y KK) ?_ ?_
        · apply AW_seq_k
          intro K14 hK14
          have hx := True.intro
          refine rgA [1, 2, 5, 7] [] ?_
          refine stA ?_
          refine enA ?_
          refine hK14 _ ?_
          apply AW_block_k
          intro Q15 hN15 hE15 hO15
          obtain ⟨n16, h⟩ := h
          refine AW_loopO [] [1, 2, 5, 7] [] (fun y : Nat × Int × Int => ⟨[(1, .one (.c (.d (.int .i64 a1_most)))), (2, .one (.c (.pl ⟨.loc 2, 0, []⟩))), (5, .one (.c (.d (.int .i64 y.2.1)))), (7, .one (.c (.d (.int .i64 y.2.2))))], [(.loc 2, ⟨true, [.d (.bool a0_p.SSA), .d (.li (a0_p.Classes.map Lt.Class.enc)), .d (.li (a0_p.Globals.map Lt.Var.enc)), .d (.li (a0_p.Externs.map Lt.Extern.enc)), .d (.li (a0_p.Funcs.map Lt.Func.enc))]⟩)]⟩) (fun y => F_Few_l5 a0_p a1_most KK y.1 y.2.1 y.2.2) (fun y => y.1) (n16, x1, 0) ?_ h ?_
          · exact siA
          clear h
          rintro ⟨n16, x6, x7⟩ h K16 hK16
          cases n16 with
          | zero => exact h.elim
          | succ n16 =>
            change F_Few_l5 a0_p a1_most KK (n16 + 1) x6 x7 at h
            unfold F_Few_l5 at h
            apply AW_seq_k
            intro K17 hK17
            apply AW_seq_k
            intro K18 hK18
            have hx := True.intro
            refine rgV [1, 2, 5, 7] [] 72 (.one (.c (.d (.bool ((decide (x7 < (a0_p.Externs.length : Int))) && (decide (x6 ≤ a1_most))))))) ?_ ?_
            · clear h
              iterate 6 refine stA ?_
              cases hb : (decide (x7 < (a0_p.Externs.length : Int)))
              · have hx := And.intro hb hx
                iterate 4 refine stA ?_
                exact lfA
              · have hx := And.intro hb hx
                iterate 4 refine stA ?_
                exact lfA
            · refine hK18 _ ?_
              refine cdA h rfl (fun h => ?_) (fun h => ?_)
              · apply AW_skip
                refine hK17 _ ?_
                apply AW_seq_k
                intro K19 hK19
                apply AW_block_k
                intro Q20 hN20 hE20 hO20
                obtain ⟨ho1, h⟩ := h
                have hx := True.intro
                have hx := getA Lt.Extern.enc ho1 hx
                refine rgA [1, 2, 5, 7] [] ?_
                iterate 8 refine stA ?_
                refine stG fun hp => ?_
                iterate 2 refine stA ?_
                refine enA ?_
                have h := h (by assumption)
                refine hN20 _ ?_
                refine hK19 _ ?_
                have hx := True.intro
                refine rgA [1, 2, 5, 7] [] ?_
                iterate 3 refine stA ?_
                refine enA ?_
                exact hK16 _ (n16, (IntKind.i64.wrap ((IntKind.i64.wrap (x6 + 1)) + (((a0_p.Externs.getD x7.toNat default).Name).length : Int))), (IntKind.i64.wrap (x7 + 1))) siA h (Nat.lt_succ_self _)
              · apply AW_exit
                refine hE15 _ ?_
                exact ⟨x6, siA, h⟩
        · rintro x2 h
          change F_Few_j2 a0_p a1_most x2 KK at h
          unfold F_Few_j2 at h
          refine AW_joinO [] [1, 5] [.loc 2] (fun y : Int => ⟨[(1, .one (.c (.d (.int .i64 a1_most)))), (5, .one (.c (.d (.int .i64 y))))], []⟩) (fun y => F_Few_j3 a1_most y KK) ?_ ?_
          · apply AW_seq_k
            intro K7 hK7
            have hx := True.intro
            refine rgA [1, 2, 5, 8] [] ?_
            refine stA ?_
            refine enA ?_
            refine hK7 _ ?_
            apply AW_block_k
            intro Q8 hN8 hE8 hO8
            obtain ⟨n9, h⟩ := h
            refine AW_loopO [] [1, 2, 5, 8] [] (fun y : Nat × Int × Int => ⟨[(1, .one (.c (.d (.int .i64 a1_most)))), (2, .one (.c (.pl ⟨.loc 2, 0, []⟩))), (5, .one (.c (.d (.int .i64 y.2.1)))), (8, .one (.c (.d (.int .i64 y.2.2))))], [(.loc 2, ⟨true, [.d (.bool a0_p.SSA), .d (.li (a0_p.Classes.map Lt.Class.enc)), .d (.li (a0_p.Globals.map Lt.Var.enc)), .d (.li (a0_p.Externs.map Lt.Extern.enc)), .d (.li (a0_p.Funcs.map Lt.Func.enc))]⟩)]⟩) (fun y => F_Few_l4 a0_p a1_most KK y.1 y.2.1 y.2.2) (fun y => y.1) (n9, x2, 0) ?_ h ?_
            · exact siA
            clear h
            rintro ⟨n9, x4, x5⟩ h K9 hK9
            cases n9 with
            | zero => exact h.elim
            | succ n9 =>
              change F_Few_l4 a0_p a1_most KK (n9 + 1) x4 x5 at h
              unfold F_Few_l4 at h
              apply AW_seq_k
              intro K10 hK10
              apply AW_seq_k
              intro K11 hK11
              have hx := True.intro
              refine rgV [1, 2, 5, 8] [] 94 (.one (.c (.d (.bool ((decide (x5 < (a0_p.Funcs.length : Int))) && (decide (x4 ≤ a1_most))))))) ?_ ?_
              · clear h
                iterate 6 refine stA ?_
                cases hb : (decide (x5 < (a0_p.Funcs.length : Int)))
                · have hx := And.intro hb hx
                  iterate 4 refine stA ?_
                  exact lfA
                · have hx := And.intro hb hx
                  iterate 4 refine stA ?_
                  exact lfA
              · refine hK11 _ ?_
                refine cdA h rfl (fun h => ?_) (fun h => ?_)
                · apply AW_skip
                  refine hK10 _ ?_
                  apply AW_seq_k
                  intro K12 hK12
                  apply AW_block_k
                  intro Q13 hN13 hE13 hO13
                  obtain ⟨ho1, ho2, h⟩ := h
                  have hx := True.intro
                  have hx := getA Lt.Func.enc ho1 hx
                  have hx := useA ho2 hx
                  refine rgA [1, 2, 5, 8] [] ?_
                  iterate 10 refine stA ?_
                  refine enA ?_
                  refine hN13 _ ?_
                  refine hK12 _ ?_
                  have hx := True.intro
                  refine rgA [1, 2, 5, 8] [] ?_
                  iterate 3 refine stA ?_
                  refine enA ?_
                  exact hK9 _ (n9, (IntKind.i64.wrap (x4 + (Lt.FewFunc (a0_p.Funcs.getD x5.toNat default) a1_most))), (IntKind.i64.wrap (x5 + 1))) siA h (Nat.lt_succ_self _)
                · apply AW_exit
                  refine hE8 _ ?_
                  exact ⟨x4, siA, h⟩
          · rintro x3 h
            change F_Few_j3 a1_most x3 KK at h
            unfold F_Few_j3 at h
            apply AW_seq_k
            intro K6 hK6
            have hx := True.intro
            refine rgA [4] [] ?_
            iterate 4 refine stA ?_
            refine enA ?_
            refine hK6 _ ?_
            apply AW_ret
            exact fiA (hKK _ h)

def C_Few : CK1 := pureC (fn2 (cA Lt.Program.rw) (cI .i64) (o1 cB) (Lt.preFew) Lt.Few)
theorem c_Few : Con Try.prog 6 C_Few :=
  Con_fn2 (fn := Try.f6) (c := Try.f6.body.getD .skip) (by kernel_rfl) (by kernel_rfl) (by kernel_rfl) (by decide +kernel) (fun g a0_p a1_most K hg hp hK => walk_Few g hg a0_p a1_most K _ (fun _ h => h) (law_Few a0_p a1_most hp _ hK))
attribute [push_cast] C_Few

set_option maxRecDepth 100000 in
set_option maxHeartbeats 4000000 in
theorem walk_sameVars (g : G) (hg : g.nt = Try.f21.ntmps) (a0_a : List Lt.Var) (a1_b : List Lt.Var) (K : AV → Prop) (KK : (Bool) → Prop) (hKK : ∀ r, KK r → K (o1 cB r) ) (h : F_sameVars a0_a a1_b KK) :
    AW Try.prog g (Try.f21.body.getD .skip) (retQ Try.prog [.tmp 4] K) ⟨entryT 0 [.one ((cL Lt.Var.rw).enc a0_a), .one ((cL Lt.Var.rw).enc a1_b)], []⟩ := by
  have hcs : CT.Ok Try.prog [] := CT.ok0
  have hn : g.nt = 26 := hg
  have hm : Try.prog.follows .mixedOrders = true := by kernel_rfl
  unfold Try.f21
  dsimp only [Option.getD_some]
  unfold F_sameVars at h
  apply AW_seq_k
  intro K1 hK1
  have hx := True.intro
  refine rgA [0, 1] [] ?_
  refine stA ?_
  refine enA ?_
  refine hK1 _ ?_
  apply AW_seq_k
  intro K2 hK2
  apply AW_seq_k
  intro K3 hK3
  have hx := True.intro
  refine rgA [0, 1, 10] [] ?_
  refine stA ?_
  refine stG fun hp => ?_
  refine stA ?_
  refine stG fun hp => ?_
  refine stA ?_
  refine enA ?_
  have h := h (by assumption)
  have h := h (by assumption)
  refine hK3 _ ?_
  refine cdA h rfl (fun h => ?_) (fun h => ?_)
  · apply AW_seq_k
    intro K4 hK4
    have hx := True.intro
    refine rgA [4] [] ?_
    refine stA ?_
    refine enA ?_
    refine hK4 _ ?_
    apply AW_ret
    exact fiA (hKK _ h)
  · apply AW_skip
    refine hK2 _ ?_
    refine AW_joinO [] [] [] (fun y : Unit => ⟨[], []⟩) (fun y => F_sameVars_j1 KK) ?_ ?_
    · apply AW_seq_k
      intro K6 hK6
      have hx := True.intro
      refine rgA [0, 1, 5] [] ?_
      refine stA ?_
      refine enA ?_
      refine hK6 _ ?_
      apply AW_block_k
      intro Q7 hN7 hE7 hO7
      obtain ⟨n8, h⟩ := h
      refine AW_loopO [] [0, 1, 5] [] (fun y : Nat × Int => ⟨[(0, .one (.c (.d (.li (a0_a.map Lt.Var.enc))))), (1, .one (.c (.d (.li (a1_b.map Lt.Var.enc))))), (5, .one (.c (.d (.int .i64 y.2))))], []⟩) (fun y => F_sameVars_l2 a0_a a1_b KK y.1 y.2) (fun y => y.1) (n8, 0) ?_ h ?_
      · exact siA
      clear h
      rintro ⟨n8, x1⟩ h K8 hK8
      cases n8 with
      | zero => exact h.elim
      | succ n8 =>
        change F_sameVars_l2 a0_a a1_b KK (n8 + 1) x1 at h
        unfold F_sameVars_l2 at h
        apply AW_seq_k
        intro K9 hK9
        apply AW_seq_k
        intro K10 hK10
        have hx := True.intro
        refine rgA [0, 1, 5, 14] [] ?_
        iterate 2 refine stA ?_
        refine stG fun hp => ?_
        refine stA ?_
        refine enA ?_
        have h := h (by assumption)
        refine hK10 _ ?_
        refine cdA h rfl (fun h => ?_) (fun h => ?_)
        · apply AW_skip
          refine hK9 _ ?_
          apply AW_seq_k
          intro K11 hK11
          apply AW_block_k
          intro Q12 hN12 hE12 hO12
          apply AW_seq_k
          intro K13 hK13
          obtain ⟨ho1, ho2, h⟩ := h
          have hx := True.intro
          have hx := getA Lt.Var.enc ho1 hx
          have hx := getA Lt.Var.enc ho2 hx
          refine dgA [0, 1, 5, 25] [] (.take 0 [] true (.take 1 [] true (.take 2 [] true (.take 3 [] true (.take 4 [] true (.take 5 [] true (.take 6 [] true (.take 7 [] true (.take 8 [] true (.done)))))))))) ?_
          iterate 9 refine dtA ?_
          refine deA ?_
          refine hK13 _ ?_
          refine cdA h rfl (fun h => ?_) (fun h => ?_)
          · apply AW_seq_k
            intro K14 hK14
            have hx := True.intro
            refine rgA [4] [] ?_
            refine stA ?_
            refine enA ?_
            refine hK14 _ ?_
            apply AW_ret
            refine hO12 _ _ (by simp) ?_
            refine hO7 _ _ (by simp) ?_
            exact fiA (hKK _ h)
          · apply AW_skip
            refine hN12 _ ?_
            refine hK11 _ ?_
            have hx := True.intro
            refine rgA [0, 1, 5] [] ?_
            iterate 3 refine stA ?_
            refine enA ?_
            exact hK8 _ (n8, (IntKind.i64.wrap (x1 + 1))) siA h (Nat.lt_succ_self _)
        · apply AW_exit
          refine hE7 _ ?_
          exact ⟨(), siA, h⟩
    · rintro _ h
      change F_sameVars_j1 KK at h
      unfold F_sameVars_j1 at h
      apply AW_seq_k
      intro K5 hK5
      have hx := True.intro
      refine rgA [4] [] ?_
      refine stA ?_
      refine enA ?_
      refine hK5 _ ?_
      apply AW_ret
      exact fiA (hKK _ h)

def C_sameVars : CK1 := pureC (fn2 (cL Lt.Var.rw) (cL Lt.Var.rw) (o1 cB) (fun _ _ => True) Lt.sameVars)
theorem c_sameVars : Con Try.prog 21 C_sameVars :=
  Con_fn2 (fn := Try.f21) (c := Try.f21.body.getD .skip) (by kernel_rfl) (by kernel_rfl) (by kernel_rfl) (by decide +kernel) (fun g a0_a a1_b K hg hp hK => walk_sameVars g hg a0_a a1_b K _ (fun _ h => h) (law_sameVars a0_a a1_b _ hK))
attribute [push_cast] C_sameVars

set_option maxRecDepth 100000 in
set_option maxHeartbeats 4000000 in
theorem walk_sameArgs (g : G) (hg : g.nt = Try.f54.ntmps) (a0_a : List Lt.Arg) (a1_b : List Lt.Arg) (K : AV → Prop) (KK : (Bool) → Prop) (hKK : ∀ r, KK r → K (o1 cB r) ) (h : F_sameArgs a0_a a1_b KK) :
    AW Try.prog g (Try.f54.body.getD .skip) (retQ Try.prog [.tmp 4] K) ⟨entryT 0 [.one ((cL Lt.Arg.rw).enc a0_a), .one ((cL Lt.Arg.rw).enc a1_b)], []⟩ := by
  have hcs : CT.Ok Try.prog [] := CT.ok0
  have hn : g.nt = 26 := hg
  have hm : Try.prog.follows .mixedOrders = true := by kernel_rfl
  unfold Try.f54
  dsimp only [Option.getD_some]
  unfold F_sameArgs at h
  apply AW_seq_k
  intro K1 hK1
  have hx := True.intro
  refine rgA [0, 1] [] ?_
  refine stA ?_
  refine enA ?_
  refine hK1 _ ?_
  apply AW_seq_k
  intro K2 hK2
  apply AW_seq_k
  intro K3 hK3
  have hx := True.intro
  refine rgA [0, 1, 10] [] ?_
  refine stA ?_
  refine stG fun hp => ?_
  refine stA ?_
  refine stG fun hp => ?_
  refine stA ?_
  refine enA ?_
  have h := h (by assumption)
  have h := h (by assumption)
  refine hK3 _ ?_
  refine cdA h rfl (fun h => ?_) (fun h => ?_)
  · apply AW_seq_k
    intro K4 hK4
    have hx := True.intro
    refine rgA [4] [] ?_
    refine stA ?_
    refine enA ?_
    refine hK4 _ ?_
    apply AW_ret
    exact fiA (hKK _ h)
  · apply AW_skip
    refine hK2 _ ?_
    refine AW_joinO [] [] [] (fun y : Unit => ⟨[], []⟩) (fun y => F_sameArgs_j1 KK) ?_ ?_
    · apply AW_seq_k
      intro K6 hK6
      have hx := True.intro
      refine rgA [0, 1, 5] [] ?_
      refine stA ?_
      refine enA ?_
      refine hK6 _ ?_
      apply AW_block_k
      intro Q7 hN7 hE7 hO7
      obtain ⟨n8, h⟩ := h
      refine AW_loopO [] [0, 1, 5] [] (fun y : Nat × Int => ⟨[(0, .one (.c (.d (.li (a0_a.map Lt.Arg.enc))))), (1, .one (.c (.d (.li (a1_b.map Lt.Arg.enc))))), (5, .one (.c (.d (.int .i64 y.2))))], []⟩) (fun y => F_sameArgs_l2 a0_a a1_b KK y.1 y.2) (fun y => y.1) (n8, 0) ?_ h ?_
      · exact siA
      clear h
      rintro ⟨n8, x1⟩ h K8 hK8
      cases n8 with
      | zero => exact h.elim
      | succ n8 =>
        change F_sameArgs_l2 a0_a a1_b KK (n8 + 1) x1 at h
        unfold F_sameArgs_l2 at h
        apply AW_seq_k
        intro K9 hK9
        apply AW_seq_k
        intro K10 hK10
        have hx := True.intro
        refine rgA [0, 1, 5, 14] [] ?_
        iterate 2 refine stA ?_
        refine stG fun hp => ?_
        refine stA ?_
        refine enA ?_
        have h := h (by assumption)
        refine hK10 _ ?_
        refine cdA h rfl (fun h => ?_) (fun h => ?_)
        · apply AW_skip
          refine hK9 _ ?_
          apply AW_seq_k
          intro K11 hK11
          apply AW_block_k
          intro Q12 hN12 hE12 hO12
          apply AW_seq_k
          intro K13 hK13
          obtain ⟨ho1, ho2, h⟩ := h
          have hx := True.intro
          have hx := getA Lt.Arg.enc ho1 hx
          have hx := getA Lt.Arg.enc ho2 hx
          refine dgA [0, 1, 5, 25] [] (.take 0 [] true (.take 1 [] true (.take 2 [] true (.take 3 [] true (.take 4 [] true (.take 5 [] true (.take 6 [] true (.take 7 [] true (.take 8 [] true (.done)))))))))) ?_
          iterate 9 refine dtA ?_
          refine deA ?_
          refine hK13 _ ?_
          refine cdA h rfl (fun h => ?_) (fun h => ?_)
          · apply AW_seq_k
            intro K14 hK14
            have hx := True.intro
            refine rgA [4] [] ?_
            refine stA ?_
            refine enA ?_
            refine hK14 _ ?_
            apply AW_ret
            refine hO12 _ _ (by simp) ?_
            refine hO7 _ _ (by simp) ?_
            exact fiA (hKK _ h)
          · apply AW_skip
            refine hN12 _ ?_
            refine hK11 _ ?_
            have hx := True.intro
            refine rgA [0, 1, 5] [] ?_
            iterate 3 refine stA ?_
            refine enA ?_
            exact hK8 _ (n8, (IntKind.i64.wrap (x1 + 1))) siA h (Nat.lt_succ_self _)
        · apply AW_exit
          refine hE7 _ ?_
          exact ⟨(), siA, h⟩
    · rintro _ h
      change F_sameArgs_j1 KK at h
      unfold F_sameArgs_j1 at h
      apply AW_seq_k
      intro K5 hK5
      have hx := True.intro
      refine rgA [4] [] ?_
      refine stA ?_
      refine enA ?_
      refine hK5 _ ?_
      apply AW_ret
      exact fiA (hKK _ h)

def C_sameArgs : CK1 := pureC (fn2 (cL Lt.Arg.rw) (cL Lt.Arg.rw) (o1 cB) (fun _ _ => True) Lt.sameArgs)
theorem c_sameArgs : Con Try.prog 54 C_sameArgs :=
  Con_fn2 (fn := Try.f54) (c := Try.f54.body.getD .skip) (by kernel_rfl) (by kernel_rfl) (by kernel_rfl) (by decide +kernel) (fun g a0_a a1_b K hg hp hK => walk_sameArgs g hg a0_a a1_b K _ (fun _ h => h) (law_sameArgs a0_a a1_b _ hK))
attribute [push_cast] C_sameArgs

set_option maxRecDepth 100000 in
set_option maxHeartbeats 4000000 in
theorem walk_SameInstr (g : G) (hg : g.nt = Try.f47.ntmps) (a0_a : Lt.Instr) (a1_b : Lt.Instr) (K : AV → Prop) (KK : (Bool) → Prop) (hKK : ∀ r, KK r → K (o1 cB r) ) (h : F_SameInstr a0_a a1_b KK) :
    AW Try.prog g (Try.f47.body.getD .skip) (retQ Try.prog [.tmp 4] K) ⟨entryT 0 [.one ((cA Lt.Instr.rw).enc a0_a), .one ((cA Lt.Instr.rw).enc a1_b)], []⟩ := by
  have hcs : CT.Ok Try.prog [(54, C_sameArgs)] := (CT.cons c_sameArgs CT.ok0)
  have hn : g.nt = 154 := hg
  have hm : Try.prog.follows .mixedOrders = true := by kernel_rfl
  unfold Try.f47
  dsimp only [Option.getD_some]
  unfold F_SameInstr at h
  apply AW_seq_k
  intro K1 hK1
  have hx := True.intro
  refine rgA [2, 3] [] ?_
  iterate 3 refine stA ?_
  refine enA ?_
  refine hK1 _ ?_
  apply AW_seq_k
  intro K2 hK2
  apply AW_seq_k
  intro K3 hK3
  have hx := True.intro
  refine rgV [2, 3] [] 54 (.one (.c (.d (.bool ((((((!decide (a0_a.Op = a1_b.Op)) || (!decide (a0_a.Dst = a1_b.Dst))) || (!decide (a0_a.Name = a1_b.Name))) || (!(Lt.sameArgs a0_a.Args a1_b.Args))) || (!decide ((a0_a.Frames.length : Int) = (a1_b.Frames.length : Int)))) || (!decide ((a0_a.Objs.length : Int) = (a1_b.Objs.length : Int)))))))) ?_ ?_
  · clear h
    iterate 6 refine stA ?_
    cases hb : (decide (a0_a.Op = a1_b.Op))
    · have hx := And.intro hb hx
      iterate 39 refine stA ?_
      exact lfA
    · have hx := And.intro hb hx
      iterate 7 refine stA ?_
      cases hb : (decide (a0_a.Dst = a1_b.Dst))
      · have hx := And.intro hb hx
        iterate 32 refine stA ?_
        exact lfA
      · have hx := And.intro hb hx
        iterate 7 refine stA ?_
        cases hb : (decide (a0_a.Name = a1_b.Name))
        · have hx := And.intro hb hx
          iterate 25 refine stA ?_
          exact lfA
        · have hx := And.intro hb hx
          iterate 8 refine stA ?_
          cases hb : (Lt.sameArgs a0_a.Args a1_b.Args)
          · have hx := And.intro hb hx
            iterate 17 refine stA ?_
            exact lfA
          · have hx := And.intro hb hx
            iterate 9 refine stA ?_
            cases hb : (decide ((a0_a.Frames.length : Int) = (a1_b.Frames.length : Int)))
            · have hx := And.intro hb hx
              iterate 8 refine stA ?_
              exact lfA
            · have hx := And.intro hb hx
              iterate 8 refine stA ?_
              exact lfA
  · refine hK3 _ ?_
    refine cdA h rfl (fun h => ?_) (fun h => ?_)
    · apply AW_seq_k
      intro K4 hK4
      have hx := True.intro
      refine rgA [4] [.loc 3, .loc 2] ?_
      refine stA ?_
      refine enA ?_
      refine hK4 _ ?_
      apply AW_ret
      exact fiA (hKK _ h)
    · apply AW_skip
      refine hK2 _ ?_
      refine AW_joinO [] [2, 3] [] (fun y : Unit => ⟨[(2, .one (.c (.pl ⟨.loc 2, 0, []⟩))), (3, .one (.c (.pl ⟨.loc 3, 0, []⟩)))], [(.loc 3, ⟨true, [.d (.int .i64 a1_b.Op), .d (.str a1_b.Dst), .d (.str a1_b.Name), .d (.li (a1_b.Args.map Lt.Arg.enc)), .d (.li (a1_b.Frames.map Lt.Frame.enc)), .d (.li (a1_b.Objs.map Lt.Virt.enc))]⟩), (.loc 2, ⟨true, [.d (.int .i64 a0_a.Op), .d (.str a0_a.Dst), .d (.str a0_a.Name), .d (.li (a0_a.Args.map Lt.Arg.enc)), .d (.li (a0_a.Frames.map Lt.Frame.enc)), .d (.li (a0_a.Objs.map Lt.Virt.enc))]⟩)]⟩) (fun y => F_SameInstr_j1 a0_a a1_b KK) ?_ ?_
      · apply AW_seq_k
        intro K15 hK15
        have hx := True.intro
        refine rgA [2, 3, 5] [] ?_
        refine stA ?_
        refine enA ?_
        refine hK15 _ ?_
        apply AW_block_k
        intro Q16 hN16 hE16 hO16
        obtain ⟨n17, h⟩ := h
        refine AW_loopO [] [2, 3, 5] [] (fun y : Nat × Int => ⟨[(2, .one (.c (.pl ⟨.loc 2, 0, []⟩))), (3, .one (.c (.pl ⟨.loc 3, 0, []⟩))), (5, .one (.c (.d (.int .i64 y.2))))], [(.loc 3, ⟨true, [.d (.int .i64 a1_b.Op), .d (.str a1_b.Dst), .d (.str a1_b.Name), .d (.li (a1_b.Args.map Lt.Arg.enc)), .d (.li (a1_b.Frames.map Lt.Frame.enc)), .d (.li (a1_b.Objs.map Lt.Virt.enc))]⟩), (.loc 2, ⟨true, [.d (.int .i64 a0_a.Op), .d (.str a0_a.Dst), .d (.str a0_a.Name), .d (.li (a0_a.Args.map Lt.Arg.enc)), .d (.li (a0_a.Frames.map Lt.Frame.enc)), .d (.li (a0_a.Objs.map Lt.Virt.enc))]⟩)]⟩) (fun y => F_SameInstr_l4 a0_a a1_b KK y.1 y.2) (fun y => y.1) (n17, 0) ?_ h ?_
        · exact siA
        clear h
        rintro ⟨n17, x2⟩ h K17 hK17
        cases n17 with
        | zero => exact h.elim
        | succ n17 =>
          change F_SameInstr_l4 a0_a a1_b KK (n17 + 1) x2 at h
          unfold F_SameInstr_l4 at h
          apply AW_seq_k
          intro K18 hK18
          apply AW_seq_k
          intro K19 hK19
          have hx := True.intro
          refine rgA [2, 3, 5, 59] [] ?_
          iterate 3 refine stA ?_
          refine stG fun hp => ?_
          refine stA ?_
          refine enA ?_
          have h := h (by assumption)
          refine hK19 _ ?_
          refine cdA h rfl (fun h => ?_) (fun h => ?_)
          · apply AW_skip
            refine hK18 _ ?_
            refine AW_joinO [] [2, 3, 5] [.loc 7, .loc 6] (fun y : Unit => ⟨[(2, .one (.c (.pl ⟨.loc 2, 0, []⟩))), (3, .one (.c (.pl ⟨.loc 3, 0, []⟩))), (5, .one (.c (.d (.int .i64 x2))))], [(.loc 3, ⟨true, [.d (.int .i64 a1_b.Op), .d (.str a1_b.Dst), .d (.str a1_b.Name), .d (.li (a1_b.Args.map Lt.Arg.enc)), .d (.li (a1_b.Frames.map Lt.Frame.enc)), .d (.li (a1_b.Objs.map Lt.Virt.enc))]⟩), (.loc 2, ⟨true, [.d (.int .i64 a0_a.Op), .d (.str a0_a.Dst), .d (.str a0_a.Name), .d (.li (a0_a.Args.map Lt.Arg.enc)), .d (.li (a0_a.Frames.map Lt.Frame.enc)), .d (.li (a0_a.Objs.map Lt.Virt.enc))]⟩)]⟩) (fun y => F_SameInstr_j5 x2 (fun y1 => F_SameInstr_l4 a0_a a1_b KK n17 y1) KK) ?_ ?_
            · apply AW_block_k
              intro Q20 hN20 hE20 hO20
              apply AW_seq_k
              intro K21 hK21
              obtain ⟨ho1, h⟩ := h
              have hx := True.intro
              have hx := getA Lt.Frame.enc ho1 hx
              refine rgA [2, 3, 5, 6] [] ?_
              iterate 7 refine stA ?_
              refine enA ?_
              refine hK21 _ ?_
              apply AW_seq_k
              intro K22 hK22
              obtain ⟨ho1, h⟩ := h
              have hx := True.intro
              have hx := getA Lt.Frame.enc ho1 hx
              refine rgA [2, 3, 5, 6, 7] [] ?_
              iterate 7 refine stA ?_
              refine enA ?_
              refine hK22 _ ?_
              apply AW_seq_k
              intro K23 hK23
              apply AW_seq_k
              intro K24 hK24
              have hx := True.intro
              refine rgV [2, 3, 5, 6, 7] [] 99 (.one (.c (.d (.bool ((((!decide ((a0_a.Frames.getD x2.toNat default).Func = (a1_b.Frames.getD x2.toNat default).Func)) || (!decide ((a0_a.Frames.getD x2.toNat default).Block = (a1_b.Frames.getD x2.toNat default).Block))) || (!decide ((a0_a.Frames.getD x2.toNat default).At = (a1_b.Frames.getD x2.toNat default).At))) || (!decide ((((a0_a.Frames.getD x2.toNat default).Vars).length : Int) = (((a1_b.Frames.getD x2.toNat default).Vars).length : Int)))))))) ?_ ?_
              · clear h
                iterate 6 refine stA ?_
                cases hb : (decide ((a0_a.Frames.getD x2.toNat default).Func = (a1_b.Frames.getD x2.toNat default).Func))
                · have hx := And.intro hb hx
                  iterate 22 refine stA ?_
                  exact lfA
                · have hx := And.intro hb hx
                  iterate 7 refine stA ?_
                  cases hb : (decide ((a0_a.Frames.getD x2.toNat default).Block = (a1_b.Frames.getD x2.toNat default).Block))
                  · have hx := And.intro hb hx
                    iterate 15 refine stA ?_
                    exact lfA
                  · have hx := And.intro hb hx
                    iterate 7 refine stA ?_
                    cases hb : (decide ((a0_a.Frames.getD x2.toNat default).At = (a1_b.Frames.getD x2.toNat default).At))
                    · have hx := And.intro hb hx
                      iterate 8 refine stA ?_
                      exact lfA
                    · have hx := And.intro hb hx
                      iterate 8 refine stA ?_
                      exact lfA
              · refine hK24 _ ?_
                refine cdA h rfl (fun h => ?_) (fun h => ?_)
                · apply AW_seq_k
                  intro K25 hK25
                  have hx := True.intro
                  refine rgA [4] [.loc 7, .loc 6, .loc 3, .loc 2] ?_
                  refine stA ?_
                  refine enA ?_
                  refine hK25 _ ?_
                  apply AW_ret
                  refine hO20 _ _ (by simp) ?_
                  refine hO16 _ _ (by simp) ?_
                  exact fiA (hKK _ h)
                · apply AW_skip
                  refine hK23 _ ?_
                  apply AW_seq_k
                  intro K26 hK26
                  have hx := True.intro
                  refine rgA [2, 3, 5, 6, 7, 8] [] ?_
                  refine stA ?_
                  refine enA ?_
                  refine hK26 _ ?_
                  apply AW_block_k
                  intro Q27 hN27 hE27 hO27
                  obtain ⟨n28, h⟩ := h
                  refine AW_loopO [] [2, 3, 5, 6, 7, 8] [] (fun y : Nat × Int => ⟨[(2, .one (.c (.pl ⟨.loc 2, 0, []⟩))), (3, .one (.c (.pl ⟨.loc 3, 0, []⟩))), (5, .one (.c (.d (.int .i64 x2)))), (6, .one (.c (.pl ⟨.loc 6, 0, []⟩))), (7, .one (.c (.pl ⟨.loc 7, 0, []⟩))), (8, .one (.c (.d (.int .i64 y.2))))], [(.loc 7, ⟨true, [.d (.str ((a1_b.Frames.getD x2.toNat default).Func)), .d (.str ((a1_b.Frames.getD x2.toNat default).Block)), .d (.int .i64 ((a1_b.Frames.getD x2.toNat default).At)), .d (.li (((a1_b.Frames.getD x2.toNat default).Vars).map Lt.Bind.enc))]⟩), (.loc 6, ⟨true, [.d (.str ((a0_a.Frames.getD x2.toNat default).Func)), .d (.str ((a0_a.Frames.getD x2.toNat default).Block)), .d (.int .i64 ((a0_a.Frames.getD x2.toNat default).At)), .d (.li (((a0_a.Frames.getD x2.toNat default).Vars).map Lt.Bind.enc))]⟩), (.loc 3, ⟨true, [.d (.int .i64 a1_b.Op), .d (.str a1_b.Dst), .d (.str a1_b.Name), .d (.li (a1_b.Args.map Lt.Arg.enc)), .d (.li (a1_b.Frames.map Lt.Frame.enc)), .d (.li (a1_b.Objs.map Lt.Virt.enc))]⟩), (.loc 2, ⟨true, [.d (.int .i64 a0_a.Op), .d (.str a0_a.Dst), .d (.str a0_a.Name), .d (.li (a0_a.Args.map Lt.Arg.enc)), .d (.li (a0_a.Frames.map Lt.Frame.enc)), .d (.li (a0_a.Objs.map Lt.Virt.enc))]⟩)]⟩) (fun y => F_SameInstr_l6 a0_a a1_b x2 (fun y1 => F_SameInstr_l4 a0_a a1_b KK n17 y1) KK y.1 y.2) (fun y => y.1) (n28, 0) ?_ h ?_
                  · exact siA
                  clear h
                  rintro ⟨n28, x3⟩ h K28 hK28
                  cases n28 with
                  | zero => exact h.elim
                  | succ n28 =>
                    change F_SameInstr_l6 a0_a a1_b x2 (fun y1 => F_SameInstr_l4 a0_a a1_b KK n17 y1) KK (n28 + 1) x3 at h
                    unfold F_SameInstr_l6 at h
                    apply AW_seq_k
                    intro K29 hK29
                    apply AW_seq_k
                    intro K30 hK30
                    have hx := True.intro
                    refine rgA [2, 3, 5, 6, 7, 8, 104] [] ?_
                    iterate 3 refine stA ?_
                    refine stG fun hp => ?_
                    refine stA ?_
                    refine enA ?_
                    have h := h (by assumption)
                    refine hK30 _ ?_
                    refine cdA h rfl (fun h => ?_) (fun h => ?_)
                    · apply AW_skip
                      refine hK29 _ ?_
                      apply AW_seq_k
                      intro K31 hK31
                      apply AW_block_k
                      intro Q32 hN32 hE32 hO32
                      apply AW_seq_k
                      intro K33 hK33
                      obtain ⟨ho1, ho2, h⟩ := h
                      have hx := True.intro
                      have hx := getA Lt.Bind.enc ho1 hx
                      have hx := getA Lt.Bind.enc ho2 hx
                      refine dgA [2, 3, 5, 6, 7, 8, 117] [] (.take 0 [] true (.take 1 [3, 4, 10] false (.take 2 [] true (.take 3 [] true (.take 4 [] true (.take 5 [] true (.take 6 [8, 9, 10] false (.take 7 [] true (.take 8 [] true (.take 9 [] true (.take 10 [] true (.done)))))))))))) ?_
                      iterate 11 refine dtA ?_
                      refine deA ?_
                      refine hK33 _ ?_
                      refine cdA h rfl (fun h => ?_) (fun h => ?_)
                      · apply AW_seq_k
                        intro K34 hK34
                        have hx := True.intro
                        refine rgA [4] [.loc 7, .loc 6, .loc 3, .loc 2] ?_
                        refine stA ?_
                        refine enA ?_
                        refine hK34 _ ?_
                        apply AW_ret
                        refine hO32 _ _ (by simp) ?_
                        refine hO27 _ _ (by simp) ?_
                        refine hO20 _ _ (by simp) ?_
                        refine hO16 _ _ (by simp) ?_
                        exact fiA (hKK _ h)
                      · apply AW_skip
                        refine hN32 _ ?_
                        refine hK31 _ ?_
                        have hx := True.intro
                        refine rgA [2, 3, 5, 6, 7, 8] [] ?_
                        iterate 3 refine stA ?_
                        refine enA ?_
                        exact hK28 _ (n28, (IntKind.i64.wrap (x3 + 1))) siA h (Nat.lt_succ_self _)
                    · apply AW_exit
                      refine hE27 _ ?_
                      refine hN20 _ ?_
                      exact ⟨(), siA, h⟩
            · rintro _ h
              change F_SameInstr_j5 x2 (fun y1 => F_SameInstr_l4 a0_a a1_b KK n17 y1) KK at h
              unfold F_SameInstr_j5 at h
              have hx := True.intro
              refine rgA [2, 3, 5] [] ?_
              iterate 3 refine stA ?_
              refine enA ?_
              exact hK17 _ (n17, (IntKind.i64.wrap (x2 + 1))) siA h (Nat.lt_succ_self _)
          · apply AW_exit
            refine hE16 _ ?_
            exact ⟨(), siA, h⟩
      · rintro _ h
        change F_SameInstr_j1 a0_a a1_b KK at h
        unfold F_SameInstr_j1 at h
        refine AW_joinO [] [] [.loc 3, .loc 2] (fun y : Unit => ⟨[], []⟩) (fun y => F_SameInstr_j2 KK) ?_ ?_
        · apply AW_seq_k
          intro K6 hK6
          have hx := True.intro
          refine rgA [2, 3, 9] [] ?_
          refine stA ?_
          refine enA ?_
          refine hK6 _ ?_
          apply AW_block_k
          intro Q7 hN7 hE7 hO7
          obtain ⟨n8, h⟩ := h
          refine AW_loopO [] [2, 3, 9] [] (fun y : Nat × Int => ⟨[(2, .one (.c (.pl ⟨.loc 2, 0, []⟩))), (3, .one (.c (.pl ⟨.loc 3, 0, []⟩))), (9, .one (.c (.d (.int .i64 y.2))))], [(.loc 3, ⟨true, [.d (.int .i64 a1_b.Op), .d (.str a1_b.Dst), .d (.str a1_b.Name), .d (.li (a1_b.Args.map Lt.Arg.enc)), .d (.li (a1_b.Frames.map Lt.Frame.enc)), .d (.li (a1_b.Objs.map Lt.Virt.enc))]⟩), (.loc 2, ⟨true, [.d (.int .i64 a0_a.Op), .d (.str a0_a.Dst), .d (.str a0_a.Name), .d (.li (a0_a.Args.map Lt.Arg.enc)), .d (.li (a0_a.Frames.map Lt.Frame.enc)), .d (.li (a0_a.Objs.map Lt.Virt.enc))]⟩)]⟩) (fun y => F_SameInstr_l3 a0_a a1_b KK y.1 y.2) (fun y => y.1) (n8, 0) ?_ h ?_
          · exact siA
          clear h
          rintro ⟨n8, x1⟩ h K8 hK8
          cases n8 with
          | zero => exact h.elim
          | succ n8 =>
            change F_SameInstr_l3 a0_a a1_b KK (n8 + 1) x1 at h
            unfold F_SameInstr_l3 at h
            apply AW_seq_k
            intro K9 hK9
            apply AW_seq_k
            intro K10 hK10
            have hx := True.intro
            refine rgA [2, 3, 9, 122] [] ?_
            iterate 3 refine stA ?_
            refine stG fun hp => ?_
            refine stA ?_
            refine enA ?_
            have h := h (by assumption)
            refine hK10 _ ?_
            refine cdA h rfl (fun h => ?_) (fun h => ?_)
            · apply AW_skip
              refine hK9 _ ?_
              apply AW_seq_k
              intro K11 hK11
              apply AW_block_k
              intro Q12 hN12 hE12 hO12
              apply AW_seq_k
              intro K13 hK13
              obtain ⟨ho1, ho2, ho3, ho4, h⟩ := h
              have hx := True.intro
              have hx := getA Lt.Virt.enc ho1 hx
              have hx := getA Lt.Virt.enc ho2 hx
              refine dgV [2, 3, 9] [] 153 (.one (.c (.d (.bool ((!decide ((a0_a.Objs.getD x1.toNat default).Class = (a1_b.Objs.getD x1.toNat default).Class)) || (!(Lt.sameArgs ((a0_a.Objs.getD x1.toNat default).Vals) ((a1_b.Objs.getD x1.toNat default).Vals)))))))) (.take 0 [] true (.take 1 [3, 4, 5, 12, 13, 14, 15, 16, 17, 18, 19, 20, 21, 22, 23, 24, 25, 26, 27, 28] false (.take 2 [] true (.take 3 [] true (.take 4 [] true (.take 5 [] true (.take 6 [] true (.take 7 [9, 10, 11, 12, 13, 14, 15, 16, 17, 18, 19, 20, 21, 22, 23, 24, 25, 26, 27, 28] false (.take 8 [] true (.take 9 [] true (.take 10 [] true (.take 11 [] true (.take 12 [] true (.take 13 [] true (.take 14 [] true (.take 15 [17, 18, 19, 26, 27, 28] false (.take 16 [] true (.take 17 [] true (.take 18 [] true (.take 19 [] true (.take 20 [] true (.take 21 [23, 24, 25, 26, 27, 28] false (.take 22 [] true (.take 23 [] true (.take 24 [] true (.take 25 [] true (.one 26 (.take 27 [] true (.take 28 [] true (.done)))))))))))))))))))))))))))))) ?_ ?_
              · clear h
                cases hb : (decide ((a0_a.Objs.getD x1.toNat default).Class = (a1_b.Objs.getD x1.toNat default).Class))
                · have hx := And.intro hb hx
                  iterate 26 refine dtA ?_
                  refine doA ?_
                  iterate 2 refine dtA ?_
                  exact dlA
                · have hx := And.intro hb hx
                  have ho3 := ho3 (by simp only [push_cast, hx])
                  have hx := getA Lt.Virt.enc ho3 hx
                  have ho4 := ho4 (by simp only [push_cast, hx])
                  have hx := getA Lt.Virt.enc ho4 hx
                  iterate 26 refine dtA ?_
                  refine doA ?_
                  iterate 2 refine dtA ?_
                  exact dlA
              · refine hK13 _ ?_
                refine cdA h rfl (fun h => ?_) (fun h => ?_)
                · apply AW_seq_k
                  intro K14 hK14
                  have hx := True.intro
                  refine rgA [4] [.loc 3, .loc 2] ?_
                  refine stA ?_
                  refine enA ?_
                  refine hK14 _ ?_
                  apply AW_ret
                  refine hO12 _ _ (by simp) ?_
                  refine hO7 _ _ (by simp) ?_
                  exact fiA (hKK _ h)
                · apply AW_skip
                  refine hN12 _ ?_
                  refine hK11 _ ?_
                  have hx := True.intro
                  refine rgA [2, 3, 9] [] ?_
                  iterate 3 refine stA ?_
                  refine enA ?_
                  exact hK8 _ (n8, (IntKind.i64.wrap (x1 + 1))) siA h (Nat.lt_succ_self _)
            · apply AW_exit
              refine hE7 _ ?_
              exact ⟨(), siA, h⟩
        · rintro _ h
          change F_SameInstr_j2 KK at h
          unfold F_SameInstr_j2 at h
          apply AW_seq_k
          intro K5 hK5
          have hx := True.intro
          refine rgA [4] [] ?_
          refine stA ?_
          refine enA ?_
          refine hK5 _ ?_
          apply AW_ret
          exact fiA (hKK _ h)

def C_SameInstr : CK1 := pureC (fn2 (cA Lt.Instr.rw) (cA Lt.Instr.rw) (o1 cB) (fun _ _ => True) Lt.SameInstr)
theorem c_SameInstr : Con Try.prog 47 C_SameInstr :=
  Con_fn2 (fn := Try.f47) (c := Try.f47.body.getD .skip) (by kernel_rfl) (by kernel_rfl) (by kernel_rfl) (by decide +kernel) (fun g a0_a a1_b K hg hp hK => walk_SameInstr g hg a0_a a1_b K _ (fun _ h => h) (law_SameInstr a0_a a1_b _ hK))
attribute [push_cast] C_SameInstr

end Go.Am
end
