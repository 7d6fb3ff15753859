/-
  Part 14: AmK_4 · AmReadT · AmK_Unlike · AmLaw9 · AmLaw10 · AmLaw11 · AmLaw12.
-/
import Derived.Test.YtembkmhdijoppaaUn13
set_option linter.unusedSimpArgs false
set_option linter.unusedVariables false
set_option linter.unusedSectionVars false
set_option linter.unnecessarySimpa false
section
namespace Go.Am
open Go.Proofs
set_option linter.unusedSimpArgs false
set_option linter.unusedVariables false
set_option maxRecDepth 100000 in
set_option maxHeartbeats 4000000 in
theorem walk_sameBlock (g : G) (hg : g.nt = Try.f36.ntmps) (a0_a : Lt.Block) (a1_b : Lt.Block) (K : AV → Prop) (KK : (Bool) → Prop) (hKK : ∀ r, KK r → K (o1 cB r) ) (h : F_sameBlock a0_a a1_b KK) :
    AW Try.prog g (Try.f36.body.getD .skip) (retQ Try.prog [.tmp 4] K) ⟨entryT 0 [.one ((cA Lt.Block.rw).enc a0_a), .one ((cA Lt.Block.rw).enc a1_b)], []⟩ := by
  have hcs : CT.Ok Try.prog [(47, C_SameInstr)] := (CT.cons c_SameInstr CT.ok0)
  have hn : g.nt = 177 := hg
  have hm : Try.prog.follows .mixedOrders = true := by kernel_rfl
  unfold Try.f36
  dsimp only [Option.getD_some]
  unfold F_sameBlock at h
  apply AW_seq_k
  intro K1 hK1
  have hx := True.intro
  refine rgA [2, 3] [] ?_
  iterate 3 refine stA ?_
  refine enA ?_
  refine hK1 _ ?_
  apply AW_seq_k
  intro K2 hK2
  apply AW_seq_k
  intro K3 hK3
  have hx := True.intro
  refine rgV [2, 3] [] 69 (.one (.c (.d (.bool (((((((!decide (a0_a.Name = a1_b.Name)) || (!decide ((a0_a.Phis.length : Int) = (a1_b.Phis.length : Int)))) || (!decide ((a0_a.Code.length : Int) = (a1_b.Code.length : Int)))) || (!decide (a0_a.End.Kind = a1_b.End.Kind))) || (!(decide (a0_a.End.A.Kind = a1_b.End.A.Kind) && (decide (a0_a.End.A.S = a1_b.End.A.S) && decide (a0_a.End.A.N = a1_b.End.A.N))))) || (!decide (a0_a.End.N = a1_b.End.N))) || (!decide ((a0_a.End.To.length : Int) = (a1_b.End.To.length : Int)))))))) ?_ ?_
  · clear h
    iterate 6 refine stA ?_
    cases hb : (decide (a0_a.Name = a1_b.Name))
    · have hx := And.intro hb hx
      iterate 55 refine stA ?_
      exact lfA
    · have hx := And.intro hb hx
      iterate 9 refine stA ?_
      cases hb : (decide ((a0_a.Phis.length : Int) = (a1_b.Phis.length : Int)))
      · have hx := And.intro hb hx
        iterate 46 refine stA ?_
        exact lfA
      · have hx := And.intro hb hx
        iterate 9 refine stA ?_
        cases hb : (decide ((a0_a.Code.length : Int) = (a1_b.Code.length : Int)))
        · have hx := And.intro hb hx
          iterate 37 refine stA ?_
          exact lfA
        · have hx := And.intro hb hx
          iterate 9 refine stA ?_
          cases hb : (decide (a0_a.End.Kind = a1_b.End.Kind))
          · have hx := And.intro hb hx
            iterate 28 refine stA ?_
            exact lfA
          · have hx := And.intro hb hx
            iterate 9 refine stA ?_
            cases hb : (decide (a0_a.End.A.Kind = a1_b.End.A.Kind))
            · have hx := And.intro hb hx
              iterate 19 refine stA ?_
              exact lfA
            · have hx := And.intro hb hx
              cases hb : (decide (a0_a.End.A.S = a1_b.End.A.S))
              · have hx := And.intro hb hx
                iterate 19 refine stA ?_
                exact lfA
              · have hx := And.intro hb hx
                cases hb : (decide (a0_a.End.A.N = a1_b.End.A.N))
                · have hx := And.intro hb hx
                  iterate 19 refine stA ?_
                  exact lfA
                · have hx := And.intro hb hx
                  iterate 9 refine stA ?_
                  cases hb : (decide (a0_a.End.N = a1_b.End.N))
                  · have hx := And.intro hb hx
                    iterate 10 refine stA ?_
                    exact lfA
                  · have hx := And.intro hb hx
                    iterate 10 refine stA ?_
                    exact lfA
  · refine hK3 _ ?_
    refine cdA h rfl (fun h => ?_) (fun h => ?_)
    · apply AW_seq_k
      intro K4 hK4
      have hx := True.intro
      refine rgA [4] [.loc 3, .loc 2] ?_
      refine stA ?_
      refine enA ?_
      refine hK4 _ ?_
      apply AW_ret
      exact fiA (hKK _ h)
    · apply AW_skip
      refine hK2 _ ?_
      refine AW_joinO [] [2, 3] [] (fun y : Unit => ⟨[(2, .one (.c (.pl ⟨.loc 2, 0, []⟩))), (3, .one (.c (.pl ⟨.loc 3, 0, []⟩)))], [(.loc 3, ⟨true, [.d (.str a1_b.Name), .d (.li (a1_b.Phis.map Lt.Phi.enc)), .d (.li (a1_b.Code.map Lt.Instr.enc)), .d (.int .i64 a1_b.End.Kind), .d (.int .i64 a1_b.End.A.Kind), .d (.str a1_b.End.A.S), .d (.int .i64 a1_b.End.A.N), .d (.li (a1_b.End.To.map rS.enc)), .d (.int .i64 a1_b.End.N)]⟩), (.loc 2, ⟨true, [.d (.str a0_a.Name), .d (.li (a0_a.Phis.map Lt.Phi.enc)), .d (.li (a0_a.Code.map Lt.Instr.enc)), .d (.int .i64 a0_a.End.Kind), .d (.int .i64 a0_a.End.A.Kind), .d (.str a0_a.End.A.S), .d (.int .i64 a0_a.End.A.N), .d (.li (a0_a.End.To.map rS.enc)), .d (.int .i64 a0_a.End.N)]⟩)]⟩) (fun y => F_sameBlock_j1 a0_a a1_b KK) ?_ ?_
      · apply AW_seq_k
        intro K33 hK33
        have hx := True.intro
        refine rgA [2, 3, 5] [] ?_
        refine stA ?_
        refine enA ?_
        refine hK33 _ ?_
        apply AW_block_k
        intro Q34 hN34 hE34 hO34
        obtain ⟨n35, h⟩ := h
        refine AW_loopO [] [2, 3, 5] [] (fun y : Nat × Int => ⟨[(2, .one (.c (.pl ⟨.loc 2, 0, []⟩))), (3, .one (.c (.pl ⟨.loc 3, 0, []⟩))), (5, .one (.c (.d (.int .i64 y.2))))], [(.loc 3, ⟨true, [.d (.str a1_b.Name), .d (.li (a1_b.Phis.map Lt.Phi.enc)), .d (.li (a1_b.Code.map Lt.Instr.enc)), .d (.int .i64 a1_b.End.Kind), .d (.int .i64 a1_b.End.A.Kind), .d (.str a1_b.End.A.S), .d (.int .i64 a1_b.End.A.N), .d (.li (a1_b.End.To.map rS.enc)), .d (.int .i64 a1_b.End.N)]⟩), (.loc 2, ⟨true, [.d (.str a0_a.Name), .d (.li (a0_a.Phis.map Lt.Phi.enc)), .d (.li (a0_a.Code.map Lt.Instr.enc)), .d (.int .i64 a0_a.End.Kind), .d (.int .i64 a0_a.End.A.Kind), .d (.str a0_a.End.A.S), .d (.int .i64 a0_a.End.A.N), .d (.li (a0_a.End.To.map rS.enc)), .d (.int .i64 a0_a.End.N)]⟩)]⟩) (fun y => F_sameBlock_l8 a0_a a1_b KK y.1 y.2) (fun y => y.1) (n35, 0) ?_ h ?_
        · exact siA
        clear h
        rintro ⟨n35, x4⟩ h K35 hK35
        cases n35 with
        | zero => exact h.elim
        | succ n35 =>
          change F_sameBlock_l8 a0_a a1_b KK (n35 + 1) x4 at h
          unfold F_sameBlock_l8 at h
          apply AW_seq_k
          intro K36 hK36
          apply AW_seq_k
          intro K37 hK37
          have hx := True.intro
          refine rgA [2, 3, 5, 75] [] ?_
          iterate 4 refine stA ?_
          refine stG fun hp => ?_
          refine stA ?_
          refine enA ?_
          have h := h (by assumption)
          refine hK37 _ ?_
          refine cdA h rfl (fun h => ?_) (fun h => ?_)
          · apply AW_skip
            refine hK36 _ ?_
            apply AW_seq_k
            intro K38 hK38
            apply AW_block_k
            intro Q39 hN39 hE39 hO39
            apply AW_seq_k
            intro K40 hK40
            obtain ⟨ho1, ho2, h⟩ := h
            have hx := True.intro
            have hx := getA rS.enc ho1 hx
            have hx := getA rS.enc ho2 hx
            refine dgA [2, 3, 5, 90] [] (.take 0 [] true (.take 1 [] true (.take 2 [4, 5, 12] false (.take 3 [] true (.take 4 [] true (.take 5 [] true (.take 6 [] true (.take 7 [] true (.take 8 [10, 11, 12] false (.take 9 [] true (.take 10 [] true (.take 11 [] true (.take 12 [] true (.done)))))))))))))) ?_
            iterate 13 refine dtA ?_
            refine deA ?_
            refine hK40 _ ?_
            refine cdA h rfl (fun h => ?_) (fun h => ?_)
            · apply AW_seq_k
              intro K41 hK41
              have hx := True.intro
              refine rgA [4] [.loc 3, .loc 2] ?_
              refine stA ?_
              refine enA ?_
              refine hK41 _ ?_
              apply AW_ret
              refine hO39 _ _ (by simp) ?_
              refine hO34 _ _ (by simp) ?_
              exact fiA (hKK _ h)
            · apply AW_skip
              refine hN39 _ ?_
              refine hK38 _ ?_
              have hx := True.intro
              refine rgA [2, 3, 5] [] ?_
              iterate 3 refine stA ?_
              refine enA ?_
              exact hK35 _ (n35, (IntKind.i64.wrap (x4 + 1))) siA h (Nat.lt_succ_self _)
          · apply AW_exit
            refine hE34 _ ?_
            exact ⟨(), siA, h⟩
      · rintro _ h
        change F_sameBlock_j1 a0_a a1_b KK at h
        unfold F_sameBlock_j1 at h
        refine AW_joinO [] [2, 3] [] (fun y : Unit => ⟨[(2, .one (.c (.pl ⟨.loc 2, 0, []⟩))), (3, .one (.c (.pl ⟨.loc 3, 0, []⟩)))], [(.loc 3, ⟨true, [.d (.str a1_b.Name), .d (.li (a1_b.Phis.map Lt.Phi.enc)), .d (.li (a1_b.Code.map Lt.Instr.enc)), .d (.int .i64 a1_b.End.Kind), .d (.int .i64 a1_b.End.A.Kind), .d (.str a1_b.End.A.S), .d (.int .i64 a1_b.End.A.N), .d (.li (a1_b.End.To.map rS.enc)), .d (.int .i64 a1_b.End.N)]⟩), (.loc 2, ⟨true, [.d (.str a0_a.Name), .d (.li (a0_a.Phis.map Lt.Phi.enc)), .d (.li (a0_a.Code.map Lt.Instr.enc)), .d (.int .i64 a0_a.End.Kind), .d (.int .i64 a0_a.End.A.Kind), .d (.str a0_a.End.A.S), .d (.int .i64 a0_a.End.A.N), .d (.li (a0_a.End.To.map rS.enc)), .d (.int .i64 a0_a.End.N)]⟩)]⟩) (fun y => F_sameBlock_j2 a0_a a1_b KK) ?_ ?_
        · apply AW_seq_k
          intro K15 hK15
          have hx := True.intro
          refine rgA [2, 3, 6] [] ?_
          refine stA ?_
          refine enA ?_
          refine hK15 _ ?_
          apply AW_block_k
          intro Q16 hN16 hE16 hO16
          obtain ⟨n17, h⟩ := h
          refine AW_loopO [] [2, 3, 6] [] (fun y : Nat × Int => ⟨[(2, .one (.c (.pl ⟨.loc 2, 0, []⟩))), (3, .one (.c (.pl ⟨.loc 3, 0, []⟩))), (6, .one (.c (.d (.int .i64 y.2))))], [(.loc 3, ⟨true, [.d (.str a1_b.Name), .d (.li (a1_b.Phis.map Lt.Phi.enc)), .d (.li (a1_b.Code.map Lt.Instr.enc)), .d (.int .i64 a1_b.End.Kind), .d (.int .i64 a1_b.End.A.Kind), .d (.str a1_b.End.A.S), .d (.int .i64 a1_b.End.A.N), .d (.li (a1_b.End.To.map rS.enc)), .d (.int .i64 a1_b.End.N)]⟩), (.loc 2, ⟨true, [.d (.str a0_a.Name), .d (.li (a0_a.Phis.map Lt.Phi.enc)), .d (.li (a0_a.Code.map Lt.Instr.enc)), .d (.int .i64 a0_a.End.Kind), .d (.int .i64 a0_a.End.A.Kind), .d (.str a0_a.End.A.S), .d (.int .i64 a0_a.End.A.N), .d (.li (a0_a.End.To.map rS.enc)), .d (.int .i64 a0_a.End.N)]⟩)]⟩) (fun y => F_sameBlock_l5 a0_a a1_b KK y.1 y.2) (fun y => y.1) (n17, 0) ?_ h ?_
          · exact siA
          clear h
          rintro ⟨n17, x2⟩ h K17 hK17
          cases n17 with
          | zero => exact h.elim
          | succ n17 =>
            change F_sameBlock_l5 a0_a a1_b KK (n17 + 1) x2 at h
            unfold F_sameBlock_l5 at h
            apply AW_seq_k
            intro K18 hK18
            apply AW_seq_k
            intro K19 hK19
            have hx := True.intro
            refine rgA [2, 3, 6, 95] [] ?_
            iterate 3 refine stA ?_
            refine stG fun hp => ?_
            refine stA ?_
            refine enA ?_
            have h := h (by assumption)
            refine hK19 _ ?_
            refine cdA h rfl (fun h => ?_) (fun h => ?_)
            · apply AW_skip
              refine hK18 _ ?_
              refine AW_joinO [] [2, 3, 6] [] (fun y : Unit => ⟨[(2, .one (.c (.pl ⟨.loc 2, 0, []⟩))), (3, .one (.c (.pl ⟨.loc 3, 0, []⟩))), (6, .one (.c (.d (.int .i64 x2))))], [(.loc 3, ⟨true, [.d (.str a1_b.Name), .d (.li (a1_b.Phis.map Lt.Phi.enc)), .d (.li (a1_b.Code.map Lt.Instr.enc)), .d (.int .i64 a1_b.End.Kind), .d (.int .i64 a1_b.End.A.Kind), .d (.str a1_b.End.A.S), .d (.int .i64 a1_b.End.A.N), .d (.li (a1_b.End.To.map rS.enc)), .d (.int .i64 a1_b.End.N)]⟩), (.loc 2, ⟨true, [.d (.str a0_a.Name), .d (.li (a0_a.Phis.map Lt.Phi.enc)), .d (.li (a0_a.Code.map Lt.Instr.enc)), .d (.int .i64 a0_a.End.Kind), .d (.int .i64 a0_a.End.A.Kind), .d (.str a0_a.End.A.S), .d (.int .i64 a0_a.End.A.N), .d (.li (a0_a.End.To.map rS.enc)), .d (.int .i64 a0_a.End.N)]⟩)]⟩) (fun y => F_sameBlock_j6 x2 (fun y1 => F_sameBlock_l5 a0_a a1_b KK n17 y1) KK) ?_ ?_
              · apply AW_block_k
                intro Q20 hN20 hE20 hO20
                apply AW_seq_k
                intro K21 hK21
                apply AW_seq_k
                intro K22 hK22
                obtain ⟨ho1, ho2, ho3, ho4, h⟩ := h
                have hx := True.intro
                have hx := getA Lt.Phi.enc ho1 hx
                have hx := getA Lt.Phi.enc ho2 hx
                refine dgV [2, 3, 6] [] 127 (.one (.c (.d (.bool ((!decide ((a0_a.Phis.getD x2.toNat default).Dst = (a1_b.Phis.getD x2.toNat default).Dst)) || (!decide ((((a0_a.Phis.getD x2.toNat default).Ins).length : Int) = (((a1_b.Phis.getD x2.toNat default).Ins).length : Int)))))))) (.take 0 [] true (.take 1 [3, 4, 5, 12, 13, 14, 15, 16, 17, 18, 19, 20, 21, 22, 23, 24, 25, 26, 27, 28, 29] false (.take 2 [] true (.take 3 [] true (.take 4 [] true (.take 5 [] true (.take 6 [] true (.take 7 [9, 10, 11, 12, 13, 14, 15, 16, 17, 18, 19, 20, 21, 22, 23, 24, 25, 26, 27, 28, 29] false (.take 8 [] true (.take 9 [] true (.take 10 [] true (.take 11 [] true (.take 12 [] true (.take 13 [] true (.take 14 [] true (.take 15 [17, 18, 19, 20, 28, 29] false (.take 16 [] true (.take 17 [] true (.take 18 [] true (.take 19 [] true (.take 20 [] true (.take 21 [] true (.take 22 [24, 25, 26, 27, 28, 29] false (.take 23 [] true (.take 24 [] true (.take 25 [] true (.take 26 [] true (.take 27 [] true (.take 28 [] true (.take 29 [] true (.done))))))))))))))))))))))))))))))) ?_ ?_
                · clear h
                  cases hb : (decide ((a0_a.Phis.getD x2.toNat default).Dst = (a1_b.Phis.getD x2.toNat default).Dst))
                  · have hx := And.intro hb hx
                    iterate 30 refine dtA ?_
                    exact dlA
                  · have hx := And.intro hb hx
                    have ho3 := ho3 (by simp only [push_cast, hx])
                    have hx := getA Lt.Phi.enc ho3 hx
                    have ho4 := ho4 (by simp only [push_cast, hx])
                    have hx := getA Lt.Phi.enc ho4 hx
                    iterate 30 refine dtA ?_
                    exact dlA
                · refine hK22 _ ?_
                  refine cdA h rfl (fun h => ?_) (fun h => ?_)
                  · apply AW_seq_k
                    intro K23 hK23
                    have hx := True.intro
                    refine rgA [4] [.loc 3, .loc 2] ?_
                    refine stA ?_
                    refine enA ?_
                    refine hK23 _ ?_
                    apply AW_ret
                    refine hO20 _ _ (by simp) ?_
                    refine hO16 _ _ (by simp) ?_
                    exact fiA (hKK _ h)
                  · apply AW_skip
                    refine hK21 _ ?_
                    apply AW_seq_k
                    intro K24 hK24
                    have hx := True.intro
                    refine rgA [2, 3, 6, 7] [] ?_
                    refine stA ?_
                    refine enA ?_
                    refine hK24 _ ?_
                    apply AW_block_k
                    intro Q25 hN25 hE25 hO25
                    obtain ⟨n26, h⟩ := h
                    refine AW_loopO [] [2, 3, 6, 7] [] (fun y : Nat × Int => ⟨[(2, .one (.c (.pl ⟨.loc 2, 0, []⟩))), (3, .one (.c (.pl ⟨.loc 3, 0, []⟩))), (6, .one (.c (.d (.int .i64 x2)))), (7, .one (.c (.d (.int .i64 y.2))))], [(.loc 3, ⟨true, [.d (.str a1_b.Name), .d (.li (a1_b.Phis.map Lt.Phi.enc)), .d (.li (a1_b.Code.map Lt.Instr.enc)), .d (.int .i64 a1_b.End.Kind), .d (.int .i64 a1_b.End.A.Kind), .d (.str a1_b.End.A.S), .d (.int .i64 a1_b.End.A.N), .d (.li (a1_b.End.To.map rS.enc)), .d (.int .i64 a1_b.End.N)]⟩), (.loc 2, ⟨true, [.d (.str a0_a.Name), .d (.li (a0_a.Phis.map Lt.Phi.enc)), .d (.li (a0_a.Code.map Lt.Instr.enc)), .d (.int .i64 a0_a.End.Kind), .d (.int .i64 a0_a.End.A.Kind), .d (.str a0_a.End.A.S), .d (.int .i64 a0_a.End.A.N), .d (.li (a0_a.End.To.map rS.enc)), .d (.int .i64 a0_a.End.N)]⟩)]⟩) (fun y => F_sameBlock_l7 a0_a a1_b x2 (fun y1 => F_sameBlock_l5 a0_a a1_b KK n17 y1) KK y.1 y.2) (fun y => y.1) (n26, 0) ?_ h ?_
                    · exact siA
                    clear h
                    rintro ⟨n26, x3⟩ h K26 hK26
                    cases n26 with
                    | zero => exact h.elim
                    | succ n26 =>
                      change F_sameBlock_l7 a0_a a1_b x2 (fun y1 => F_sameBlock_l5 a0_a a1_b KK n17 y1) KK (n26 + 1) x3 at h
                      unfold F_sameBlock_l7 at h
                      apply AW_seq_k
                      intro K27 hK27
                      apply AW_seq_k
                      intro K28 hK28
                      obtain ⟨ho1, h⟩ := h
                      have hx := True.intro
                      have hx := getA Lt.Phi.enc ho1 hx
                      refine rgA [2, 3, 6, 7, 136] [] ?_
                      iterate 7 refine stA ?_
                      refine stG fun hp => ?_
                      refine stA ?_
                      refine enA ?_
                      have h := h (by assumption)
                      refine hK28 _ ?_
                      refine cdA h rfl (fun h => ?_) (fun h => ?_)
                      · apply AW_skip
                        refine hK27 _ ?_
                        apply AW_seq_k
                        intro K29 hK29
                        apply AW_block_k
                        intro Q30 hN30 hE30 hO30
                        apply AW_seq_k
                        intro K31 hK31
                        obtain ⟨ho1, ho2, ho3, ho4, h⟩ := h
                        have hx := True.intro
                        have hx := getA Lt.Phi.enc ho1 hx
                        have hx := getA Lt.In.enc ho2 hx
                        have hx := getA Lt.Phi.enc ho3 hx
                        have hx := getA Lt.In.enc ho4 hx
                        refine dgA [2, 3, 6, 7, 157] [] (.take 0 [] true (.take 1 [3, 4, 5, 7, 8, 18] false (.take 2 [] true (.take 3 [] true (.take 4 [] true (.take 5 [] true (.take 6 [] true (.take 7 [] true (.take 8 [] true (.take 9 [] true (.take 10 [12, 13, 14, 16, 17, 18] false (.take 11 [] true (.take 12 [] true (.take 13 [] true (.take 14 [] true (.take 15 [] true (.take 16 [] true (.take 17 [] true (.take 18 [] true (.done)))))))))))))))))))) ?_
                        iterate 19 refine dtA ?_
                        refine deA ?_
                        refine hK31 _ ?_
                        refine cdA h rfl (fun h => ?_) (fun h => ?_)
                        · apply AW_seq_k
                          intro K32 hK32
                          have hx := True.intro
                          refine rgA [4] [.loc 3, .loc 2] ?_
                          refine stA ?_
                          refine enA ?_
                          refine hK32 _ ?_
                          apply AW_ret
                          refine hO30 _ _ (by simp) ?_
                          refine hO25 _ _ (by simp) ?_
                          refine hO20 _ _ (by simp) ?_
                          refine hO16 _ _ (by simp) ?_
                          exact fiA (hKK _ h)
                        · apply AW_skip
                          refine hN30 _ ?_
                          refine hK29 _ ?_
                          have hx := True.intro
                          refine rgA [2, 3, 6, 7] [] ?_
                          iterate 3 refine stA ?_
                          refine enA ?_
                          exact hK26 _ (n26, (IntKind.i64.wrap (x3 + 1))) siA h (Nat.lt_succ_self _)
                      · apply AW_exit
                        refine hE25 _ ?_
                        refine hN20 _ ?_
                        exact ⟨(), siA, h⟩
              · rintro _ h
                change F_sameBlock_j6 x2 (fun y1 => F_sameBlock_l5 a0_a a1_b KK n17 y1) KK at h
                unfold F_sameBlock_j6 at h
                have hx := True.intro
                refine rgA [2, 3, 6] [] ?_
                iterate 3 refine stA ?_
                refine enA ?_
                exact hK17 _ (n17, (IntKind.i64.wrap (x2 + 1))) siA h (Nat.lt_succ_self _)
            · apply AW_exit
              refine hE16 _ ?_
              exact ⟨(), siA, h⟩
        · rintro _ h
          change F_sameBlock_j2 a0_a a1_b KK at h
          unfold F_sameBlock_j2 at h
          refine AW_joinO [] [] [.loc 3, .loc 2] (fun y : Unit => ⟨[], []⟩) (fun y => F_sameBlock_j3 KK) ?_ ?_
          · apply AW_seq_k
            intro K6 hK6
            have hx := True.intro
            refine rgA [2, 3, 8] [] ?_
            refine stA ?_
            refine enA ?_
            refine hK6 _ ?_
            apply AW_block_k
            intro Q7 hN7 hE7 hO7
            obtain ⟨n8, h⟩ := h
            refine AW_loopO [] [2, 3, 8] [] (fun y : Nat × Int => ⟨[(2, .one (.c (.pl ⟨.loc 2, 0, []⟩))), (3, .one (.c (.pl ⟨.loc 3, 0, []⟩))), (8, .one (.c (.d (.int .i64 y.2))))], [(.loc 3, ⟨true, [.d (.str a1_b.Name), .d (.li (a1_b.Phis.map Lt.Phi.enc)), .d (.li (a1_b.Code.map Lt.Instr.enc)), .d (.int .i64 a1_b.End.Kind), .d (.int .i64 a1_b.End.A.Kind), .d (.str a1_b.End.A.S), .d (.int .i64 a1_b.End.A.N), .d (.li (a1_b.End.To.map rS.enc)), .d (.int .i64 a1_b.End.N)]⟩), (.loc 2, ⟨true, [.d (.str a0_a.Name), .d (.li (a0_a.Phis.map Lt.Phi.enc)), .d (.li (a0_a.Code.map Lt.Instr.enc)), .d (.int .i64 a0_a.End.Kind), .d (.int .i64 a0_a.End.A.Kind), .d (.str a0_a.End.A.S), .d (.int .i64 a0_a.End.A.N), .d (.li (a0_a.End.To.map rS.enc)), .d (.int .i64 a0_a.End.N)]⟩)]⟩) (fun y => F_sameBlock_l4 a0_a a1_b KK y.1 y.2) (fun y => y.1) (n8, 0) ?_ h ?_
            · exact siA
            clear h
            rintro ⟨n8, x1⟩ h K8 hK8
            cases n8 with
            | zero => exact h.elim
            | succ n8 =>
              change F_sameBlock_l4 a0_a a1_b KK (n8 + 1) x1 at h
              unfold F_sameBlock_l4 at h
              apply AW_seq_k
              intro K9 hK9
              apply AW_seq_k
              intro K10 hK10
              have hx := True.intro
              refine rgA [2, 3, 8, 162] [] ?_
              iterate 3 refine stA ?_
              refine stG fun hp => ?_
              refine stA ?_
              refine enA ?_
              have h := h (by assumption)
              refine hK10 _ ?_
              refine cdA h rfl (fun h => ?_) (fun h => ?_)
              · apply AW_skip
                refine hK9 _ ?_
                apply AW_seq_k
                intro K11 hK11
                apply AW_block_k
                intro Q12 hN12 hE12 hO12
                apply AW_seq_k
                intro K13 hK13
                obtain ⟨ho1, ho2, h⟩ := h
                have hx := True.intro
                have hx := getA Lt.Instr.enc ho1 hx
                have hx := getA Lt.Instr.enc ho2 hx
                refine dgA [2, 3, 8, 176] [] (.take 0 [] true (.take 1 [3, 4, 10, 11] false (.take 2 [] true (.take 3 [] true (.take 4 [] true (.take 5 [] true (.take 6 [8, 9, 10, 11] false (.take 7 [] true (.take 8 [] true (.take 9 [] true (.one 10 (.take 11 [] true (.done))))))))))))) ?_
                iterate 10 refine dtA ?_
                refine doA ?_
                refine dtA ?_
                refine deA ?_
                refine hK13 _ ?_
                refine cdA h rfl (fun h => ?_) (fun h => ?_)
                · apply AW_seq_k
                  intro K14 hK14
                  have hx := True.intro
                  refine rgA [4] [.loc 3, .loc 2] ?_
                  refine stA ?_
                  refine enA ?_
                  refine hK14 _ ?_
                  apply AW_ret
                  refine hO12 _ _ (by simp) ?_
                  refine hO7 _ _ (by simp) ?_
                  exact fiA (hKK _ h)
                · apply AW_skip
                  refine hN12 _ ?_
                  refine hK11 _ ?_
                  have hx := True.intro
                  refine rgA [2, 3, 8] [] ?_
                  iterate 3 refine stA ?_
                  refine enA ?_
                  exact hK8 _ (n8, (IntKind.i64.wrap (x1 + 1))) siA h (Nat.lt_succ_self _)
              · apply AW_exit
                refine hE7 _ ?_
                exact ⟨(), siA, h⟩
          · rintro _ h
            change F_sameBlock_j3 KK at h
            unfold F_sameBlock_j3 at h
            apply AW_seq_k
            intro K5 hK5
            have hx := True.intro
            refine rgA [4] [] ?_
            refine stA ?_
            refine enA ?_
            refine hK5 _ ?_
            apply AW_ret
            exact fiA (hKK _ h)

def C_sameBlock : CK1 := pureC (fn2 (cA Lt.Block.rw) (cA Lt.Block.rw) (o1 cB) (fun _ _ => True) Lt.sameBlock)
theorem c_sameBlock : Con Try.prog 36 C_sameBlock :=
  Con_fn2 (fn := Try.f36) (c := Try.f36.body.getD .skip) (by kernel_rfl) (by kernel_rfl) (by kernel_rfl) (by decide +kernel) (fun g a0_a a1_b K hg hp hK => walk_sameBlock g hg a0_a a1_b K _ (fun _ h => h) (law_sameBlock a0_a a1_b _ hK))
attribute [push_cast] C_sameBlock

set_option maxRecDepth 100000 in
set_option maxHeartbeats 4000000 in
theorem walk_SameFunc (g : G) (hg : g.nt = Try.f22.ntmps) (a0_a : Lt.Func) (a1_b : Lt.Func) (K : AV → Prop) (KK : (Bool) → Prop) (hKK : ∀ r, KK r → K (o1 cB r) ) (h : F_SameFunc a0_a a1_b KK) :
    AW Try.prog g (Try.f22.body.getD .skip) (retQ Try.prog [.tmp 4] K) ⟨entryT 0 [.one ((cA Lt.Func.rw).enc a0_a), .one ((cA Lt.Func.rw).enc a1_b)], []⟩ := by
  have hcs : CT.Ok Try.prog [(21, C_sameVars), (36, C_sameBlock)] := (CT.cons c_sameVars (CT.cons c_sameBlock CT.ok0))
  have hn : g.nt = 62 := hg
  have hm : Try.prog.follows .mixedOrders = true := by kernel_rfl
  unfold Try.f22
  dsimp only [Option.getD_some]
  unfold F_SameFunc at h
  apply AW_seq_k
  intro K1 hK1
  have hx := True.intro
  refine rgA [2, 3] [] ?_
  iterate 3 refine stA ?_
  refine enA ?_
  refine hK1 _ ?_
  apply AW_seq_k
  intro K2 hK2
  apply AW_seq_k
  intro K3 hK3
  have hx := True.intro
  refine rgV [2, 3] [] 42 (.one (.c (.d (.bool (((((!decide (a0_a.Name = a1_b.Name)) || (!decide (a0_a.Result = a1_b.Result))) || (!(Lt.sameVars a0_a.Params a1_b.Params))) || (!(Lt.sameVars a0_a.Vars a1_b.Vars))) || (!decide ((a0_a.Blocks.length : Int) = (a1_b.Blocks.length : Int)))))))) ?_ ?_
  · clear h
    iterate 6 refine stA ?_
    cases hb : (decide (a0_a.Name = a1_b.Name))
    · have hx := And.intro hb hx
      iterate 31 refine stA ?_
      exact lfA
    · have hx := And.intro hb hx
      iterate 7 refine stA ?_
      cases hb : (decide (a0_a.Result = a1_b.Result))
      · have hx := And.intro hb hx
        iterate 24 refine stA ?_
        exact lfA
      · have hx := And.intro hb hx
        iterate 8 refine stA ?_
        cases hb : (Lt.sameVars a0_a.Params a1_b.Params)
        · have hx := And.intro hb hx
          iterate 16 refine stA ?_
          exact lfA
        · have hx := And.intro hb hx
          iterate 8 refine stA ?_
          cases hb : (Lt.sameVars a0_a.Vars a1_b.Vars)
          · have hx := And.intro hb hx
            iterate 8 refine stA ?_
            exact lfA
          · have hx := And.intro hb hx
            iterate 8 refine stA ?_
            exact lfA
  · refine hK3 _ ?_
    refine cdA h rfl (fun h => ?_) (fun h => ?_)
    · apply AW_seq_k
      intro K4 hK4
      have hx := True.intro
      refine rgA [4] [.loc 3, .loc 2] ?_
      refine stA ?_
      refine enA ?_
      refine hK4 _ ?_
      apply AW_ret
      exact fiA (hKK _ h)
    · apply AW_skip
      refine hK2 _ ?_
      refine AW_joinO [] [] [.loc 3, .loc 2] (fun y : Unit => ⟨[], []⟩) (fun y => F_SameFunc_j1 KK) ?_ ?_
      · apply AW_seq_k
        intro K6 hK6
        have hx := True.intro
        refine rgA [2, 3, 5] [] ?_
        refine stA ?_
        refine enA ?_
        refine hK6 _ ?_
        apply AW_block_k
        intro Q7 hN7 hE7 hO7
        obtain ⟨n8, h⟩ := h
        refine AW_loopO [] [2, 3, 5] [] (fun y : Nat × Int => ⟨[(2, .one (.c (.pl ⟨.loc 2, 0, []⟩))), (3, .one (.c (.pl ⟨.loc 3, 0, []⟩))), (5, .one (.c (.d (.int .i64 y.2))))], [(.loc 3, ⟨true, [.d (.str a1_b.Name), .d (.str a1_b.Result), .d (.li (a1_b.Params.map Lt.Var.enc)), .d (.li (a1_b.Vars.map Lt.Var.enc)), .d (.li (a1_b.Blocks.map Lt.Block.enc))]⟩), (.loc 2, ⟨true, [.d (.str a0_a.Name), .d (.str a0_a.Result), .d (.li (a0_a.Params.map Lt.Var.enc)), .d (.li (a0_a.Vars.map Lt.Var.enc)), .d (.li (a0_a.Blocks.map Lt.Block.enc))]⟩)]⟩) (fun y => F_SameFunc_l2 a0_a a1_b KK y.1 y.2) (fun y => y.1) (n8, 0) ?_ h ?_
        · exact siA
        clear h
        rintro ⟨n8, x1⟩ h K8 hK8
        cases n8 with
        | zero => exact h.elim
        | succ n8 =>
          change F_SameFunc_l2 a0_a a1_b KK (n8 + 1) x1 at h
          unfold F_SameFunc_l2 at h
          apply AW_seq_k
          intro K9 hK9
          apply AW_seq_k
          intro K10 hK10
          have hx := True.intro
          refine rgA [2, 3, 5, 47] [] ?_
          iterate 3 refine stA ?_
          refine stG fun hp => ?_
          refine stA ?_
          refine enA ?_
          have h := h (by assumption)
          refine hK10 _ ?_
          refine cdA h rfl (fun h => ?_) (fun h => ?_)
          · apply AW_skip
            refine hK9 _ ?_
            apply AW_seq_k
            intro K11 hK11
            apply AW_block_k
            intro Q12 hN12 hE12 hO12
            apply AW_seq_k
            intro K13 hK13
            obtain ⟨ho1, ho2, h⟩ := h
            have hx := True.intro
            have hx := getA Lt.Block.enc ho1 hx
            have hx := getA Lt.Block.enc ho2 hx
            refine dgA [2, 3, 5, 61] [] (.take 0 [] true (.take 1 [3, 4, 10, 11] false (.take 2 [] true (.take 3 [] true (.take 4 [] true (.take 5 [] true (.take 6 [8, 9, 10, 11] false (.take 7 [] true (.take 8 [] true (.take 9 [] true (.one 10 (.take 11 [] true (.done))))))))))))) ?_
            iterate 10 refine dtA ?_
            refine doA ?_
            refine dtA ?_
            refine deA ?_
            refine hK13 _ ?_
            refine cdA h rfl (fun h => ?_) (fun h => ?_)
            · apply AW_seq_k
              intro K14 hK14
              have hx := True.intro
              refine rgA [4] [.loc 3, .loc 2] ?_
              refine stA ?_
              refine enA ?_
              refine hK14 _ ?_
              apply AW_ret
              refine hO12 _ _ (by simp) ?_
              refine hO7 _ _ (by simp) ?_
              exact fiA (hKK _ h)
            · apply AW_skip
              refine hN12 _ ?_
              refine hK11 _ ?_
              have hx := True.intro
              refine rgA [2, 3, 5] [] ?_
              iterate 3 refine stA ?_
              refine enA ?_
              exact hK8 _ (n8, (IntKind.i64.wrap (x1 + 1))) siA h (Nat.lt_succ_self _)
          · apply AW_exit
            refine hE7 _ ?_
            exact ⟨(), siA, h⟩
      · rintro _ h
        change F_SameFunc_j1 KK at h
        unfold F_SameFunc_j1 at h
        apply AW_seq_k
        intro K5 hK5
        have hx := True.intro
        refine rgA [4] [] ?_
        refine stA ?_
        refine enA ?_
        refine hK5 _ ?_
        apply AW_ret
        exact fiA (hKK _ h)

def C_SameFunc : CK1 := pureC (fn2 (cA Lt.Func.rw) (cA Lt.Func.rw) (o1 cB) (fun _ _ => True) Lt.SameFunc)
theorem c_SameFunc : Con Try.prog 22 C_SameFunc :=
  Con_fn2 (fn := Try.f22) (c := Try.f22.body.getD .skip) (by kernel_rfl) (by kernel_rfl) (by kernel_rfl) (by decide +kernel) (fun g a0_a a1_b K hg hp hK => walk_SameFunc g hg a0_a a1_b K _ (fun _ h => h) (law_SameFunc a0_a a1_b _ hK))
attribute [push_cast] C_SameFunc

set_option maxRecDepth 100000 in
set_option maxHeartbeats 4000000 in
theorem walk_Same (g : G) (hg : g.nt = Try.f9.ntmps) (a0_a : Lt.Program) (a1_b : Lt.Program) (K : AV → Prop) (KK : (Bool) → Prop) (hKK : ∀ r, KK r → K (o1 cB r) ) (h : F_Same a0_a a1_b KK) :
    AW Try.prog g (Try.f9.body.getD .skip) (retQ Try.prog [.tmp 4] K) ⟨entryT 0 [.one ((cA Lt.Program.rw).enc a0_a), .one ((cA Lt.Program.rw).enc a1_b)], []⟩ := by
  have hcs : CT.Ok Try.prog [(21, C_sameVars), (22, C_SameFunc)] := (CT.cons c_sameVars (CT.cons c_SameFunc CT.ok0))
  have hn : g.nt = 121 := hg
  have hm : Try.prog.follows .mixedOrders = true := by kernel_rfl
  unfold Try.f9
  dsimp only [Option.getD_some]
  unfold F_Same at h
  apply AW_seq_k
  intro K1 hK1
  have hx := True.intro
  refine rgA [2, 3] [] ?_
  iterate 3 refine stA ?_
  refine enA ?_
  refine hK1 _ ?_
  apply AW_seq_k
  intro K2 hK2
  apply AW_seq_k
  intro K3 hK3
  have hx := True.intro
  refine rgV [2, 3] [] 47 (.one (.c (.d (.bool (((((!(a0_a.SSA == a1_b.SSA)) || (!decide ((a0_a.Classes.length : Int) = (a1_b.Classes.length : Int)))) || (!(Lt.sameVars a0_a.Globals a1_b.Globals))) || (!decide ((a0_a.Externs.length : Int) = (a1_b.Externs.length : Int)))) || (!decide ((a0_a.Funcs.length : Int) = (a1_b.Funcs.length : Int)))))))) ?_ ?_
  · clear h
    iterate 6 refine stA ?_
    cases hb : (a0_a.SSA == a1_b.SSA)
    · have hx := And.intro hb hx
      iterate 34 refine stA ?_
      exact lfA
    · have hx := And.intro hb hx
      iterate 9 refine stA ?_
      cases hb : (decide ((a0_a.Classes.length : Int) = (a1_b.Classes.length : Int)))
      · have hx := And.intro hb hx
        iterate 25 refine stA ?_
        exact lfA
      · have hx := And.intro hb hx
        iterate 8 refine stA ?_
        cases hb : (Lt.sameVars a0_a.Globals a1_b.Globals)
        · have hx := And.intro hb hx
          iterate 17 refine stA ?_
          exact lfA
        · have hx := And.intro hb hx
          iterate 9 refine stA ?_
          cases hb : (decide ((a0_a.Externs.length : Int) = (a1_b.Externs.length : Int)))
          · have hx := And.intro hb hx
            iterate 8 refine stA ?_
            exact lfA
          · have hx := And.intro hb hx
            iterate 8 refine stA ?_
            exact lfA
  · refine hK3 _ ?_
    refine cdA h rfl (fun h => ?_) (fun h => ?_)
    · apply AW_seq_k
      intro K4 hK4
      have hx := True.intro
      refine rgA [4] [.loc 3, .loc 2] ?_
      refine stA ?_
      refine enA ?_
      refine hK4 _ ?_
      apply AW_ret
      exact fiA (hKK _ h)
    · apply AW_skip
      refine hK2 _ ?_
      refine AW_joinO [] [2, 3] [] (fun y : Unit => ⟨[(2, .one (.c (.pl ⟨.loc 2, 0, []⟩))), (3, .one (.c (.pl ⟨.loc 3, 0, []⟩)))], [(.loc 3, ⟨true, [.d (.bool a1_b.SSA), .d (.li (a1_b.Classes.map Lt.Class.enc)), .d (.li (a1_b.Globals.map Lt.Var.enc)), .d (.li (a1_b.Externs.map Lt.Extern.enc)), .d (.li (a1_b.Funcs.map Lt.Func.enc))]⟩), (.loc 2, ⟨true, [.d (.bool a0_a.SSA), .d (.li (a0_a.Classes.map Lt.Class.enc)), .d (.li (a0_a.Globals.map Lt.Var.enc)), .d (.li (a0_a.Externs.map Lt.Extern.enc)), .d (.li (a0_a.Funcs.map Lt.Func.enc))]⟩)]⟩) (fun y => F_Same_j1 a0_a a1_b KK) ?_ ?_
      · apply AW_seq_k
        intro K24 hK24
        have hx := True.intro
        refine rgA [2, 3, 5] [] ?_
        refine stA ?_
        refine enA ?_
        refine hK24 _ ?_
        apply AW_block_k
        intro Q25 hN25 hE25 hO25
        obtain ⟨n26, h⟩ := h
        refine AW_loopO [] [2, 3, 5] [] (fun y : Nat × Int => ⟨[(2, .one (.c (.pl ⟨.loc 2, 0, []⟩))), (3, .one (.c (.pl ⟨.loc 3, 0, []⟩))), (5, .one (.c (.d (.int .i64 y.2))))], [(.loc 3, ⟨true, [.d (.bool a1_b.SSA), .d (.li (a1_b.Classes.map Lt.Class.enc)), .d (.li (a1_b.Globals.map Lt.Var.enc)), .d (.li (a1_b.Externs.map Lt.Extern.enc)), .d (.li (a1_b.Funcs.map Lt.Func.enc))]⟩), (.loc 2, ⟨true, [.d (.bool a0_a.SSA), .d (.li (a0_a.Classes.map Lt.Class.enc)), .d (.li (a0_a.Globals.map Lt.Var.enc)), .d (.li (a0_a.Externs.map Lt.Extern.enc)), .d (.li (a0_a.Funcs.map Lt.Func.enc))]⟩)]⟩) (fun y => F_Same_l6 a0_a a1_b KK y.1 y.2) (fun y => y.1) (n26, 0) ?_ h ?_
        · exact siA
        clear h
        rintro ⟨n26, x3⟩ h K26 hK26
        cases n26 with
        | zero => exact h.elim
        | succ n26 =>
          change F_Same_l6 a0_a a1_b KK (n26 + 1) x3 at h
          unfold F_Same_l6 at h
          apply AW_seq_k
          intro K27 hK27
          apply AW_seq_k
          intro K28 hK28
          have hx := True.intro
          refine rgA [2, 3, 5, 52] [] ?_
          iterate 3 refine stA ?_
          refine stG fun hp => ?_
          refine stA ?_
          refine enA ?_
          have h := h (by assumption)
          refine hK28 _ ?_
          refine cdA h rfl (fun h => ?_) (fun h => ?_)
          · apply AW_skip
            refine hK27 _ ?_
            apply AW_seq_k
            intro K29 hK29
            apply AW_block_k
            intro Q30 hN30 hE30 hO30
            apply AW_seq_k
            intro K31 hK31
            obtain ⟨ho1, ho2, ho3, ho4, h⟩ := h
            have hx := True.intro
            have hx := getA Lt.Class.enc ho1 hx
            have hx := getA Lt.Class.enc ho2 hx
            refine dgV [2, 3, 5] [] 83 (.one (.c (.d (.bool ((!decide ((a0_a.Classes.getD x3.toNat default).Name = (a1_b.Classes.getD x3.toNat default).Name)) || (!(Lt.sameVars ((a0_a.Classes.getD x3.toNat default).Fields) ((a1_b.Classes.getD x3.toNat default).Fields)))))))) (.take 0 [] true (.take 1 [3, 4, 5, 12, 13, 14, 15, 16, 17, 18, 19, 20, 21, 22, 23, 24, 25, 26, 27, 28] false (.take 2 [] true (.take 3 [] true (.take 4 [] true (.take 5 [] true (.take 6 [] true (.take 7 [9, 10, 11, 12, 13, 14, 15, 16, 17, 18, 19, 20, 21, 22, 23, 24, 25, 26, 27, 28] false (.take 8 [] true (.take 9 [] true (.take 10 [] true (.take 11 [] true (.take 12 [] true (.take 13 [] true (.take 14 [] true (.take 15 [17, 18, 19, 26, 27, 28] false (.take 16 [] true (.take 17 [] true (.take 18 [] true (.take 19 [] true (.take 20 [] true (.take 21 [23, 24, 25, 26, 27, 28] false (.take 22 [] true (.take 23 [] true (.take 24 [] true (.take 25 [] true (.one 26 (.take 27 [] true (.take 28 [] true (.done)))))))))))))))))))))))))))))) ?_ ?_
            · clear h
              cases hb : (decide ((a0_a.Classes.getD x3.toNat default).Name = (a1_b.Classes.getD x3.toNat default).Name))
              · have hx := And.intro hb hx
                iterate 26 refine dtA ?_
                refine doA ?_
                iterate 2 refine dtA ?_
                exact dlA
              · have hx := And.intro hb hx
                have ho3 := ho3 (by simp only [push_cast, hx])
                have hx := getA Lt.Class.enc ho3 hx
                have ho4 := ho4 (by simp only [push_cast, hx])
                have hx := getA Lt.Class.enc ho4 hx
                iterate 26 refine dtA ?_
                refine doA ?_
                iterate 2 refine dtA ?_
                exact dlA
            · refine hK31 _ ?_
              refine cdA h rfl (fun h => ?_) (fun h => ?_)
              · apply AW_seq_k
                intro K32 hK32
                have hx := True.intro
                refine rgA [4] [.loc 3, .loc 2] ?_
                refine stA ?_
                refine enA ?_
                refine hK32 _ ?_
                apply AW_ret
                refine hO30 _ _ (by simp) ?_
                refine hO25 _ _ (by simp) ?_
                exact fiA (hKK _ h)
              · apply AW_skip
                refine hN30 _ ?_
                refine hK29 _ ?_
                have hx := True.intro
                refine rgA [2, 3, 5] [] ?_
                iterate 3 refine stA ?_
                refine enA ?_
                exact hK26 _ (n26, (IntKind.i64.wrap (x3 + 1))) siA h (Nat.lt_succ_self _)
          · apply AW_exit
            refine hE25 _ ?_
            exact ⟨(), siA, h⟩
      · rintro _ h
        change F_Same_j1 a0_a a1_b KK at h
        unfold F_Same_j1 at h
        refine AW_joinO [] [2, 3] [] (fun y : Unit => ⟨[(2, .one (.c (.pl ⟨.loc 2, 0, []⟩))), (3, .one (.c (.pl ⟨.loc 3, 0, []⟩)))], [(.loc 3, ⟨true, [.d (.bool a1_b.SSA), .d (.li (a1_b.Classes.map Lt.Class.enc)), .d (.li (a1_b.Globals.map Lt.Var.enc)), .d (.li (a1_b.Externs.map Lt.Extern.enc)), .d (.li (a1_b.Funcs.map Lt.Func.enc))]⟩), (.loc 2, ⟨true, [.d (.bool a0_a.SSA), .d (.li (a0_a.Classes.map Lt.Class.enc)), .d (.li (a0_a.Globals.map Lt.Var.enc)), .d (.li (a0_a.Externs.map Lt.Extern.enc)), .d (.li (a0_a.Funcs.map Lt.Func.enc))]⟩)]⟩) (fun y => F_Same_j2 a0_a a1_b KK) ?_ ?_
        · apply AW_seq_k
          intro K15 hK15
          have hx := True.intro
          refine rgA [2, 3, 6] [] ?_
          refine stA ?_
          refine enA ?_
          refine hK15 _ ?_
          apply AW_block_k
          intro Q16 hN16 hE16 hO16
          obtain ⟨n17, h⟩ := h
          refine AW_loopO [] [2, 3, 6] [] (fun y : Nat × Int => ⟨[(2, .one (.c (.pl ⟨.loc 2, 0, []⟩))), (3, .one (.c (.pl ⟨.loc 3, 0, []⟩))), (6, .one (.c (.d (.int .i64 y.2))))], [(.loc 3, ⟨true, [.d (.bool a1_b.SSA), .d (.li (a1_b.Classes.map Lt.Class.enc)), .d (.li (a1_b.Globals.map Lt.Var.enc)), .d (.li (a1_b.Externs.map Lt.Extern.enc)), .d (.li (a1_b.Funcs.map Lt.Func.enc))]⟩), (.loc 2, ⟨true, [.d (.bool a0_a.SSA), .d (.li (a0_a.Classes.map Lt.Class.enc)), .d (.li (a0_a.Globals.map Lt.Var.enc)), .d (.li (a0_a.Externs.map Lt.Extern.enc)), .d (.li (a0_a.Funcs.map Lt.Func.enc))]⟩)]⟩) (fun y => F_Same_l5 a0_a a1_b KK y.1 y.2) (fun y => y.1) (n17, 0) ?_ h ?_
          · exact siA
          clear h
          rintro ⟨n17, x2⟩ h K17 hK17
          cases n17 with
          | zero => exact h.elim
          | succ n17 =>
            change F_Same_l5 a0_a a1_b KK (n17 + 1) x2 at h
            unfold F_Same_l5 at h
            apply AW_seq_k
            intro K18 hK18
            apply AW_seq_k
            intro K19 hK19
            have hx := True.intro
            refine rgA [2, 3, 6, 88] [] ?_
            iterate 3 refine stA ?_
            refine stG fun hp => ?_
            refine stA ?_
            refine enA ?_
            have h := h (by assumption)
            refine hK19 _ ?_
            refine cdA h rfl (fun h => ?_) (fun h => ?_)
            · apply AW_skip
              refine hK18 _ ?_
              apply AW_seq_k
              intro K20 hK20
              apply AW_block_k
              intro Q21 hN21 hE21 hO21
              apply AW_seq_k
              intro K22 hK22
              obtain ⟨ho1, ho2, h⟩ := h
              have hx := True.intro
              have hx := getA Lt.Extern.enc ho1 hx
              have hx := getA Lt.Extern.enc ho2 hx
              refine dgA [2, 3, 6, 101] [] (.take 0 [] true (.take 1 [3, 4, 10] false (.take 2 [] true (.take 3 [] true (.take 4 [] true (.take 5 [] true (.take 6 [8, 9, 10] false (.take 7 [] true (.take 8 [] true (.take 9 [] true (.take 10 [] true (.done)))))))))))) ?_
              iterate 11 refine dtA ?_
              refine deA ?_
              refine hK22 _ ?_
              refine cdA h rfl (fun h => ?_) (fun h => ?_)
              · apply AW_seq_k
                intro K23 hK23
                have hx := True.intro
                refine rgA [4] [.loc 3, .loc 2] ?_
                refine stA ?_
                refine enA ?_
                refine hK23 _ ?_
                apply AW_ret
                refine hO21 _ _ (by simp) ?_
                refine hO16 _ _ (by simp) ?_
                exact fiA (hKK _ h)
              · apply AW_skip
                refine hN21 _ ?_
                refine hK20 _ ?_
                have hx := True.intro
                refine rgA [2, 3, 6] [] ?_
                iterate 3 refine stA ?_
                refine enA ?_
                exact hK17 _ (n17, (IntKind.i64.wrap (x2 + 1))) siA h (Nat.lt_succ_self _)
            · apply AW_exit
              refine hE16 _ ?_
              exact ⟨(), siA, h⟩
        · rintro _ h
          change F_Same_j2 a0_a a1_b KK at h
          unfold F_Same_j2 at h
          refine AW_joinO [] [] [.loc 3, .loc 2] (fun y : Unit => ⟨[], []⟩) (fun y => F_Same_j3 KK) ?_ ?_
          · apply AW_seq_k
            intro K6 hK6
            have hx := True.intro
            refine rgA [2, 3, 7] [] ?_
            refine stA ?_
            refine enA ?_
            refine hK6 _ ?_
            apply AW_block_k
            intro Q7 hN7 hE7 hO7
            obtain ⟨n8, h⟩ := h
            refine AW_loopO [] [2, 3, 7] [] (fun y : Nat × Int => ⟨[(2, .one (.c (.pl ⟨.loc 2, 0, []⟩))), (3, .one (.c (.pl ⟨.loc 3, 0, []⟩))), (7, .one (.c (.d (.int .i64 y.2))))], [(.loc 3, ⟨true, [.d (.bool a1_b.SSA), .d (.li (a1_b.Classes.map Lt.Class.enc)), .d (.li (a1_b.Globals.map Lt.Var.enc)), .d (.li (a1_b.Externs.map Lt.Extern.enc)), .d (.li (a1_b.Funcs.map Lt.Func.enc))]⟩), (.loc 2, ⟨true, [.d (.bool a0_a.SSA), .d (.li (a0_a.Classes.map Lt.Class.enc)), .d (.li (a0_a.Globals.map Lt.Var.enc)), .d (.li (a0_a.Externs.map Lt.Extern.enc)), .d (.li (a0_a.Funcs.map Lt.Func.enc))]⟩)]⟩) (fun y => F_Same_l4 a0_a a1_b KK y.1 y.2) (fun y => y.1) (n8, 0) ?_ h ?_
            · exact siA
            clear h
            rintro ⟨n8, x1⟩ h K8 hK8
            cases n8 with
            | zero => exact h.elim
            | succ n8 =>
              change F_Same_l4 a0_a a1_b KK (n8 + 1) x1 at h
              unfold F_Same_l4 at h
              apply AW_seq_k
              intro K9 hK9
              apply AW_seq_k
              intro K10 hK10
              have hx := True.intro
              refine rgA [2, 3, 7, 106] [] ?_
              iterate 3 refine stA ?_
              refine stG fun hp => ?_
              refine stA ?_
              refine enA ?_
              have h := h (by assumption)
              refine hK10 _ ?_
              refine cdA h rfl (fun h => ?_) (fun h => ?_)
              · apply AW_skip
                refine hK9 _ ?_
                apply AW_seq_k
                intro K11 hK11
                apply AW_block_k
                intro Q12 hN12 hE12 hO12
                apply AW_seq_k
                intro K13 hK13
                obtain ⟨ho1, ho2, h⟩ := h
                have hx := True.intro
                have hx := getA Lt.Func.enc ho1 hx
                have hx := getA Lt.Func.enc ho2 hx
                refine dgA [2, 3, 7, 120] [] (.take 0 [] true (.take 1 [3, 4, 10, 11] false (.take 2 [] true (.take 3 [] true (.take 4 [] true (.take 5 [] true (.take 6 [8, 9, 10, 11] false (.take 7 [] true (.take 8 [] true (.take 9 [] true (.one 10 (.take 11 [] true (.done))))))))))))) ?_
                iterate 10 refine dtA ?_
                refine doA ?_
                refine dtA ?_
                refine deA ?_
                refine hK13 _ ?_
                refine cdA h rfl (fun h => ?_) (fun h => ?_)
                · apply AW_seq_k
                  intro K14 hK14
                  have hx := True.intro
                  refine rgA [4] [.loc 3, .loc 2] ?_
                  refine stA ?_
                  refine enA ?_
                  refine hK14 _ ?_
                  apply AW_ret
                  refine hO12 _ _ (by simp) ?_
                  refine hO7 _ _ (by simp) ?_
                  exact fiA (hKK _ h)
                · apply AW_skip
                  refine hN12 _ ?_
                  refine hK11 _ ?_
                  have hx := True.intro
                  refine rgA [2, 3, 7] [] ?_
                  iterate 3 refine stA ?_
                  refine enA ?_
                  exact hK8 _ (n8, (IntKind.i64.wrap (x1 + 1))) siA h (Nat.lt_succ_self _)
              · apply AW_exit
                refine hE7 _ ?_
                exact ⟨(), siA, h⟩
          · rintro _ h
            change F_Same_j3 KK at h
            unfold F_Same_j3 at h
            apply AW_seq_k
            intro K5 hK5
            have hx := True.intro
            refine rgA [4] [] ?_
            refine stA ?_
            refine enA ?_
            refine hK5 _ ?_
            apply AW_ret
            exact fiA (hKK _ h)

def C_Same : CK1 := pureC (fn2 (cA Lt.Program.rw) (cA Lt.Program.rw) (o1 cB) (fun _ _ => True) Lt.Same)
theorem c_Same : Con Try.prog 9 C_Same :=
  Con_fn2 (fn := Try.f9) (c := Try.f9.body.getD .skip) (by kernel_rfl) (by kernel_rfl) (by kernel_rfl) (by decide +kernel) (fun g a0_a a1_b K hg hp hK => walk_Same g hg a0_a a1_b K _ (fun _ h => h) (law_Same a0_a a1_b _ hK))
attribute [push_cast] C_Same

end Go.Am
end

section
namespace Lt
open Go.Am
def Var.okr (x : Var) : Prop := okS x.Name ∧ okS x.Type_
def Class.okr (x : Class) : Prop := okS x.Name ∧ (okL Lt.Var.okr) x.Fields
def Extern.okr (x : Extern) : Prop := okS x.Name ∧ (okI .i64) x.N
def Arg.okr (x : Arg) : Prop := (okI .i64) x.Kind ∧ okS x.S ∧ (okI .i64) x.N
def In.okr (x : In) : Prop := okS x.Block ∧ Lt.Arg.okr x.A
def Phi.okr (x : Phi) : Prop := okS x.Dst ∧ (okL Lt.In.okr) x.Ins
def Bind.okr (x : Bind) : Prop := okS x.Name ∧ Lt.Arg.okr x.A
def Frame.okr (x : Frame) : Prop := okS x.Func ∧ okS x.Block ∧ (okI .i64) x.At ∧ (okL Lt.Bind.okr) x.Vars
def Virt.okr (x : Virt) : Prop := okS x.Class ∧ (okL Lt.Arg.okr) x.Vals
def Instr.okr (x : Instr) : Prop := (okI .i64) x.Op ∧ okS x.Dst ∧ okS x.Name ∧ (okL Lt.Arg.okr) x.Args ∧ (okL Lt.Frame.okr) x.Frames ∧ (okL Lt.Virt.okr) x.Objs
def Term.okr (x : Term) : Prop := (okI .i64) x.Kind ∧ Lt.Arg.okr x.A ∧ (okL okS) x.To ∧ (okI .i64) x.N
def Block.okr (x : Block) : Prop := okS x.Name ∧ (okL Lt.Phi.okr) x.Phis ∧ (okL Lt.Instr.okr) x.Code ∧ Lt.Term.okr x.End
def Func.okr (x : Func) : Prop := okS x.Name ∧ okS x.Result ∧ (okL Lt.Var.okr) x.Params ∧ (okL Lt.Var.okr) x.Vars ∧ (okL Lt.Block.okr) x.Blocks
def Program.okr (x : Program) : Prop := okB x.SSA ∧ (okL Lt.Class.okr) x.Classes ∧ (okL Lt.Var.okr) x.Globals ∧ (okL Lt.Extern.okr) x.Externs ∧ (okL Lt.Func.okr) x.Funcs
end Lt
namespace Go.Am
open Go.Proofs
set_option linter.unusedVariables false

theorem Reads_Var (W : World) : Reads Try.prog W 70 Lt.Var.enc Lt.Var.okr := by
  intro Hh enc fuel cs x h hw
  obtain ⟨xs, n, _, rfl, hl, hlen, hf⟩ := DataW.trod_struct Try.underlying70 h
  · obtain ⟨y0, y1, rfl⟩ := list_len2 hlen
    have hw2 : ∀ n ∈ DataW.weightsEach Try.prog [9, 9] [y0.1, y1.1], n ≤ reachBytes := by
      intro n hn; refine hw n ?_; simp only [DataW.weights, Try.underlying70]; exact hn
    obtain ⟨a0, k0, r0, _⟩ := (Reads_string Try.underlying9) Hh enc n _ y0 (hf 0 _ rfl) (fun m hm => hw2 m (DataW.weights_mem_each (j := 0) rfl rfl m hm))
    obtain ⟨c0_0, _⟩ := RdAt_part r0
    obtain ⟨a1, k1, r1, _⟩ := (Reads_string Try.underlying9) Hh enc n _ y1 (hf 1 _ rfl) (fun m hm => hw2 m (DataW.weights_mem_each (j := 1) rfl rfl m hm))
    obtain ⟨c1_0, _⟩ := RdAt_part r1
    exact ⟨⟨a0, a1⟩, ⟨k0, k1⟩, ⟨c0_0, c1_0, trivial⟩, by rw [hl]; kernel_rfl⟩

theorem Reads_Class (W : World) : Reads Try.prog W 51 Lt.Class.enc Lt.Class.okr := by
  intro Hh enc fuel cs x h hw
  obtain ⟨xs, n, _, rfl, hl, hlen, hf⟩ := DataW.trod_struct Try.underlying51 h
  · obtain ⟨y0, y1, rfl⟩ := list_len2 hlen
    have hw2 : ∀ n ∈ DataW.weightsEach Try.prog [9, 23] [y0.1, y1.1], n ≤ reachBytes := by
      intro n hn; refine hw n ?_; simp only [DataW.weights, Try.underlying51]; exact hn
    obtain ⟨a0, k0, r0, _⟩ := (Reads_string Try.underlying9) Hh enc n _ y0 (hf 0 _ rfl) (fun m hm => hw2 m (DataW.weights_mem_each (j := 0) rfl rfl m hm))
    obtain ⟨c0_0, _⟩ := RdAt_part r0
    obtain ⟨a1, k1, r1, _⟩ := (Reads_slice (R := Lt.Var.enc) (es := 2) Try.underlying23 (by kernel_rfl) (of_decide_eq_true (by kernel_rfl)) (fun _ => rfl) (by decide) (Reads_Var W)) Hh enc n _ y1 (hf 1 _ rfl) (fun m hm => hw2 m (DataW.weights_mem_each (j := 1) rfl rfl m hm))
    obtain ⟨c1_0, _⟩ := RdAt_part r1
    exact ⟨⟨a0, a1⟩, ⟨k0, k1⟩, ⟨c0_0, c1_0, trivial⟩, by rw [hl]; kernel_rfl⟩

theorem Reads_Extern (W : World) : Reads Try.prog W 53 Lt.Extern.enc Lt.Extern.okr := by
  intro Hh enc fuel cs x h hw
  obtain ⟨xs, n, _, rfl, hl, hlen, hf⟩ := DataW.trod_struct Try.underlying53 h
  · obtain ⟨y0, y1, rfl⟩ := list_len2 hlen
    have hw2 : ∀ n ∈ DataW.weightsEach Try.prog [9, 3] [y0.1, y1.1], n ≤ reachBytes := by
      intro n hn; refine hw n ?_; simp only [DataW.weights, Try.underlying53]; exact hn
    obtain ⟨a0, k0, r0, _⟩ := (Reads_string Try.underlying9) Hh enc n _ y0 (hf 0 _ rfl) (fun m hm => hw2 m (DataW.weights_mem_each (j := 0) rfl rfl m hm))
    obtain ⟨c0_0, _⟩ := RdAt_part r0
    obtain ⟨a1, k1, r1, _⟩ := (Reads_int Try.underlying3) Hh enc n _ y1 (hf 1 _ rfl) (fun m hm => hw2 m (DataW.weights_mem_each (j := 1) rfl rfl m hm))
    obtain ⟨c1_0, _⟩ := RdAt_part r1
    exact ⟨⟨a0, a1⟩, ⟨k0, k1⟩, ⟨c0_0, c1_0, trivial⟩, by rw [hl]; kernel_rfl⟩

theorem Reads_Arg (W : World) : Reads Try.prog W 36 Lt.Arg.enc Lt.Arg.okr := by
  intro Hh enc fuel cs x h hw
  obtain ⟨xs, n, _, rfl, hl, hlen, hf⟩ := DataW.trod_struct Try.underlying36 h
  · obtain ⟨y0, y1, y2, rfl⟩ := list_len3 hlen
    have hw2 : ∀ n ∈ DataW.weightsEach Try.prog [3, 9, 2] [y0.1, y1.1, y2.1], n ≤ reachBytes := by
      intro n hn; refine hw n ?_; simp only [DataW.weights, Try.underlying36]; exact hn
    obtain ⟨a0, k0, r0, _⟩ := (Reads_int Try.underlying3) Hh enc n _ y0 (hf 0 _ rfl) (fun m hm => hw2 m (DataW.weights_mem_each (j := 0) rfl rfl m hm))
    obtain ⟨c0_0, _⟩ := RdAt_part r0
    obtain ⟨a1, k1, r1, _⟩ := (Reads_string Try.underlying9) Hh enc n _ y1 (hf 1 _ rfl) (fun m hm => hw2 m (DataW.weights_mem_each (j := 1) rfl rfl m hm))
    obtain ⟨c1_0, _⟩ := RdAt_part r1
    obtain ⟨a2, k2, r2, _⟩ := (Reads_int Try.underlying2) Hh enc n _ y2 (hf 2 _ rfl) (fun m hm => hw2 m (DataW.weights_mem_each (j := 2) rfl rfl m hm))
    obtain ⟨c2_0, _⟩ := RdAt_part r2
    exact ⟨⟨a0, a1, a2⟩, ⟨k0, k1, k2⟩, ⟨c0_0, c1_0, c2_0, trivial⟩, by rw [hl]; kernel_rfl⟩

theorem Reads_In (W : World) : Reads Try.prog W 81 Lt.In.enc Lt.In.okr := by
  intro Hh enc fuel cs x h hw
  obtain ⟨xs, n, _, rfl, hl, hlen, hf⟩ := DataW.trod_struct Try.underlying81 h
  · obtain ⟨y0, y1, rfl⟩ := list_len2 hlen
    have hw2 : ∀ n ∈ DataW.weightsEach Try.prog [9, 36] [y0.1, y1.1], n ≤ reachBytes := by
      intro n hn; refine hw n ?_; simp only [DataW.weights, Try.underlying81]; exact hn
    obtain ⟨a0, k0, r0, _⟩ := (Reads_string Try.underlying9) Hh enc n _ y0 (hf 0 _ rfl) (fun m hm => hw2 m (DataW.weights_mem_each (j := 0) rfl rfl m hm))
    obtain ⟨c0_0, _⟩ := RdAt_part r0
    obtain ⟨a1, k1, r1, _⟩ := (Reads_Arg W) Hh enc n _ y1 (hf 1 _ rfl) (fun m hm => hw2 m (DataW.weights_mem_each (j := 1) rfl rfl m hm))
    obtain ⟨c1_0, c1_1, c1_2, _⟩ := RdAt_part r1
    exact ⟨⟨a0, a1⟩, ⟨k0, k1⟩, ⟨c0_0, c1_0, c1_1, c1_2, trivial⟩, by rw [hl]; kernel_rfl⟩

theorem Reads_Phi (W : World) : Reads Try.prog W 79 Lt.Phi.enc Lt.Phi.okr := by
  intro Hh enc fuel cs x h hw
  obtain ⟨xs, n, _, rfl, hl, hlen, hf⟩ := DataW.trod_struct Try.underlying79 h
  · obtain ⟨y0, y1, rfl⟩ := list_len2 hlen
    have hw2 : ∀ n ∈ DataW.weightsEach Try.prog [9, 77] [y0.1, y1.1], n ≤ reachBytes := by
      intro n hn; refine hw n ?_; simp only [DataW.weights, Try.underlying79]; exact hn
    obtain ⟨a0, k0, r0, _⟩ := (Reads_string Try.underlying9) Hh enc n _ y0 (hf 0 _ rfl) (fun m hm => hw2 m (DataW.weights_mem_each (j := 0) rfl rfl m hm))
    obtain ⟨c0_0, _⟩ := RdAt_part r0
    obtain ⟨a1, k1, r1, _⟩ := (Reads_slice (R := Lt.In.enc) (es := 4) Try.underlying77 (by kernel_rfl) (of_decide_eq_true (by kernel_rfl)) (fun _ => rfl) (by decide) (Reads_In W)) Hh enc n _ y1 (hf 1 _ rfl) (fun m hm => hw2 m (DataW.weights_mem_each (j := 1) rfl rfl m hm))
    obtain ⟨c1_0, _⟩ := RdAt_part r1
    exact ⟨⟨a0, a1⟩, ⟨k0, k1⟩, ⟨c0_0, c1_0, trivial⟩, by rw [hl]; kernel_rfl⟩

theorem Reads_Bind (W : World) : Reads Try.prog W 117 Lt.Bind.enc Lt.Bind.okr := by
  intro Hh enc fuel cs x h hw
  obtain ⟨xs, n, _, rfl, hl, hlen, hf⟩ := DataW.trod_struct Try.underlying117 h
  · obtain ⟨y0, y1, rfl⟩ := list_len2 hlen
    have hw2 : ∀ n ∈ DataW.weightsEach Try.prog [9, 36] [y0.1, y1.1], n ≤ reachBytes := by
      intro n hn; refine hw n ?_; simp only [DataW.weights, Try.underlying117]; exact hn
    obtain ⟨a0, k0, r0, _⟩ := (Reads_string Try.underlying9) Hh enc n _ y0 (hf 0 _ rfl) (fun m hm => hw2 m (DataW.weights_mem_each (j := 0) rfl rfl m hm))
    obtain ⟨c0_0, _⟩ := RdAt_part r0
    obtain ⟨a1, k1, r1, _⟩ := (Reads_Arg W) Hh enc n _ y1 (hf 1 _ rfl) (fun m hm => hw2 m (DataW.weights_mem_each (j := 1) rfl rfl m hm))
    obtain ⟨c1_0, c1_1, c1_2, _⟩ := RdAt_part r1
    exact ⟨⟨a0, a1⟩, ⟨k0, k1⟩, ⟨c0_0, c1_0, c1_1, c1_2, trivial⟩, by rw [hl]; kernel_rfl⟩

theorem Reads_Frame (W : World) : Reads Try.prog W 115 Lt.Frame.enc Lt.Frame.okr := by
  intro Hh enc fuel cs x h hw
  obtain ⟨xs, n, _, rfl, hl, hlen, hf⟩ := DataW.trod_struct Try.underlying115 h
  · obtain ⟨y0, y1, y2, y3, rfl⟩ := list_len4 hlen
    have hw2 : ∀ n ∈ DataW.weightsEach Try.prog [9, 9, 3, 113] [y0.1, y1.1, y2.1, y3.1], n ≤ reachBytes := by
      intro n hn; refine hw n ?_; simp only [DataW.weights, Try.underlying115]; exact hn
    obtain ⟨a0, k0, r0, _⟩ := (Reads_string Try.underlying9) Hh enc n _ y0 (hf 0 _ rfl) (fun m hm => hw2 m (DataW.weights_mem_each (j := 0) rfl rfl m hm))
    obtain ⟨c0_0, _⟩ := RdAt_part r0
    obtain ⟨a1, k1, r1, _⟩ := (Reads_string Try.underlying9) Hh enc n _ y1 (hf 1 _ rfl) (fun m hm => hw2 m (DataW.weights_mem_each (j := 1) rfl rfl m hm))
    obtain ⟨c1_0, _⟩ := RdAt_part r1
    obtain ⟨a2, k2, r2, _⟩ := (Reads_int Try.underlying3) Hh enc n _ y2 (hf 2 _ rfl) (fun m hm => hw2 m (DataW.weights_mem_each (j := 2) rfl rfl m hm))
    obtain ⟨c2_0, _⟩ := RdAt_part r2
    obtain ⟨a3, k3, r3, _⟩ := (Reads_slice (R := Lt.Bind.enc) (es := 4) Try.underlying113 (by kernel_rfl) (of_decide_eq_true (by kernel_rfl)) (fun _ => rfl) (by decide) (Reads_Bind W)) Hh enc n _ y3 (hf 3 _ rfl) (fun m hm => hw2 m (DataW.weights_mem_each (j := 3) rfl rfl m hm))
    obtain ⟨c3_0, _⟩ := RdAt_part r3
    exact ⟨⟨a0, a1, a2, a3⟩, ⟨k0, k1, k2, k3⟩, ⟨c0_0, c1_0, c2_0, c3_0, trivial⟩, by rw [hl]; kernel_rfl⟩

theorem Reads_Virt (W : World) : Reads Try.prog W 119 Lt.Virt.enc Lt.Virt.okr := by
  intro Hh enc fuel cs x h hw
  obtain ⟨xs, n, _, rfl, hl, hlen, hf⟩ := DataW.trod_struct Try.underlying119 h
  · obtain ⟨y0, y1, rfl⟩ := list_len2 hlen
    have hw2 : ∀ n ∈ DataW.weightsEach Try.prog [9, 83] [y0.1, y1.1], n ≤ reachBytes := by
      intro n hn; refine hw n ?_; simp only [DataW.weights, Try.underlying119]; exact hn
    obtain ⟨a0, k0, r0, _⟩ := (Reads_string Try.underlying9) Hh enc n _ y0 (hf 0 _ rfl) (fun m hm => hw2 m (DataW.weights_mem_each (j := 0) rfl rfl m hm))
    obtain ⟨c0_0, _⟩ := RdAt_part r0
    obtain ⟨a1, k1, r1, _⟩ := (Reads_slice (R := Lt.Arg.enc) (es := 3) Try.underlying83 (by kernel_rfl) (of_decide_eq_true (by kernel_rfl)) (fun _ => rfl) (by decide) (Reads_Arg W)) Hh enc n _ y1 (hf 1 _ rfl) (fun m hm => hw2 m (DataW.weights_mem_each (j := 1) rfl rfl m hm))
    obtain ⟨c1_0, _⟩ := RdAt_part r1
    exact ⟨⟨a0, a1⟩, ⟨k0, k1⟩, ⟨c0_0, c1_0, trivial⟩, by rw [hl]; kernel_rfl⟩

theorem Reads_Instr (W : World) : Reads Try.prog W 87 Lt.Instr.enc Lt.Instr.okr := by
  intro Hh enc fuel cs x h hw
  obtain ⟨xs, n, _, rfl, hl, hlen, hf⟩ := DataW.trod_struct Try.underlying87 h
  · obtain ⟨y0, y1, y2, y3, y4, y5, rfl⟩ := list_len6 hlen
    have hw2 : ∀ n ∈ DataW.weightsEach Try.prog [3, 9, 9, 83, 84, 85] [y0.1, y1.1, y2.1, y3.1, y4.1, y5.1], n ≤ reachBytes := by
      intro n hn; refine hw n ?_; simp only [DataW.weights, Try.underlying87]; exact hn
    obtain ⟨a0, k0, r0, _⟩ := (Reads_int Try.underlying3) Hh enc n _ y0 (hf 0 _ rfl) (fun m hm => hw2 m (DataW.weights_mem_each (j := 0) rfl rfl m hm))
    obtain ⟨c0_0, _⟩ := RdAt_part r0
    obtain ⟨a1, k1, r1, _⟩ := (Reads_string Try.underlying9) Hh enc n _ y1 (hf 1 _ rfl) (fun m hm => hw2 m (DataW.weights_mem_each (j := 1) rfl rfl m hm))
    obtain ⟨c1_0, _⟩ := RdAt_part r1
    obtain ⟨a2, k2, r2, _⟩ := (Reads_string Try.underlying9) Hh enc n _ y2 (hf 2 _ rfl) (fun m hm => hw2 m (DataW.weights_mem_each (j := 2) rfl rfl m hm))
    obtain ⟨c2_0, _⟩ := RdAt_part r2
    obtain ⟨a3, k3, r3, _⟩ := (Reads_slice (R := Lt.Arg.enc) (es := 3) Try.underlying83 (by kernel_rfl) (of_decide_eq_true (by kernel_rfl)) (fun _ => rfl) (by decide) (Reads_Arg W)) Hh enc n _ y3 (hf 3 _ rfl) (fun m hm => hw2 m (DataW.weights_mem_each (j := 3) rfl rfl m hm))
    obtain ⟨c3_0, _⟩ := RdAt_part r3
    obtain ⟨a4, k4, r4, _⟩ := (Reads_slice (R := Lt.Frame.enc) (es := 4) Try.underlying84 (by kernel_rfl) (of_decide_eq_true (by kernel_rfl)) (fun _ => rfl) (by decide) (Reads_Frame W)) Hh enc n _ y4 (hf 4 _ rfl) (fun m hm => hw2 m (DataW.weights_mem_each (j := 4) rfl rfl m hm))
    obtain ⟨c4_0, _⟩ := RdAt_part r4
    obtain ⟨a5, k5, r5, _⟩ := (Reads_slice (R := Lt.Virt.enc) (es := 2) Try.underlying85 (by kernel_rfl) (of_decide_eq_true (by kernel_rfl)) (fun _ => rfl) (by decide) (Reads_Virt W)) Hh enc n _ y5 (hf 5 _ rfl) (fun m hm => hw2 m (DataW.weights_mem_each (j := 5) rfl rfl m hm))
    obtain ⟨c5_0, _⟩ := RdAt_part r5
    exact ⟨⟨a0, a1, a2, a3, a4, a5⟩, ⟨k0, k1, k2, k3, k4, k5⟩, ⟨c0_0, c1_0, c2_0, c3_0, c4_0, c5_0, trivial⟩, by rw [hl]; kernel_rfl⟩

theorem Reads_Term (W : World) : Reads Try.prog W 38 Lt.Term.enc Lt.Term.okr := by
  intro Hh enc fuel cs x h hw
  obtain ⟨xs, n, _, rfl, hl, hlen, hf⟩ := DataW.trod_struct Try.underlying38 h
  · obtain ⟨y0, y1, y2, y3, rfl⟩ := list_len4 hlen
    have hw2 : ∀ n ∈ DataW.weightsEach Try.prog [3, 36, 34, 2] [y0.1, y1.1, y2.1, y3.1], n ≤ reachBytes := by
      intro n hn; refine hw n ?_; simp only [DataW.weights, Try.underlying38]; exact hn
    obtain ⟨a0, k0, r0, _⟩ := (Reads_int Try.underlying3) Hh enc n _ y0 (hf 0 _ rfl) (fun m hm => hw2 m (DataW.weights_mem_each (j := 0) rfl rfl m hm))
    obtain ⟨c0_0, _⟩ := RdAt_part r0
    obtain ⟨a1, k1, r1, _⟩ := (Reads_Arg W) Hh enc n _ y1 (hf 1 _ rfl) (fun m hm => hw2 m (DataW.weights_mem_each (j := 1) rfl rfl m hm))
    obtain ⟨c1_0, c1_1, c1_2, _⟩ := RdAt_part r1
    obtain ⟨a2, k2, r2, _⟩ := (Reads_slice (R := rS.enc) (es := 1) Try.underlying34 (by kernel_rfl) (of_decide_eq_true (by kernel_rfl)) (fun _ => rfl) (by decide) (Reads_string Try.underlying9)) Hh enc n _ y2 (hf 2 _ rfl) (fun m hm => hw2 m (DataW.weights_mem_each (j := 2) rfl rfl m hm))
    obtain ⟨c2_0, _⟩ := RdAt_part r2
    obtain ⟨a3, k3, r3, _⟩ := (Reads_int Try.underlying2) Hh enc n _ y3 (hf 3 _ rfl) (fun m hm => hw2 m (DataW.weights_mem_each (j := 3) rfl rfl m hm))
    obtain ⟨c3_0, _⟩ := RdAt_part r3
    exact ⟨⟨a0, a1, a2, a3⟩, ⟨k0, k1, k2, k3⟩, ⟨c0_0, c1_0, c1_1, c1_2, c2_0, c3_0, trivial⟩, by rw [hl]; kernel_rfl⟩

theorem Reads_Block (W : World) : Reads Try.prog W 42 Lt.Block.enc Lt.Block.okr := by
  intro Hh enc fuel cs x h hw
  obtain ⟨xs, n, _, rfl, hl, hlen, hf⟩ := DataW.trod_struct Try.underlying42 h
  · obtain ⟨y0, y1, y2, y3, rfl⟩ := list_len4 hlen
    have hw2 : ∀ n ∈ DataW.weightsEach Try.prog [9, 39, 40, 38] [y0.1, y1.1, y2.1, y3.1], n ≤ reachBytes := by
      intro n hn; refine hw n ?_; simp only [DataW.weights, Try.underlying42]; exact hn
    obtain ⟨a0, k0, r0, _⟩ := (Reads_string Try.underlying9) Hh enc n _ y0 (hf 0 _ rfl) (fun m hm => hw2 m (DataW.weights_mem_each (j := 0) rfl rfl m hm))
    obtain ⟨c0_0, _⟩ := RdAt_part r0
    obtain ⟨a1, k1, r1, _⟩ := (Reads_slice (R := Lt.Phi.enc) (es := 2) Try.underlying39 (by kernel_rfl) (of_decide_eq_true (by kernel_rfl)) (fun _ => rfl) (by decide) (Reads_Phi W)) Hh enc n _ y1 (hf 1 _ rfl) (fun m hm => hw2 m (DataW.weights_mem_each (j := 1) rfl rfl m hm))
    obtain ⟨c1_0, _⟩ := RdAt_part r1
    obtain ⟨a2, k2, r2, _⟩ := (Reads_slice (R := Lt.Instr.enc) (es := 6) Try.underlying40 (by kernel_rfl) (of_decide_eq_true (by kernel_rfl)) (fun _ => rfl) (by decide) (Reads_Instr W)) Hh enc n _ y2 (hf 2 _ rfl) (fun m hm => hw2 m (DataW.weights_mem_each (j := 2) rfl rfl m hm))
    obtain ⟨c2_0, _⟩ := RdAt_part r2
    obtain ⟨a3, k3, r3, _⟩ := (Reads_Term W) Hh enc n _ y3 (hf 3 _ rfl) (fun m hm => hw2 m (DataW.weights_mem_each (j := 3) rfl rfl m hm))
    obtain ⟨c3_0, c3_1, c3_2, c3_3, c3_4, c3_5, _⟩ := RdAt_part r3
    exact ⟨⟨a0, a1, a2, a3⟩, ⟨k0, k1, k2, k3⟩, ⟨c0_0, c1_0, c2_0, c3_0, c3_1, c3_2, c3_3, c3_4, c3_5, trivial⟩, by rw [hl]; kernel_rfl⟩

theorem Reads_Func (W : World) : Reads Try.prog W 33 Lt.Func.enc Lt.Func.okr := by
  intro Hh enc fuel cs x h hw
  obtain ⟨xs, n, _, rfl, hl, hlen, hf⟩ := DataW.trod_struct Try.underlying33 h
  · obtain ⟨y0, y1, y2, y3, y4, rfl⟩ := list_len5 hlen
    have hw2 : ∀ n ∈ DataW.weightsEach Try.prog [9, 9, 23, 23, 31] [y0.1, y1.1, y2.1, y3.1, y4.1], n ≤ reachBytes := by
      intro n hn; refine hw n ?_; simp only [DataW.weights, Try.underlying33]; exact hn
    obtain ⟨a0, k0, r0, _⟩ := (Reads_string Try.underlying9) Hh enc n _ y0 (hf 0 _ rfl) (fun m hm => hw2 m (DataW.weights_mem_each (j := 0) rfl rfl m hm))
    obtain ⟨c0_0, _⟩ := RdAt_part r0
    obtain ⟨a1, k1, r1, _⟩ := (Reads_string Try.underlying9) Hh enc n _ y1 (hf 1 _ rfl) (fun m hm => hw2 m (DataW.weights_mem_each (j := 1) rfl rfl m hm))
    obtain ⟨c1_0, _⟩ := RdAt_part r1
    obtain ⟨a2, k2, r2, _⟩ := (Reads_slice (R := Lt.Var.enc) (es := 2) Try.underlying23 (by kernel_rfl) (of_decide_eq_true (by kernel_rfl)) (fun _ => rfl) (by decide) (Reads_Var W)) Hh enc n _ y2 (hf 2 _ rfl) (fun m hm => hw2 m (DataW.weights_mem_each (j := 2) rfl rfl m hm))
    obtain ⟨c2_0, _⟩ := RdAt_part r2
    obtain ⟨a3, k3, r3, _⟩ := (Reads_slice (R := Lt.Var.enc) (es := 2) Try.underlying23 (by kernel_rfl) (of_decide_eq_true (by kernel_rfl)) (fun _ => rfl) (by decide) (Reads_Var W)) Hh enc n _ y3 (hf 3 _ rfl) (fun m hm => hw2 m (DataW.weights_mem_each (j := 3) rfl rfl m hm))
    obtain ⟨c3_0, _⟩ := RdAt_part r3
    obtain ⟨a4, k4, r4, _⟩ := (Reads_slice (R := Lt.Block.enc) (es := 9) Try.underlying31 (by kernel_rfl) (of_decide_eq_true (by kernel_rfl)) (fun _ => rfl) (by decide) (Reads_Block W)) Hh enc n _ y4 (hf 4 _ rfl) (fun m hm => hw2 m (DataW.weights_mem_each (j := 4) rfl rfl m hm))
    obtain ⟨c4_0, _⟩ := RdAt_part r4
    exact ⟨⟨a0, a1, a2, a3, a4⟩, ⟨k0, k1, k2, k3, k4⟩, ⟨c0_0, c1_0, c2_0, c3_0, c4_0, trivial⟩, by rw [hl]; kernel_rfl⟩

theorem Reads_Program (W : World) : Reads Try.prog W 27 Lt.Program.enc Lt.Program.okr := by
  intro Hh enc fuel cs x h hw
  obtain ⟨xs, n, _, rfl, hl, hlen, hf⟩ := DataW.trod_struct Try.underlying27 h
  · obtain ⟨y0, y1, y2, y3, y4, rfl⟩ := list_len5 hlen
    have hw2 : ∀ n ∈ DataW.weightsEach Try.prog [4, 22, 23, 24, 25] [y0.1, y1.1, y2.1, y3.1, y4.1], n ≤ reachBytes := by
      intro n hn; refine hw n ?_; simp only [DataW.weights, Try.underlying27]; exact hn
    obtain ⟨a0, k0, r0, _⟩ := (Reads_bool Try.underlying4) Hh enc n _ y0 (hf 0 _ rfl) (fun m hm => hw2 m (DataW.weights_mem_each (j := 0) rfl rfl m hm))
    obtain ⟨c0_0, _⟩ := RdAt_part r0
    obtain ⟨a1, k1, r1, _⟩ := (Reads_slice (R := Lt.Class.enc) (es := 2) Try.underlying22 (by kernel_rfl) (of_decide_eq_true (by kernel_rfl)) (fun _ => rfl) (by decide) (Reads_Class W)) Hh enc n _ y1 (hf 1 _ rfl) (fun m hm => hw2 m (DataW.weights_mem_each (j := 1) rfl rfl m hm))
    obtain ⟨c1_0, _⟩ := RdAt_part r1
    obtain ⟨a2, k2, r2, _⟩ := (Reads_slice (R := Lt.Var.enc) (es := 2) Try.underlying23 (by kernel_rfl) (of_decide_eq_true (by kernel_rfl)) (fun _ => rfl) (by decide) (Reads_Var W)) Hh enc n _ y2 (hf 2 _ rfl) (fun m hm => hw2 m (DataW.weights_mem_each (j := 2) rfl rfl m hm))
    obtain ⟨c2_0, _⟩ := RdAt_part r2
    obtain ⟨a3, k3, r3, _⟩ := (Reads_slice (R := Lt.Extern.enc) (es := 2) Try.underlying24 (by kernel_rfl) (of_decide_eq_true (by kernel_rfl)) (fun _ => rfl) (by decide) (Reads_Extern W)) Hh enc n _ y3 (hf 3 _ rfl) (fun m hm => hw2 m (DataW.weights_mem_each (j := 3) rfl rfl m hm))
    obtain ⟨c3_0, _⟩ := RdAt_part r3
    obtain ⟨a4, k4, r4, _⟩ := (Reads_slice (R := Lt.Func.enc) (es := 5) Try.underlying25 (by kernel_rfl) (of_decide_eq_true (by kernel_rfl)) (fun _ => rfl) (by decide) (Reads_Func W)) Hh enc n _ y4 (hf 4 _ rfl) (fun m hm => hw2 m (DataW.weights_mem_each (j := 4) rfl rfl m hm))
    obtain ⟨c4_0, _⟩ := RdAt_part r4
    exact ⟨⟨a0, a1, a2, a3, a4⟩, ⟨k0, k1, k2, k3, k4⟩, ⟨c0_0, c1_0, c2_0, c3_0, c4_0, trivial⟩, by rw [hl]; kernel_rfl⟩

end Go.Am
end

section
namespace Go.Am
open Go.Proofs
set_option linter.unusedSimpArgs false
set_option linter.unusedVariables false
set_option maxRecDepth 100000 in
set_option maxHeartbeats 4000000 in
theorem walk_ShowUnlike (g : G) (hg : g.nt = Try.f4.ntmps) (a0_p : Lt.Program) (a1_q : Lt.Program) (K : AV → Prop) (KK : (Bool) → Prop) (hKK : ∀ r, KK r → K (o1 cB r) ) (h : F_ShowUnlike a0_p a1_q KK) :
    AW Try.prog g (Try.f4.body.getD .skip) (retQ Try.prog [.tmp 4] K) ⟨entryT 0 [.one ((cA Lt.Program.rw).enc a0_p), .one ((cA Lt.Program.rw).enc a1_q)], []⟩ := by
  have hcs : CT.Ok Try.prog [(5, C_awake), (6, C_Few), (8, C_showText), (9, C_Same)] := (CT.cons c_awake (CT.cons c_Few (CT.cons c_showText (CT.cons c_Same CT.ok0))))
  have hn : g.nt = 47 := hg
  have hm : Try.prog.follows .mixedOrders = true := by kernel_rfl
  unfold Try.f4
  dsimp only [Option.getD_some]
  unfold F_ShowUnlike at h
  apply AW_seq_k
  intro K1 hK1
  have hx := True.intro
  refine rgA [2, 3] [] ?_
  iterate 3 refine stA ?_
  refine enA ?_
  refine hK1 _ ?_
  apply AW_seq_k
  intro K2 hK2
  apply AW_seq_k
  intro K3 hK3
  obtain ⟨ho1, ho2, h⟩ := h
  have hx := True.intro
  refine rgV [2, 3] [] 20 (.one (.c (.d (.bool (((!Lt.awake) || (!(Lt.Few a0_p 20000))) || (!(Lt.Few a1_q 20000))))))) ?_ ?_
  · clear h
    iterate 3 refine stA ?_
    cases hb : (Lt.awake)
    · have hx := And.intro hb hx
      iterate 9 refine stA ?_
      exact lfA
    · have hx := And.intro hb hx
      have ho1 := ho1 (by simp only [push_cast, hx])
      have hx := useA ho1 hx
      iterate 5 refine stA ?_
      cases hb : (Lt.Few a0_p 20000)
      · have hx := And.intro hb hx
        iterate 4 refine stA ?_
        exact lfA
      · have hx := And.intro hb hx
        have ho2 := ho2 (by simp only [push_cast, hx])
        have hx := useA ho2 hx
        iterate 4 refine stA ?_
        exact lfA
  · refine hK3 _ ?_
    refine cdA h rfl (fun h => ?_) (fun h => ?_)
    · apply AW_seq_k
      intro K4 hK4
      have hx := True.intro
      refine rgA [4] [.loc 3, .loc 2] ?_
      iterate 2 refine stA ?_
      refine enA ?_
      refine hK4 _ ?_
      apply AW_ret
      exact fiA (hKK _ h)
    · apply AW_skip
      refine hK2 _ ?_
      apply AW_seq_k
      intro K5 hK5
      obtain ⟨ho1, h⟩ := h
      have hx := True.intro
      have hx := useA ho1 hx
      refine rgA [2, 3, 5, 6] [] ?_
      iterate 7 refine stA ?_
      refine enA ?_
      refine hK5 _ ?_
      apply AW_seq_k
      intro K6 hK6
      obtain ⟨ho1, h⟩ := h
      have hx := True.intro
      have hx := useA ho1 hx
      refine rgA [2, 3, 5, 6, 7, 8] [] ?_
      iterate 7 refine stA ?_
      refine enA ?_
      refine hK6 _ ?_
      apply AW_seq_k
      intro K7 hK7
      have hx := True.intro
      refine rgV [] [.loc 3, .loc 2] 4 (.one (.c (.d (.bool (((!decide ((Lt.showText a0_p).2 = 0)) || (!decide ((Lt.showText a1_q).2 = 0))) || ((decide ((Lt.showText a0_p).1 = (Lt.showText a1_q).1)) == (Lt.Same a0_p a1_q))))))) ?_ ?_
      · clear h
        iterate 3 refine stA ?_
        cases hb : (decide ((Lt.showText a0_p).2 = 0))
        · have hx := And.intro hb hx
          iterate 13 refine stA ?_
          exact lfA
        · have hx := And.intro hb hx
          iterate 4 refine stA ?_
          cases hb : (decide ((Lt.showText a1_q).2 = 0))
          · have hx := And.intro hb hx
            iterate 9 refine stA ?_
            exact lfA
          · have hx := And.intro hb hx
            iterate 9 refine stA ?_
            exact lfA
      · refine hK7 _ ?_
        apply AW_ret
        exact fiA (hKK _ h)

end Go.Am
end

section
namespace Go.Am
open Go
set_option linter.unusedVariables false
set_option linter.unusedSimpArgs false

/-- a word: of bytes behind the blank -/
def plainW (w : List UInt8) : Prop := w ≠ [] ∧ ∀ c ∈ w, 32 < c.toNat
instance (w : List UInt8) : Decidable (plainW w) := inferInstanceAs (Decidable (_ ∧ _))

/-- what begins with a byte that is no word's -/
def stops (r : List UInt8) : Prop := ∃ c s, r = c :: s ∧ c.toNat ≤ 32

theorem word_split : ∀ {w1 w2 r1 r2 : List UInt8}, (∀ c ∈ w1, 32 < c.toNat) → (∀ c ∈ w2, 32 < c.toNat) → stops r1 → stops r2 → w1 ++ r1 = w2 ++ r2 → w1 = w2 ∧ r1 = r2
  | [], [], _, _, _, _, _, _, h => ⟨rfl, by simpa using h⟩
  | [], c :: w, r1, r2, _, h2, ⟨d, s, hd, hs⟩, _, h => by
    subst hd
    simp only [List.nil_append, List.cons_append, List.cons.injEq] at h
    have := h2 c (by simp)
    rw [h.1] at hs
    omega
  | c :: w, [], r1, r2, h1, _, _, ⟨d, s, hd, hs⟩, h => by
    subst hd
    simp only [List.nil_append, List.cons_append, List.cons.injEq] at h
    have := h1 c (by simp)
    rw [← h.1] at hs
    omega
  | c :: w1, d :: w2, r1, r2, h1, h2, s1, s2, h => by
    simp only [List.cons_append, List.cons.injEq] at h
    obtain ⟨e1, e2⟩ := word_split (fun x hx => h1 x (List.mem_cons_of_mem _ hx)) (fun x hx => h2 x (List.mem_cons_of_mem _ hx)) s1 s2 h.2
    exact ⟨by rw [h.1, e1], e2⟩

theorem jw_stops (t : List (List UInt8)) (r : List UInt8) : stops (Lt.jw true t ++ 10 :: r) := by
  cases t with
  | nil => exact ⟨10, r, rfl, by decide⟩
  | cons w t => exact ⟨32, _, rfl, by decide⟩

theorem jw_inj : ∀ {a b : List (List UInt8)} {r s : List UInt8}, (∀ w ∈ a, plainW w) → (∀ w ∈ b, plainW w) → Lt.jw true a ++ 10 :: r = Lt.jw true b ++ 10 :: s → a = b ∧ r = s
  | [], [], _, _, _, _, h => by simpa [Lt.jw] using h
  | [], w :: b, _, _, _, _, h => by simp [Lt.jw] at h
  | w :: a, [], _, _, _, _, h => by simp [Lt.jw] at h
  | v :: a, w :: b, r, s, ha, hb, h => by
    simp only [Lt.jw, if_true, List.cons_append, List.nil_append, List.append_assoc, List.cons.injEq, true_and] at h
    obtain ⟨e1, e2⟩ := word_split (ha v (by simp)).2 (hb w (by simp)).2 (jw_stops a r) (jw_stops b s) h
    obtain ⟨e3, e4⟩ := jw_inj (fun x hx => ha x (List.mem_cons_of_mem _ hx)) (fun x hx => hb x (List.mem_cons_of_mem _ hx)) e2
    exact ⟨by rw [e1, e3], e4⟩

/-- a line that is laid: some words, each one plain -/
def laidOk (x : Lt.Line) : Prop := x.N = 0 ∧ x.Words ≠ [] ∧ ∀ w ∈ x.Words, plainW w

theorem line_inj {x y : Lt.Line} {r s : List UInt8} (hx : laidOk x) (hy : laidOk y) (h : Lt.jw false x.Words ++ 10 :: r = Lt.jw false y.Words ++ 10 :: s) : x = y ∧ r = s := by
  obtain ⟨n, ws⟩ := x; obtain ⟨m, vs⟩ := y
  obtain ⟨h1, h2, h3⟩ := hx; obtain ⟨k1, k2, k3⟩ := hy
  dsimp only at h1 h2 h3 k1 k2 k3 h
  subst h1; subst k1
  match ws, vs, h2, k2 with
  | w :: ws, v :: vs, _, _ =>
    simp only [Lt.jw, Bool.false_eq_true, if_false, List.nil_append, List.append_assoc] at h
    obtain ⟨e1, e2⟩ := word_split (h3 w (by simp)).2 (k3 v (by simp)).2 (jw_stops ws r) (jw_stops vs s) h
    obtain ⟨e3, e4⟩ := jw_inj (fun x hx => h3 x (List.mem_cons_of_mem _ hx)) (fun x hx => k3 x (List.mem_cons_of_mem _ hx)) e2
    exact ⟨by rw [e1, e3], e4⟩

theorem joinB_inj : ∀ {a b : List Lt.Line}, (∀ x ∈ a, laidOk x) → (∀ x ∈ b, laidOk x) → Lt.joinB a = Lt.joinB b → a = b
  | [], [], _, _, _ => rfl
  | [], y :: b, _, _, h => by
    exfalso
    simp only [Lt.joinB, List.flatMap_nil, List.flatMap_cons] at h
    have := congrArg List.length h
    simp at this
  | x :: a, [], _, _, h => by
    exfalso
    simp only [Lt.joinB, List.flatMap_nil, List.flatMap_cons] at h
    have := congrArg List.length h
    simp at this
  | x :: a, y :: b, ha, hb, h => by
    simp only [Lt.joinB, List.flatMap_cons, List.append_assoc, List.cons_append, List.nil_append] at h
    obtain ⟨e1, e2⟩ := line_inj (ha x (by simp)) (hb y (by simp)) h
    rw [e1, joinB_inj (fun z hz => ha z (List.mem_cons_of_mem _ hz)) (fun z hz => hb z (List.mem_cons_of_mem _ hz)) e2]

/-! numbers -/

theorem digs_byte : ∀ (n : Nat), Lt.digs n ≠ [] ∧ ∀ c ∈ Lt.digs n, 48 ≤ c.toNat ∧ c.toNat ≤ 57 := by
  intro n
  induction n using Nat.strongRecOn with
  | _ n ih =>
    by_cases h : n < 10
    · rw [digs_small h]
      refine ⟨by simp, fun c hc => ?_⟩
      simp only [List.mem_singleton] at hc
      subst hc
      simp only [UInt8.toNat_ofNat']
      omega
    · rw [digs_big h]
      refine ⟨by simp, fun c hc => ?_⟩
      rcases List.mem_append.1 hc with hc | hc
      · exact (ih (n / 10) (by omega)).2 c hc
      · simp only [List.mem_singleton] at hc
        subst hc
        simp only [UInt8.toNat_ofNat']
        omega

theorem byte_inj {a b : Nat} (ha : a < 256) (hb : b < 256) (h : UInt8.ofNat a = UInt8.ofNat b) : a = b := by
  have := congrArg UInt8.toNat h
  simp only [UInt8.toNat_ofNat'] at this
  omega

theorem digs_inj : ∀ (n m : Nat), Lt.digs n = Lt.digs m → n = m := by
  intro n
  induction n using Nat.strongRecOn with
  | _ n ih =>
    intro m h
    by_cases hn : n < 10
    · by_cases hm : m < 10
      · rw [digs_small hn, digs_small hm] at h
        simp only [List.cons.injEq, and_true] at h
        have := byte_inj (by omega) (by omega) h
        omega
      · rw [digs_small hn, digs_big hm] at h
        have h1 := congrArg List.length h
        have h2 := List.length_pos_iff.2 (digs_byte (m / 10)).1
        simp only [List.length_append, List.length_cons, List.length_nil] at h1
        omega
    · by_cases hm : m < 10
      · rw [digs_small hm, digs_big hn] at h
        have h1 := congrArg List.length h
        have h2 := List.length_pos_iff.2 (digs_byte (n / 10)).1
        simp only [List.length_append, List.length_cons, List.length_nil] at h1
        omega
      · rw [digs_big hn, digs_big hm] at h
        obtain ⟨h1, h2⟩ := List.append_inj' h (by simp)
        have h3 := ih (n / 10) (by omega) _ h1
        simp only [List.cons.injEq, and_true] at h2
        have := byte_inj (by omega) (by omega) h2
        omega

theorem numPut_inj {n m : Int} (h : Lt.numPut n = Lt.numPut m) : n = m := by
  unfold Lt.numPut at h
  have hd : ∀ k, ∀ r, Lt.digs k ≠ 45 :: r := by
    intro k r e
    have := (digs_byte k).2 45 (by rw [e]; simp)
    have h45 : (45 : UInt8).toNat = 45 := by decide
    omega
  by_cases hn : n < 0
  · by_cases hm : m < 0
    · simp only [hn, hm, if_true, List.cons_append, List.nil_append, List.cons.injEq, true_and] at h
      have := digs_inj _ _ h
      omega
    · simp only [hn, hm, if_true, if_false, List.cons_append, List.nil_append] at h
      exact absurd h.symm (hd _ _)
  · by_cases hm : m < 0
    · simp only [hn, hm, if_true, if_false, List.cons_append, List.nil_append] at h
      exact absurd h (hd _ _)
    · simp only [hn, hm, if_false, List.nil_append] at h
      have := digs_inj _ _ h
      omega

theorem numPut_byte (n : Int) : Lt.numPut n ≠ [] ∧ ∀ c ∈ Lt.numPut n, c.toNat = 45 ∨ (48 ≤ c.toNat ∧ c.toNat ≤ 57) := by
  unfold Lt.numPut
  have h := digs_byte n.natAbs
  refine ⟨fun e => h.1 (List.append_eq_nil_iff.1 e).2, fun c hc => ?_⟩
  rcases List.mem_append.1 hc with hc | hc
  · split at hc
    · simp only [List.mem_singleton] at hc
      subst hc
      exact .inl (by decide)
    · cases hc
  · exact .inr (h.2 c hc)

/-! floats -/

def hexTab : List UInt8 := [48, 49, 50, 51, 52, 53, 54, 55, 56, 57, 97, 98, 99, 100, 101, 102]
theorem hex_inj : ∀ i j : Fin 16, hexTab.getD i.val 0 = hexTab.getD j.val 0 → i = j := by decide

/-- the number of which hexAt tells the digit -/
theorem hexAt_eq (u : Int) (k : Nat) (hk : k ≤ 15) : Lt.hexAt u (60 - 4 * (k : Int)) = hexTab.getD ((u % 18446744073709551616).toNat / 16 ^ (15 - k) % 16) 0 := by
  have hs : IntKind.u64.wrap (60 - 4 * (k : Int)) = ((60 - 4 * k : Nat) : Int) := by
    rw [← wrapu_small (n := 60 - 4 * k) (by omega)]
    congr 1
    omega
  have hu : IntKind.u64.wrap u = u % 18446744073709551616 := by
    simp only [IntKind.wrap, IntKind.signed, IntKind.bits]
    simp
  have h15 : (BitVec.ofInt IntKind.u64.bits 15).toNat = 15 := by decide
  have hmin : min (60 - 4 * k) IntKind.u64.bits = 4 * (15 - k) := by
    have : IntKind.u64.bits = 64 := rfl
    rw [this]; omega
  obtain ⟨U, hU⟩ : ∃ U : Nat, u % 18446744073709551616 = (U : Int) := ⟨(u % 18446744073709551616).toNat, by omega⟩
  have hUlt : U < 18446744073709551616 := by omega
  have hbv : (BitVec.ofInt IntKind.u64.bits (Int.fdiv (IntKind.u64.wrap u) (2 ^ (min (IntKind.u64.wrap (60 - 4 * (k : Int))).toNat IntKind.u64.bits))) &&& BitVec.ofInt IntKind.u64.bits 15).toNat = U / 16 ^ (15 - k) % 16 := by
    rw [hs, Int.toNat_natCast, hmin, hu, hU]
    have hp : (2 : Int) ^ (4 * (15 - k)) = ((16 ^ (15 - k) : Nat) : Int) := by
      rw [Nat.pow_mul 2 4 (15 - k) |> fun h => (by norm_cast : (2 : Int) ^ (4 * (15 - k)) = ((2 ^ (4 * (15 - k)) : Nat) : Int)), Nat.pow_mul]
    have hdiv : Int.fdiv (U : Int) ((16 ^ (15 - k) : Nat) : Int) = ((U / 16 ^ (15 - k) : Nat) : Int) := by
      rw [Int.fdiv_eq_ediv_of_nonneg _ (Int.natCast_nonneg _)]
      rfl
    rw [hp, hdiv, BitVec.toNat_and, h15]
    have hb : (BitVec.ofInt IntKind.u64.bits ((U / 16 ^ (15 - k) : Nat) : Int)).toNat = U / 16 ^ (15 - k) := by
      rw [BitVec.ofInt_natCast, BitVec.toNat_ofNat]
      have : U / 16 ^ (15 - k) ≤ U := Nat.div_le_self _ _
      have h64 : (2 : Nat) ^ IntKind.u64.bits = 18446744073709551616 := by decide
      rw [h64]
      exact Nat.mod_eq_of_lt (by omega)
    rw [hb]
    have := Nat.and_two_pow_sub_one_eq_mod (U / 16 ^ (15 - k)) 4
    simpa using this
  unfold Lt.hexAt
  rw [hbv, hU]
  have hlt : U / 16 ^ (15 - k) % 16 < 16 := Nat.mod_lt _ (by decide)
  rw [wrapu_small (by omega), Int.toNat_natCast, Int.toNat_natCast]
  rfl

theorem digits16 : ∀ (n : Nat) (U V : Nat), U < 16 ^ n → V < 16 ^ n → (∀ j, j < n → U / 16 ^ j % 16 = V / 16 ^ j % 16) → U = V
  | 0, U, V, hU, hV, _ => by simp at hU hV; omega
  | n + 1, U, V, hU, hV, h => by
    have h0 := h 0 (by omega)
    simp only [Nat.pow_zero, Nat.div_one] at h0
    have hr := digits16 n (U / 16) (V / 16) (by rw [Nat.pow_succ] at hU; omega) (by rw [Nat.pow_succ] at hV; omega) (fun j hj => by
      have := h (j + 1) (by omega)
      rw [Nat.pow_succ, Nat.mul_comm, ← Nat.div_div_eq_div_mul, ← Nat.div_div_eq_div_mul] at this
      exact this)
    omega

theorem floPut_inj {n m : Int} (hn : Lt.inR n) (hm : Lt.inR m) (pn : Lt.Plain n = n) (pm : Lt.Plain m = m) (h : Lt.floPut n = Lt.floPut m) : n = m := by
  unfold Lt.floPut at h
  rw [pn, pm] at h
  have h' := List.append_cancel_left h
  unfold Lt.inR at hn hm
  have hh : (n % 18446744073709551616).toNat = (m % 18446744073709551616).toNat := by
    refine digits16 16 _ _ (by omega) (by omega) (fun j hj => ?_)
    have hg := congrArg (fun l => l[15 - j]?) h'
    simp only [List.getElem?_map] at hg
    rw [List.getElem?_range (by omega)] at hg
    simp only [Option.map_some, Option.some.injEq] at hg
    rw [hexAt_eq n (15 - j) (by omega), hexAt_eq m (15 - j) (by omega), show 15 - (15 - j) = j by omega] at hg
    have := hex_inj ⟨_, Nat.mod_lt ((n % 18446744073709551616).toNat / 16 ^ j) (by decide : 0 < 16)⟩ ⟨_, Nat.mod_lt ((m % 18446744073709551616).toNat / 16 ^ j) (by decide : 0 < 16)⟩ hg
    exact congrArg Fin.val this
  omega
end Go.Am
end

section
namespace Go.Am
open Go
set_option linter.unusedVariables false
set_option linter.unusedSimpArgs false

theorem letter_ge {c : UInt8} (h : Lt.letter ((c.toNat : Nat) : Int) = true) : 65 ≤ c.toNat := by
  unfold Lt.letter at h
  simp only [Bool.or_eq_true, Bool.and_eq_true, decide_eq_true_eq] at h
  omega

theorem nameByte_ge {c : UInt8} (h : Lt.nameByte c = true) : 48 ≤ c.toNat ∧ c.toNat ≠ 61 := by
  unfold Lt.nameByte Lt.letter Lt.wordDigit at h
  simp only [Bool.or_eq_true, Bool.and_eq_true, decide_eq_true_eq] at h
  omega

theorem Name_parts {s : List UInt8} (h : Lt.Name s = true) : ∃ c r, s = c :: r ∧ 65 ≤ c.toNat ∧ (∀ d ∈ s, 48 ≤ d.toNat ∧ d.toNat ≠ 61) ∧ Lt.kept s = false := by
  unfold Lt.Name at h
  simp only [Bool.and_eq_true, decide_eq_true_eq, Bool.not_eq_true', decide_eq_false_iff_not, List.all_eq_true] at h
  obtain ⟨⟨⟨⟨h1, h2⟩, h3⟩, h4⟩, h5⟩ := h
  cases s with
  | nil => exact absurd rfl h1
  | cons c r => exact ⟨c, r, rfl, letter_ge h3, fun d hd => nameByte_ge (h5 d hd), h4⟩

theorem Name_plain {s : List UInt8} (h : Lt.Name s = true) : plainW s := by
  obtain ⟨c, r, e, _, h2, _⟩ := Name_parts h
  exact ⟨by rw [e]; simp, fun d hd => by have := h2 d hd; omega⟩

theorem Name_ne {s : List UInt8} (h : Lt.Name s = true) : s ≠ [61] := by
  intro e
  obtain ⟨c, r, _, _, h2, _⟩ := Name_parts h
  have := h2 61 (by rw [e]; simp)
  exact this.2 (by decide)

theorem Name_null {s : List UInt8} (h : Lt.Name s = true) : s ≠ [110, 117, 108, 108] := by
  intro e
  obtain ⟨c, r, _, _, _, h3⟩ := Name_parts h
  rw [e] at h3
  revert h3
  decide

theorem kind_plain {s : List UInt8} (h : Lt.kind s = true) : plainW s := by
  unfold Lt.kind at h
  simp only [Bool.or_eq_true, decide_eq_true_eq] at h
  rcases h with (rfl | rfl) | h
  · decide
  · decide
  · exact Name_plain h

theorem numPut_plain (n : Int) : plainW (Lt.numPut n) := by
  have h := numPut_byte n
  exact ⟨h.1, fun c hc => by have := h.2 c hc; omega⟩

theorem hexTab_ge : ∀ i : Fin 16, 48 ≤ (hexTab.getD i.val 0).toNat := by decide

theorem floPut_plain (n : Int) : plainW (Lt.floPut n) := by
  refine ⟨by simp [Lt.floPut], fun c hc => ?_⟩
  unfold Lt.floPut at hc
  rcases List.mem_append.1 hc with hc | hc
  · simp only [List.mem_cons, List.not_mem_nil, or_false] at hc
    rcases hc with rfl | rfl <;> decide
  · obtain ⟨k, hk, rfl⟩ := List.mem_map.1 hc
    rw [hexAt_eq _ k (by have := List.mem_range.1 hk; omega)]
    have := hexTab_ge ⟨_, Nat.mod_lt ((Lt.Plain n % 18446744073709551616).toNat / 16 ^ (15 - k)) (by decide : 0 < 16)⟩
    dsimp only at this
    omega

theorem put1 {a : Lt.Arg} (h : Lt.wordRight a = true) (hk : a.Kind = 1) : Lt.wordPut a = a.S := by
  rw [Lt.wordPut, if_pos h, if_neg (by omega), if_neg (by omega), if_neg (by omega), if_neg (by omega)]
theorem put2 {a : Lt.Arg} (h : Lt.wordRight a = true) (hk : a.Kind = 2) : Lt.wordPut a = Lt.numPut a.N := by
  rw [Lt.wordPut, if_pos h, if_pos hk]
theorem put3 {a : Lt.Arg} (h : Lt.wordRight a = true) (hk : a.Kind = 3) : Lt.wordPut a = Lt.floPut a.N := by
  rw [Lt.wordPut, if_pos h, if_neg (by omega), if_pos hk]
theorem put4 {a : Lt.Arg} (h : Lt.wordRight a = true) (hk : a.Kind = 4) : Lt.wordPut a = [110, 117, 108, 108] := by
  rw [Lt.wordPut, if_pos h, if_neg (by omega), if_neg (by omega), if_pos hk]
theorem put5 {a : Lt.Arg} (h : Lt.wordRight a = true) (hk : a.Kind = 5) : Lt.wordPut a = 35 :: Lt.numPut a.N := by
  rw [Lt.wordPut, if_pos h, if_neg (by omega), if_neg (by omega), if_neg (by omega), if_pos hk]

theorem wordPut_plain {a : Lt.Arg} (h : Lt.wordRight a = true) : plainW (Lt.wordPut a) := by
  rcases wordRight_cases h with h' | h' | h' | h' | h'
  · rw [put1 h h'.1]; exact Name_plain h'.2.1
  · rw [put2 h h'.1]; exact numPut_plain _
  · rw [put3 h h'.1]; exact floPut_plain _
  · rw [put4 h h'.1]; decide
  · rw [put5 h h'.1]
    refine ⟨by simp, fun c hc => ?_⟩
    rcases List.mem_cons.1 hc with rfl | hc
    · decide
    · exact (numPut_plain _).2 c hc

theorem numPut_ne (n : Int) : Lt.numPut n ≠ [61] := by
  intro e
  have := (numPut_byte n).2 61 (by rw [e]; simp)
  have h61 : (61 : UInt8).toNat = 61 := by decide
  omega

theorem wordPut_ne {a : Lt.Arg} (h : Lt.wordRight a = true) : Lt.wordPut a ≠ [61] := by
  rcases wordRight_cases h with h' | h' | h' | h' | h'
  · rw [put1 h h'.1]; exact Name_ne h'.2.1
  · rw [put2 h h'.1]; exact numPut_ne _
  · rw [put3 h h'.1]; simp [Lt.floPut]
  · rw [put4 h h'.1]; decide
  · rw [put5 h h'.1]; simp

/-- the words' kinds -/
theorem num_name {n : Int} {s : List UInt8} (h : Lt.Name s = true) : Lt.numPut n ≠ s := by
  intro e
  obtain ⟨c, r, e2, h1, _, _⟩ := Name_parts h
  have := (numPut_byte n).2 c (by rw [e, e2]; simp)
  omega
theorem flo_name {n : Int} {s : List UInt8} (h : Lt.Name s = true) : Lt.floPut n ≠ s := by
  intro e
  obtain ⟨c, r, e2, h1, _, _⟩ := Name_parts h
  rw [e2] at e
  simp only [Lt.floPut, List.cons_append, List.cons.injEq] at e
  rw [← e.1] at h1
  revert h1; decide
theorem obj_name {l s : List UInt8} (h : Lt.Name s = true) : 35 :: l ≠ s := by
  intro e
  obtain ⟨c, r, e2, h1, _, _⟩ := Name_parts h
  rw [e2] at e
  simp only [List.cons.injEq] at e
  rw [← e.1] at h1
  revert h1; decide
theorem num_flo (n m : Int) : Lt.numPut n ≠ Lt.floPut m := by
  intro e
  have := (numPut_byte n).2 102 (by rw [e]; simp [Lt.floPut])
  have h : (102 : UInt8).toNat = 102 := by decide
  omega
theorem num_null (n : Int) : Lt.numPut n ≠ [110, 117, 108, 108] := by
  intro e
  have := (numPut_byte n).2 110 (by rw [e]; simp)
  have h : (110 : UInt8).toNat = 110 := by decide
  omega
theorem num_obj (n : Int) (l : List UInt8) : Lt.numPut n ≠ 35 :: l := by
  intro e
  have := (numPut_byte n).2 35 (by rw [e]; simp)
  have h : (35 : UInt8).toNat = 35 := by decide
  omega

theorem wordPut_inj {a b : Lt.Arg} (ha : Lt.wordRight a = true) (hb : Lt.wordRight b = true) (oa : a.ok) (ob : b.ok) (h : Lt.wordPut a = Lt.wordPut b) : a = b := by
  obtain ⟨k, s, n⟩ := a; obtain ⟨k', s', n'⟩ := b
  rcases wordRight_cases ha with a1 | a1 | a1 | a1 | a1 <;> rcases wordRight_cases hb with b1 | b1 | b1 | b1 | b1
  · rw [put1 ha a1.1, put1 hb b1.1] at h
    dsimp only at a1 b1 h
    rw [a1.1, b1.1, h, a1.2.2, b1.2.2]
  · rw [put1 ha a1.1, put2 hb b1.1] at h; exact absurd h.symm (num_name a1.2.1)
  · rw [put1 ha a1.1, put3 hb b1.1] at h; exact absurd h.symm (flo_name a1.2.1)
  · rw [put1 ha a1.1, put4 hb b1.1] at h; exact absurd h (Name_null a1.2.1)
  · rw [put1 ha a1.1, put5 hb b1.1] at h; exact absurd h.symm (obj_name a1.2.1)
  · rw [put2 ha a1.1, put1 hb b1.1] at h; exact absurd h (num_name b1.2.1)
  · rw [put2 ha a1.1, put2 hb b1.1] at h
    have := numPut_inj h
    dsimp only at a1 b1 this
    rw [a1.1, b1.1, this, a1.2, b1.2]
  · rw [put2 ha a1.1, put3 hb b1.1] at h; exact absurd h (num_flo _ _)
  · rw [put2 ha a1.1, put4 hb b1.1] at h; exact absurd h (num_null _)
  · rw [put2 ha a1.1, put5 hb b1.1] at h; exact absurd h (num_obj _ _)
  · rw [put3 ha a1.1, put1 hb b1.1] at h; exact absurd h (flo_name b1.2.1)
  · rw [put3 ha a1.1, put2 hb b1.1] at h; exact absurd h.symm (num_flo _ _)
  · rw [put3 ha a1.1, put3 hb b1.1] at h
    have := floPut_inj oa ob a1.2.2 b1.2.2 h
    dsimp only at a1 b1 this
    rw [a1.1, b1.1, this, a1.2.1, b1.2.1]
  · rw [put3 ha a1.1, put4 hb b1.1] at h; simp [Lt.floPut] at h
  · rw [put3 ha a1.1, put5 hb b1.1] at h; simp [Lt.floPut] at h
  · rw [put4 ha a1.1, put1 hb b1.1] at h; exact absurd h.symm (Name_null b1.2.1)
  · rw [put4 ha a1.1, put2 hb b1.1] at h; exact absurd h.symm (num_null _)
  · rw [put4 ha a1.1, put3 hb b1.1] at h; simp [Lt.floPut] at h
  · dsimp only at a1 b1
    rw [a1.1, b1.1, a1.2.1, b1.2.1, a1.2.2, b1.2.2]
  · rw [put4 ha a1.1, put5 hb b1.1] at h; simp at h
  · rw [put5 ha a1.1, put1 hb b1.1] at h; exact absurd h (obj_name b1.2.1)
  · rw [put5 ha a1.1, put2 hb b1.1] at h; exact absurd h.symm (num_obj _ _)
  · rw [put5 ha a1.1, put3 hb b1.1] at h; simp [Lt.floPut] at h
  · rw [put5 ha a1.1, put4 hb b1.1] at h; simp at h
  · rw [put5 ha a1.1, put5 hb b1.1] at h
    simp only [List.cons.injEq, true_and] at h
    have := numPut_inj h
    dsimp only at a1 b1 this
    rw [a1.1, b1.1, this, a1.2.1, b1.2.1]

theorem argRight_word {o : Bool} {a : Lt.Arg} (h : Lt.argRight o a = true) : Lt.wordRight a = true := by
  unfold Lt.argRight at h
  rw [Bool.and_eq_true] at h
  exact h.1

theorem showArgs_word {l : List Lt.Arg} {o : Bool} (h : Lt.showArgs l o = true) : ∀ a ∈ l, Lt.wordRight a = true := by
  unfold Lt.showArgs at h
  rw [List.all_eq_true] at h
  exact fun a ha => argRight_word (h a ha)

theorem map_inj {α β : Type} {f : α → β} : ∀ {l k : List α}, (∀ a ∈ l, ∀ b ∈ k, f a = f b → a = b) → l.map f = k.map f → l = k
  | [], [], _, _ => rfl
  | [], b :: k, _, h => by simp at h
  | a :: l, [], _, h => by simp at h
  | a :: l, b :: k, hi, h => by
    simp only [List.map_cons, List.cons.injEq] at h
    rw [hi a (by simp) b (by simp) h.1, map_inj (fun x hx y hy => hi x (List.mem_cons_of_mem _ hx) y (List.mem_cons_of_mem _ hy)) h.2]

theorem puts_inj {l k : List Lt.Arg} {o o' : Bool} (hl : Lt.showArgs l o = true) (hk : Lt.showArgs k o' = true) (ol : Lt.argsOk l) (ok : Lt.argsOk k) (h : Lt.puts l = Lt.puts k) : l = k :=
  map_inj (fun a ha b hb e => wordPut_inj (showArgs_word hl a ha) (showArgs_word hk b hb) (ol a ha) (ok b hb) e) h

theorem pairs_inj {α : Type} {f g : α → List UInt8} : ∀ {l k : List α}, (∀ a ∈ l, ∀ b ∈ k, f a = f b → g a = g b → a = b) → (l.flatMap fun a => [f a, g a]) = (k.flatMap fun a => [f a, g a]) → l = k
  | [], [], _, _ => rfl
  | [], b :: k, _, h => by simp at h
  | a :: l, [], _, h => by simp at h
  | a :: l, b :: k, hi, h => by
    simp only [List.flatMap_cons, List.cons_append, List.nil_append, List.cons.injEq] at h
    rw [hi a (by simp) b (by simp) h.1 h.2.1, pairs_inj (fun x hx y hy => hi x (List.mem_cons_of_mem _ hx) y (List.mem_cons_of_mem _ hy)) h.2.2]
end Go.Am
end

section
namespace Go.Am
open Go
set_option linter.unusedVariables false
set_option linter.unusedSimpArgs false

/-- what instructions are called -/
def opTab : List (List UInt8) := [[], [97, 100, 100], [115, 117, 98], [109, 117, 108], [100, 105, 118], [114, 101, 109], [97, 110, 100], [111, 114], [120, 111, 114], [115, 104, 108], [115, 104, 114], [101, 113], [110, 101], [108, 116], [108, 101], [102, 97, 100, 100], [102, 115, 117, 98], [102, 109, 117, 108], [102, 100, 105, 118], [102, 101, 113], [102, 108, 116], [102, 108, 101], [105, 116, 111, 102], [102, 116, 111, 105], [109, 111, 118], [110, 101, 119], [108, 111, 97, 100], [115, 116, 111, 114, 101], [115, 97, 109, 101], [103, 108, 111, 97, 100], [103, 115, 116, 111, 114, 101], [99, 97, 108, 108], [101, 120, 116], [111, 117, 116], [103, 117, 97, 114, 100]]

theorem Of_tab : ∀ n : Fin 35, (Lt.Of ((n.val : Nat) : Int)).1.Word = opTab.getD n.val [] := by decide +kernel
theorem opTab_inj : ∀ n m : Fin 35, opTab.getD n.val [] = opTab.getD m.val [] → n = m := by decide +kernel
theorem opTab_plain : ∀ n : Fin 35, 0 < n.val → plainW (opTab.getD n.val []) := by decide +kernel

theorem Of_right {op : Int} (h : (Lt.Of op).2 = true) : 1 ≤ op ∧ op ≤ 34 := by
  by_cases h1 : 1 ≤ op ∧ op ≤ 34
  · exact h1
  · exfalso
    have : Lt.Of op = (⟨[], false, false, 0, 0⟩, false) := by
      unfold Lt.Of
      rw [if_neg (by omega), if_neg (by omega), if_neg (by omega), if_neg (by omega), if_neg (by omega), if_neg (by omega), if_neg (by omega), if_neg (by omega), if_neg (by omega), if_neg (by omega), if_neg (by omega), if_neg (by omega)]
    rw [this] at h
    cases h

theorem Of_word {op : Int} (h : (Lt.Of op).2 = true) : ∃ n : Fin 35, 0 < n.val ∧ op = ((n.val : Nat) : Int) ∧ (Lt.Of op).1.Word = opTab.getD n.val [] := by
  obtain ⟨h1, h2⟩ := Of_right h
  refine ⟨⟨op.toNat, by omega⟩, by show 0 < op.toNat; omega, by show op = ((op.toNat : Nat) : Int); omega, ?_⟩
  have := Of_tab ⟨op.toNat, by omega⟩
  dsimp only at this ⊢
  rw [show ((op.toNat : Nat) : Int) = op by omega] at this
  exact this

theorem Of_inj {a b : Int} (ha : (Lt.Of a).2 = true) (hb : (Lt.Of b).2 = true) (h : (Lt.Of a).1.Word = (Lt.Of b).1.Word) : a = b := by
  obtain ⟨n, _, e1, w1⟩ := Of_word ha
  obtain ⟨m, _, e2, w2⟩ := Of_word hb
  rw [w1, w2] at h
  have := opTab_inj n m h
  rw [e1, e2, this]

theorem Of_plain {op : Int} (h : (Lt.Of op).2 = true) : plainW (Lt.Of op).1.Word := by
  obtain ⟨n, h0, _, w⟩ := Of_word h
  rw [w]
  exact opTab_plain n h0

theorem ln_laid {ws : List (List UInt8)} (hne : ws ≠ []) (h : ∀ w ∈ ws, plainW w) : laidOk (Lt.ln ws) := ⟨rfl, hne, h⟩

theorem puts_plain {l : List Lt.Arg} {o : Bool} (h : Lt.showArgs l o = true) : ∀ w ∈ Lt.puts l, plainW w := by
  intro w hw
  obtain ⟨a, ha, rfl⟩ := List.mem_map.1 hw
  exact wordPut_plain (showArgs_word h a ha)

theorem varsL_laid (first : List UInt8) (hf : plainW first) {l : List Lt.Var} {n : Int} (h : Lt.typed l n = true) : ∀ x ∈ Lt.varsL first l, laidOk x := by
  intro x hx
  obtain ⟨v, hv, rfl⟩ := List.mem_map.1 hx
  unfold Lt.typed at h
  simp only [Bool.and_eq_true, List.all_eq_true] at h
  have := h.2 v hv
  refine ln_laid (by simp) (fun w hw => ?_)
  simp only [List.mem_cons, List.not_mem_nil, or_false] at hw
  rcases hw with rfl | rfl | rfl
  · exact hf
  · exact Name_plain this.1
  · exact kind_plain this.2

theorem codeL_laid {i : Lt.Instr} (h : Lt.instr i = true) : ∀ x ∈ Lt.codeL i, laidOk x := by
  have I := instr_ok h
  intro x hx
  simp only [Lt.codeL, List.mem_append, List.mem_singleton, List.mem_map] at hx
  rcases hx with (rfl | ⟨f, hf, rfl⟩) | ⟨o, ho, rfl⟩
  · refine ln_laid ?_ (fun w hw => ?_)
    · intro e
      have := congrArg List.length e
      simp only [Lt.words, List.length_append, List.length_cons, List.length_nil] at this
      omega
    · have hp := puts_plain I.aok
      simp only [Lt.words, List.mem_append] at hw
      rcases hw with (hw | hw) | hw
      · split at hw
        · rename_i hd
          simp only [List.mem_cons, List.not_mem_nil, or_false] at hw
          rcases hw with rfl | rfl
          · exact Name_plain (I.dstN hd)
          · decide
        · cases hw
      · simp only [List.mem_singleton] at hw
        subst hw
        exact Of_plain I.of
      · split at hw
        · rename_i hc
          have h1 := I.least hc
          simp only [List.mem_cons] at hw
          rcases hw with rfl | rfl | hw
          · exact hp _ (mem_getD _ (by rw [puts_len]; omega))
          · have : (Lt.Of i.Op).1.Named = true := by rcases hc with e | e <;> rw [e] <;> decide
            exact Name_plain (I.nmN this)
          · exact hp _ (List.mem_of_mem_drop hw)
        · simp only [List.mem_append] at hw
          rcases hw with hw | hw
          · split at hw
            · rename_i hd
              simp only [List.mem_singleton] at hw
              subst hw
              exact Name_plain (I.nmN hd)
            · cases hw
          · exact hp _ hw
  · have V := frame_ok (I.fr f hf)
    refine ln_laid (by simp [Lt.frameW]) (fun w hw => ?_)
    simp only [Lt.frameW, List.mem_append, List.mem_cons, List.not_mem_nil, or_false, List.mem_flatMap] at hw
    rcases hw with (rfl | rfl | rfl | rfl) | ⟨b, hb, rfl | rfl⟩
    · decide
    · exact Name_plain V.1
    · exact Name_plain V.2.1
    · exact numPut_plain _
    · have := V.2.2.2.2.2 b hb
      unfold Lt.bindRight at this
      rw [Bool.and_eq_true] at this
      exact Name_plain this.1
    · have := V.2.2.2.2.2 b hb
      unfold Lt.bindRight at this
      rw [Bool.and_eq_true] at this
      exact wordPut_plain (argRight_word this.2)
  · have V := virt_ok (I.ob o ho)
    refine ln_laid (by simp [Lt.virtW]) (fun w hw => ?_)
    simp only [Lt.virtW, List.mem_append, List.mem_cons, List.not_mem_nil, or_false] at hw
    rcases hw with (rfl | rfl) | hw
    · decide
    · exact Name_plain V.1
    · exact puts_plain V.2.2 _ hw

theorem endW_laid {t : Lt.Term} (h : Lt.showEnd t = true) : laidOk (Lt.ln (Lt.endW t)) := by
  unfold Lt.showEnd at h
  rw [Bool.and_eq_true, List.all_eq_true] at h
  obtain ⟨h1, h2⟩ := h
  refine ln_laid ?_ (fun w hw => ?_)
  · simp only [Lt.endW]
    repeat' split
    all_goals simp
  · simp only [Lt.endW] at hw
    split at hw
    · rename_i hc
      rw [if_pos hc] at h2
      simp only [Bool.and_eq_true, decide_eq_true_eq] at h2
      simp only [List.mem_cons, List.not_mem_nil, or_false] at hw
      rcases hw with rfl | rfl
      · decide
      · exact Name_plain (h1 _ (mem_getD _ (by omega)))
    · rename_i hc
      rw [if_neg hc] at h2
      split at hw
      · rename_i hc
        rw [if_pos hc] at h2
        simp only [Bool.and_eq_true, decide_eq_true_eq] at h2
        simp only [List.mem_cons, List.not_mem_nil, or_false] at hw
        rcases hw with rfl | rfl | rfl | rfl
        · decide
        · exact wordPut_plain (argRight_word h2.1.1)
        · exact Name_plain (h1 _ (mem_getD _ (by omega)))
        · exact Name_plain (h1 _ (mem_getD _ (by omega)))
      · rename_i hc
        rw [if_neg hc] at h2
        split at hw
        · rename_i hc
          rw [if_pos hc] at h2
          simp only [Bool.and_eq_true, decide_eq_true_eq] at h2
          simp only [List.mem_cons, List.not_mem_nil, or_false] at hw
          rcases hw with rfl | rfl
          · decide
          · exact wordPut_plain (argRight_word h2.1.1)
        · simp only [List.mem_cons, List.not_mem_nil, or_false] at hw
          rcases hw with rfl | rfl
          · decide
          · exact numPut_plain _

theorem blockL_laid {b : Lt.Block} (h : Lt.block b = true) : ∀ x ∈ Lt.blockL b, laidOk x := by
  have B := block_ok h
  intro x hx
  simp only [Lt.blockL, List.mem_append, List.mem_singleton, List.mem_map, List.mem_flatMap] at hx
  rcases hx with ((rfl | ⟨y, hy, rfl⟩) | ⟨i, hi, hx⟩) | rfl
  · refine ln_laid (by simp) (fun w hw => ?_)
    simp only [List.mem_cons, List.not_mem_nil, or_false] at hw
    rcases hw with rfl | rfl
    · decide
    · exact Name_plain B.1
  · have P := phi_ok (B.2.2.1 y hy)
    refine ln_laid (by simp [Lt.phiW]) (fun w hw => ?_)
    simp only [Lt.phiW, List.mem_append, List.mem_cons, List.not_mem_nil, or_false, List.mem_flatMap] at hw
    rcases hw with (rfl | rfl) | ⟨b', hb, rfl | rfl⟩
    · decide
    · exact Name_plain P.1
    · have := P.2.2.2 b' hb
      unfold Lt.inRight at this
      rw [Bool.and_eq_true] at this
      exact Name_plain this.1
    · have := P.2.2.2 b' hb
      unfold Lt.inRight at this
      rw [Bool.and_eq_true] at this
      exact wordPut_plain (argRight_word this.2)
  · exact codeL_laid (B.2.2.2 i hi) x hx
  · exact endW_laid B.2.1

theorem funcL_laid {f : Lt.Func} (h : Lt.showFunction f = true) : ∀ x ∈ Lt.funcL f, laidOk x := by
  have F := func_ok h
  intro x hx
  simp only [Lt.funcL, List.mem_append, List.mem_singleton, List.mem_flatMap] at hx
  rcases hx with ((rfl | hx) | hx) | ⟨b, hb, hx⟩
  · refine ln_laid (by simp) (fun w hw => ?_)
    simp only [List.mem_cons, List.not_mem_nil, or_false] at hw
    rcases hw with rfl | rfl | rfl
    · decide
    · exact Name_plain F.name
    · exact kind_plain F.res
  · exact varsL_laid _ (by decide) F.params x hx
  · exact varsL_laid _ (by decide) F.vars x hx
  · exact blockL_laid (F.bl b hb) x hx

theorem progL_laid {p : Lt.Program} (h : Lt.showRight p = true) : ∀ x ∈ Lt.progL p, laidOk x := by
  have P := prog_ok h
  intro x hx
  simp only [Lt.progL, List.mem_append, List.mem_flatMap, List.mem_map] at hx
  rcases hx with (((hx | ⟨c, hc, hx⟩) | hx) | ⟨e, he, rfl⟩) | ⟨f, hf, hx⟩
  · split at hx
    · simp only [List.mem_singleton] at hx
      subst hx
      refine ln_laid (by simp) (fun w hw => ?_)
      simp only [List.mem_singleton] at hw
      subst hw
      decide
    · cases hx
  · have C := P.cl c hc
    unfold Lt.classRight at C
    rw [Bool.and_eq_true] at C
    simp only [Lt.classL, List.mem_append, List.mem_singleton] at hx
    rcases hx with rfl | hx
    · refine ln_laid (by simp) (fun w hw => ?_)
      simp only [List.mem_cons, List.not_mem_nil, or_false] at hw
      rcases hw with rfl | rfl
      · decide
      · exact Name_plain C.1
    · exact varsL_laid _ (by decide) C.2 x hx
  · exact varsL_laid _ (by decide) P.glob x hx
  · have E := P.ex e he
    unfold Lt.externRight at E
    simp only [Bool.and_eq_true, decide_eq_true_eq] at E
    refine ln_laid (by simp) (fun w hw => ?_)
    simp only [List.mem_cons, List.not_mem_nil, or_false] at hw
    rcases hw with rfl | rfl | rfl
    · decide
    · exact Name_plain E.1.1
    · exact numPut_plain _
  · exact funcL_laid (P.fn f hf) x hx

/-! instructions -/

/-- behind a word that is a name or a sign's, '=' stands where something is set -/
theorem words_rest {i : Lt.Instr} (I : InstrOk i) : ∃ r, (if i.Op = 26 ∨ i.Op = 27 then (Lt.puts i.Args).getD 0 default :: i.Name :: (Lt.puts i.Args).drop 1 else (if (Lt.Of i.Op).1.Named then [i.Name] else []) ++ Lt.puts i.Args) = r ∧ ∀ w s, r = w :: s → w ≠ [61] := by
  refine ⟨_, rfl, fun w s e => ?_⟩
  have hp : ∀ w ∈ Lt.puts i.Args, w ≠ [61] := by
    intro w hw
    obtain ⟨a, ha, rfl⟩ := List.mem_map.1 hw
    exact wordPut_ne (showArgs_word I.aok a ha)
  split at e
  · rename_i hc
    have h1 := I.least hc
    simp only [List.cons.injEq] at e
    rw [← e.1]
    exact hp _ (mem_getD _ (by rw [puts_len]; omega))
  · split at e
    · rename_i hn
      simp only [List.cons_append, List.nil_append, List.cons.injEq] at e
      rw [← e.1]
      exact Name_ne (I.nmN hn)
    · simp only [List.nil_append] at e
      exact hp w (by rw [e]; simp)

theorem words_inj {i j : Lt.Instr} (I : InstrOk i) (J : InstrOk j) (oi : Lt.argsOk i.Args) (oj : Lt.argsOk j.Args) (h : Lt.words i = Lt.words j) : i.Op = j.Op ∧ i.Dst = j.Dst ∧ i.Name = j.Name ∧ i.Args = j.Args := by
  obtain ⟨ri, ei, hi⟩ := words_rest I
  obtain ⟨rj, ej, hj⟩ := words_rest J
  have wi : Lt.words i = (if (Lt.Of i.Op).1.Dst then [i.Dst, [61]] else []) ++ [(Lt.Of i.Op).1.Word] ++ ri := by rw [← ei]; rfl
  have wj : Lt.words j = (if (Lt.Of j.Op).1.Dst then [j.Dst, [61]] else []) ++ [(Lt.Of j.Op).1.Word] ++ rj := by rw [← ej]; rfl
  rw [wi, wj] at h
  have hd : (Lt.Of i.Op).1.Word = (Lt.Of j.Op).1.Word ∧ ri = rj ∧ i.Dst = j.Dst := by
    cases di : (Lt.Of i.Op).1.Dst <;> cases dj : (Lt.Of j.Op).1.Dst
    · rw [di, dj] at h
      simp only [Bool.false_eq_true, if_false, List.nil_append, List.cons_append, List.cons.injEq] at h
      have e1 := I.dst; have e2 := J.dst
      rw [di] at e1; rw [dj] at e2
      simp only [Bool.false_eq, Bool.not_eq_false', decide_eq_true_eq] at e1 e2
      exact ⟨h.1, h.2, by rw [e1, e2]⟩
    · rw [di, dj] at h
      simp only [Bool.false_eq_true, if_false, if_true, List.nil_append, List.cons_append, List.cons.injEq] at h
      exact absurd rfl (hi _ _ h.2)
    · rw [di, dj] at h
      simp only [Bool.false_eq_true, if_false, if_true, List.nil_append, List.cons_append, List.cons.injEq] at h
      exact absurd rfl (hj _ _ h.2.symm)
    · rw [di, dj] at h
      simp only [if_true, List.cons_append, List.nil_append, List.cons.injEq, true_and] at h
      exact ⟨h.2.1, h.2.2, h.1⟩
  obtain ⟨hw, hr, hD⟩ := hd
  have hop := Of_inj I.of J.of hw
  rw [← ei, ← ej, ← hop] at hr
  by_cases hc : i.Op = 26 ∨ i.Op = 27
  · rw [if_pos hc, if_pos hc] at hr
    simp only [List.cons.injEq] at hr
    obtain ⟨h0, hN, h1⟩ := hr
    have li := I.least hc
    have lj := J.least (by rw [← hop]; exact hc)
    have hp : Lt.puts i.Args = Lt.puts j.Args := by
      have k1 := puts_len i.Args; have k2 := puts_len j.Args
      cases pi : Lt.puts i.Args with
      | nil => rw [pi] at k1; simp at k1; omega
      | cons a l =>
        cases pj : Lt.puts j.Args with
        | nil => rw [pj] at k2; simp at k2; omega
        | cons b k =>
          rw [pi, pj] at h0 h1
          simp only [List.getD_cons_zero, List.drop_succ_cons, List.drop_zero] at h0 h1
          rw [h0, h1]
    exact ⟨hop, hD, hN, puts_inj I.aok J.aok oi oj hp⟩
  · rw [if_neg hc, if_neg hc] at hr
    cases hn : (Lt.Of i.Op).1.Named
    · rw [hn] at hr
      simp only [Bool.false_eq_true, if_false, List.nil_append] at hr
      have e1 := I.nm; have e2 := J.nm
      rw [← hop] at e2
      rw [hn] at e1 e2
      simp only [Bool.false_eq, Bool.not_eq_false', decide_eq_true_eq] at e1 e2
      exact ⟨hop, hD, by rw [e1, e2], puts_inj I.aok J.aok oi oj hr⟩
    · rw [hn] at hr
      simp only [if_true, List.cons_append, List.nil_append, List.cons.injEq] at hr
      exact ⟨hop, hD, hr.1, puts_inj I.aok J.aok oi oj hr.2⟩
end Go.Am
end

section
namespace Go.Am
open Go
set_option linter.unusedVariables false
set_option linter.unusedSimpArgs false

abbrev k_ssa : List UInt8 := [115, 115, 97]
abbrev k_class : List UInt8 := [99, 108, 97, 115, 115]
abbrev k_field : List UInt8 := [102, 105, 101, 108, 100]
abbrev k_global : List UInt8 := [103, 108, 111, 98, 97, 108]
abbrev k_extern : List UInt8 := [101, 120, 116, 101, 114, 110]
abbrev k_func : List UInt8 := [102, 117, 110, 99]
abbrev k_param : List UInt8 := [112, 97, 114, 97, 109]
abbrev k_var : List UInt8 := [118, 97, 114]
abbrev k_block : List UInt8 := [98, 108, 111, 99, 107]
abbrev k_phi : List UInt8 := [112, 104, 105]
abbrev k_at : List UInt8 := [97, 116]
abbrev k_obj : List UInt8 := [111, 98, 106]
abbrev k_jump : List UInt8 := [106, 117, 109, 112]
abbrev k_branch : List UInt8 := [98, 114, 97, 110, 99, 104]
abbrev k_ret : List UInt8 := [114, 101, 116]
abbrev k_trap : List UInt8 := [116, 114, 97, 112]
def kw : List (List UInt8) := [k_ssa, k_class, k_field, k_global, k_extern, k_func, k_param, k_var, k_block, k_phi, k_at, k_obj, k_jump, k_branch, k_ret, k_trap]

/-- by what a line is told -/
def tag (x : Lt.Line) : List UInt8 :=
  match x.Words with
  | a :: b :: _ => if b = [61] then [61] else a
  | [a] => a
  | [] => []

theorem tag_two {k w : List UInt8} {r : List (List UInt8)} (h : w ≠ [61]) : tag (Lt.ln (k :: w :: r)) = k := by
  simp only [tag, Lt.ln, if_neg h]

theorem opTab_kw : ∀ n : Fin 35, 0 < n.val → opTab.getD n.val [] ∉ kw := by decide +kernel

theorem ln_inj {a b : List (List UInt8)} (h : Lt.ln a = Lt.ln b) : a = b := by
  simp only [Lt.ln, Lt.Line.mk.injEq, true_and] at h
  exact h

theorem tag_words {i : Lt.Instr} (I : InstrOk i) : tag (Lt.ln (Lt.words i)) ∉ kw := by
  obtain ⟨r, e, h⟩ := words_rest I
  have w : Lt.words i = (if (Lt.Of i.Op).1.Dst then [i.Dst, [61]] else []) ++ [(Lt.Of i.Op).1.Word] ++ r := by rw [← e]; rfl
  rw [w]
  cases (Lt.Of i.Op).1.Dst
  · obtain ⟨n, h0, _, hw⟩ := Of_word I.of
    have := opTab_kw n h0
    rw [← hw] at this
    cases r with
    | nil => exact this
    | cons a t =>
      have ha := h a t rfl
      simp only [Bool.false_eq_true, if_false, List.nil_append, List.cons_append]
      rw [tag_two ha]
      exact this
  · simp only [if_true, List.cons_append, List.nil_append]
    have : tag (Lt.ln (i.Dst :: [61] :: (Lt.Of i.Op).1.Word :: r)) = [61] := by simp [tag, Lt.ln]
    rw [this]
    decide

theorem span_inj {P : Lt.Line → Prop} : ∀ {a b r s : List Lt.Line}, (∀ x ∈ a, P x) → (∀ x ∈ b, P x) → (∀ x t, r = x :: t → ¬ P x) → (∀ x t, s = x :: t → ¬ P x) → a ++ r = b ++ s → a = b ∧ r = s
  | [], [], _, _, _, _, _, _, h => ⟨rfl, by simpa using h⟩
  | [], y :: b, r, s, _, hb, hr, _, h => absurd (hb y (by simp)) (hr y _ (by simpa using h))
  | x :: a, [], r, s, ha, _, _, hs, h => absurd (ha x (by simp)) (hs x _ (by simpa using h.symm))
  | x :: a, y :: b, r, s, ha, hb, hr, hs, h => by
    simp only [List.cons_append, List.cons.injEq] at h
    obtain ⟨e1, e2⟩ := span_inj (fun z hz => ha z (List.mem_cons_of_mem _ hz)) (fun z hz => hb z (List.mem_cons_of_mem _ hz)) hr hs h.2
    exact ⟨by rw [h.1, e1], e2⟩

theorem not_head {P : Lt.Line → Prop} {r : List Lt.Line} (h : ∀ x ∈ r, ¬ P x) : ∀ x t, r = x :: t → ¬ P x := fun x t e => h x (by rw [e]; simp)

theorem flat_head {α : Type} {f : α → List Lt.Line} {H : Lt.Line → Prop} {l : List α} (hl : ∀ a ∈ l, ∃ h t, f a = h :: t ∧ H h ∧ ∀ x ∈ t, ¬ H x) : ∀ x t, l.flatMap f = x :: t → ¬ ¬ H x := by
  intro x t e
  cases l with
  | nil => simp at e
  | cons a l =>
    obtain ⟨h, u, e1, e2, _⟩ := hl a (by simp)
    rw [List.flatMap_cons, e1] at e
    simp only [List.cons_append, List.cons.injEq] at e
    rw [← e.1]
    exact fun hn => hn e2

theorem flat_inj {α : Type} {f : α → List Lt.Line} {H : Lt.Line → Prop} : ∀ {l k : List α}, (∀ a ∈ l, ∃ h t, f a = h :: t ∧ H h ∧ ∀ x ∈ t, ¬ H x) → (∀ a ∈ k, ∃ h t, f a = h :: t ∧ H h ∧ ∀ x ∈ t, ¬ H x) →
    (∀ a ∈ l, ∀ b ∈ k, f a = f b → a = b) → l.flatMap f = k.flatMap f → l = k
  | [], [], _, _, _, _ => rfl
  | [], b :: k, _, hk, _, h => by
    obtain ⟨x, t, e, _⟩ := hk b (by simp)
    rw [List.flatMap_cons, e] at h
    simp at h
  | a :: l, [], hl, _, _, h => by
    obtain ⟨x, t, e, _⟩ := hl a (by simp)
    rw [List.flatMap_cons, e] at h
    simp at h
  | a :: l, b :: k, hl, hk, hi, h => by
    obtain ⟨x, t, e1, _, e3⟩ := hl a (by simp)
    obtain ⟨y, u, f1, _, f3⟩ := hk b (by simp)
    rw [List.flatMap_cons, List.flatMap_cons, e1, f1] at h
    simp only [List.cons_append, List.cons.injEq] at h
    obtain ⟨g1, g2⟩ := span_inj (P := fun z => ¬ H z) e3 f3 (flat_head (fun z hz => hl z (List.mem_cons_of_mem _ hz))) (flat_head (fun z hz => hk z (List.mem_cons_of_mem _ hz))) h.2
    have hab : f a = f b := by rw [e1, f1, h.1, g1]
    rw [hi a (by simp) b (by simp) hab, flat_inj (fun z hz => hl z (List.mem_cons_of_mem _ hz)) (fun z hz => hk z (List.mem_cons_of_mem _ hz)) (fun z hz w hw => hi z (List.mem_cons_of_mem _ hz) w (List.mem_cons_of_mem _ hw)) g2]

/-! what lines are told by -/

theorem tag_vars {k : List UInt8} {l : List Lt.Var} {n : Int} (h : Lt.typed l n = true) : ∀ x ∈ Lt.varsL k l, tag x = k := by
  intro x hx
  obtain ⟨v, hv, rfl⟩ := List.mem_map.1 hx
  unfold Lt.typed at h
  simp only [Bool.and_eq_true, List.all_eq_true] at h
  exact tag_two (Name_ne (h.2 v hv).1)

theorem vars_inj {k : List UInt8} {l l' : List Lt.Var} (h : Lt.varsL k l = Lt.varsL k l') : l = l' :=
  map_inj (fun a _ b _ e => by
    have := ln_inj e
    simp only [List.cons.injEq, true_and, and_true] at this
    obtain ⟨a1, a2⟩ := a; obtain ⟨b1, b2⟩ := b
    dsimp only at this
    rw [this.1, this.2]) h

theorem tag_frame {f : Lt.Frame} (h : Lt.frame f = true) : tag (Lt.ln (Lt.frameW f)) = k_at := tag_two (Name_ne (frame_ok h).1)
theorem tag_virt {o : Lt.Virt} (h : Lt.virt o = true) : tag (Lt.ln (Lt.virtW o)) = k_obj := tag_two (Name_ne (virt_ok h).1)
theorem tag_phi {x : Lt.Phi} (h : Lt.phi x = true) : tag (Lt.ln (Lt.phiW x)) = k_phi := tag_two (Name_ne (phi_ok h).1)

theorem end_parts {t : Lt.Term} (h : Lt.showEnd t = true) :
    (∃ w, t = ⟨1, ⟨0, [], 0⟩, [w], 0⟩ ∧ Lt.Name w = true ∧ Lt.endW t = [k_jump, w]) ∨
    (∃ a w v, t = ⟨2, a, [w, v], 0⟩ ∧ Lt.wordRight a = true ∧ Lt.endW t = [k_branch, Lt.wordPut a, w, v]) ∨
    (∃ a, t = ⟨3, a, [], 0⟩ ∧ Lt.wordRight a = true ∧ Lt.endW t = [k_ret, Lt.wordPut a]) ∨
    (∃ n, t = ⟨4, ⟨0, [], 0⟩, [], n⟩ ∧ Lt.endW t = [k_trap, Lt.numPut n]) := by
  obtain ⟨k, a, to, n⟩ := t
  unfold Lt.showEnd at h
  rw [Bool.and_eq_true, List.all_eq_true] at h
  obtain ⟨h1, h⟩ := h
  dsimp only at h1 h
  split at h
  · rename_i hk
    subst hk
    simp only [Bool.and_eq_true, decide_eq_true_eq, Lt.noArg] at h
    obtain ⟨⟨rfl, hl⟩, rfl⟩ := h
    match to, hl with
    | [w], _ => exact .inl ⟨w, rfl, h1 w (by simp), rfl⟩
  · split at h
    · rename_i hk
      subst hk
      simp only [Bool.and_eq_true, decide_eq_true_eq] at h
      obtain ⟨⟨ha, hl⟩, rfl⟩ := h
      match to, hl with
      | [w, v], _ => exact .inr (.inl ⟨a, w, v, rfl, argRight_word ha, rfl⟩)
    · split at h
      · rename_i hk
        subst hk
        simp only [Bool.and_eq_true, decide_eq_true_eq] at h
        obtain ⟨⟨ha, hl⟩, rfl⟩ := h
        obtain rfl := List.eq_nil_of_length_eq_zero hl
        exact .inr (.inr (.inl ⟨a, rfl, argRight_word ha, rfl⟩))
      · split at h
        · rename_i hk
          subst hk
          simp only [Bool.and_eq_true, decide_eq_true_eq, Lt.noArg] at h
          obtain ⟨rfl, hl⟩ := h
          obtain rfl := List.eq_nil_of_length_eq_zero hl
          exact .inr (.inr (.inr ⟨n, rfl, rfl⟩))
        · cases h

theorem tag_end {t : Lt.Term} (h : Lt.showEnd t = true) : tag (Lt.ln (Lt.endW t)) ∈ [k_jump, k_branch, k_ret, k_trap] := by
  rcases end_parts h with ⟨w, _, hw, e⟩ | ⟨a, w, v, _, ha, e⟩ | ⟨a, _, ha, e⟩ | ⟨n, _, e⟩
  · rw [e, tag_two (Name_ne hw)]; decide
  · rw [e, tag_two (wordPut_ne ha)]; decide
  · rw [e, tag_two (wordPut_ne ha)]; decide
  · rw [e, tag_two (numPut_ne n)]; decide

theorem end_inj {t u : Lt.Term} (ht : Lt.showEnd t = true) (hu : Lt.showEnd u = true) (ot : t.ok) (ou : u.ok) (h : Lt.endW t = Lt.endW u) : t = u := by
  rcases end_parts ht with ⟨w, et, _, e⟩ | ⟨a, w, v, et, ha, e⟩ | ⟨a, et, ha, e⟩ | ⟨n, et, e⟩ <;>
  rcases end_parts hu with ⟨w', eu, _, f⟩ | ⟨a', w', v', eu, ha', f⟩ | ⟨a', eu, ha', f⟩ | ⟨n', eu, f⟩ <;> rw [e, f] at h
  · simp only [List.cons.injEq, true_and, and_true] at h
    rw [et, eu, h]
  · simp at h
  · simp at h
  · simp at h
  · simp at h
  · simp only [List.cons.injEq, true_and, and_true] at h
    subst et; subst eu
    rw [wordPut_inj ha ha' ot.1 ou.1 h.1, h.2.1, h.2.2]
  · simp at h
  · simp at h
  · simp at h
  · simp at h
  · simp only [List.cons.injEq, true_and, and_true] at h
    subst et; subst eu
    rw [wordPut_inj ha ha' ot.1 ou.1 h]
  · simp at h
  · simp at h
  · simp at h
  · simp at h
  · simp only [List.cons.injEq, true_and, and_true] at h
    rw [et, eu, numPut_inj h]

/-! instructions with their frames and objects -/

theorem bind_parts {b : Lt.Bind} (h : Lt.bindRight b = true) : Lt.Name b.Name = true ∧ Lt.wordRight b.A = true := by
  unfold Lt.bindRight at h
  rw [Bool.and_eq_true] at h
  exact ⟨h.1, argRight_word h.2⟩
theorem in_parts {b : Lt.In} (h : Lt.inRight b = true) : Lt.Name b.Block = true ∧ Lt.wordRight b.A = true := by
  unfold Lt.inRight at h
  rw [Bool.and_eq_true] at h
  exact ⟨h.1, argRight_word h.2⟩

theorem frame_inj {f g : Lt.Frame} (hf : Lt.frame f = true) (hg : Lt.frame g = true) (of' : f.ok) (og : g.ok) (h : Lt.frameW f = Lt.frameW g) : f = g := by
  have F := frame_ok hf; have G := frame_ok hg
  obtain ⟨f1, f2, f3, f4⟩ := f; obtain ⟨g1, g2, g3, g4⟩ := g
  simp only [Lt.frameW, List.cons_append, List.nil_append, List.cons.injEq, true_and] at h
  obtain ⟨e1, e2, e3, e4⟩ := h
  have := pairs_inj (fun a ha b hb n w => by
    obtain ⟨a1, a2⟩ := a; obtain ⟨b1, b2⟩ := b
    have w2 := wordPut_inj (bind_parts (F.2.2.2.2.2 _ ha)).2 (bind_parts (G.2.2.2.2.2 _ hb)).2 (of'.2 _ ha) (og.2 _ hb) w
    dsimp only at n w2
    rw [n, w2]) e4
  rw [e1, e2, numPut_inj e3, this]

theorem virt_inj {f g : Lt.Virt} (hf : Lt.virt f = true) (hg : Lt.virt g = true) (of' : f.ok) (og : g.ok) (h : Lt.virtW f = Lt.virtW g) : f = g := by
  have F := virt_ok hf; have G := virt_ok hg
  obtain ⟨f1, f2⟩ := f; obtain ⟨g1, g2⟩ := g
  simp only [Lt.virtW, List.cons_append, List.nil_append, List.cons.injEq, true_and] at h
  have e2 := puts_inj F.2.2 G.2.2 of' og h.2
  dsimp only at e2
  rw [h.1, e2]

theorem phi_inj {f g : Lt.Phi} (hf : Lt.phi f = true) (hg : Lt.phi g = true) (of' : f.ok) (og : g.ok) (h : Lt.phiW f = Lt.phiW g) : f = g := by
  have F := phi_ok hf; have G := phi_ok hg
  obtain ⟨f1, f2⟩ := f; obtain ⟨g1, g2⟩ := g
  simp only [Lt.phiW, List.cons_append, List.nil_append, List.cons.injEq, true_and] at h
  have := pairs_inj (fun a ha b hb n w => by
    obtain ⟨a1, a2⟩ := a; obtain ⟨b1, b2⟩ := b
    have w2 := wordPut_inj (in_parts (F.2.2.2 _ ha)).2 (in_parts (G.2.2.2 _ hb)).2 (of'.2 _ ha) (og.2 _ hb) w
    dsimp only at n w2
    rw [n, w2]) h.2
  rw [h.1, this]

theorem code_head {i : Lt.Instr} (h : Lt.instr i = true) : ∃ x t, Lt.codeL i = x :: t ∧ tag x ∉ kw ∧ ∀ y ∈ t, tag y = k_at ∨ tag y = k_obj := by
  have I := instr_ok h
  refine ⟨_, _, rfl, tag_words I, fun y hy => ?_⟩
  rcases List.mem_append.1 hy with hy | hy
  · obtain ⟨f, hf, rfl⟩ := List.mem_map.1 hy
    exact .inl (tag_frame (I.fr f hf))
  · obtain ⟨o, ho, rfl⟩ := List.mem_map.1 hy
    exact .inr (tag_virt (I.ob o ho))

theorem code_inj {i j : Lt.Instr} (hi : Lt.instr i = true) (hj : Lt.instr j = true) (oi : i.ok) (oj : j.ok) (h : Lt.codeL i = Lt.codeL j) : i = j := by
  have I := instr_ok hi; have J := instr_ok hj
  simp only [Lt.codeL, List.cons_append, List.nil_append, List.cons.injEq] at h
  obtain ⟨e1, e2, e3, e4⟩ := words_inj I J oi.1 oj.1 (ln_inj h.1)
  obtain ⟨g1, g2⟩ := span_inj (P := fun x => tag x = k_at)
    (fun x hx => by obtain ⟨f, hf, rfl⟩ := List.mem_map.1 hx; exact tag_frame (I.fr f hf))
    (fun x hx => by obtain ⟨f, hf, rfl⟩ := List.mem_map.1 hx; exact tag_frame (J.fr f hf))
    (not_head (fun x hx => by obtain ⟨o, ho, rfl⟩ := List.mem_map.1 hx; rw [tag_virt (I.ob o ho)]; decide))
    (not_head (fun x hx => by obtain ⟨o, ho, rfl⟩ := List.mem_map.1 hx; rw [tag_virt (J.ob o ho)]; decide)) h.2
  have e5 := map_inj (fun a ha b hb e => frame_inj (I.fr a ha) (J.fr b hb) (oi.2.1 a ha) (oj.2.1 b hb) (ln_inj e)) g1
  have e6 := map_inj (fun a ha b hb e => virt_inj (I.ob a ha) (J.ob b hb) (oi.2.2 a ha) (oj.2.2 b hb) (ln_inj e)) g2
  obtain ⟨i1, i2, i3, i4, i5, i6⟩ := i; obtain ⟨j1, j2, j3, j4, j5, j6⟩ := j
  dsimp only at e1 e2 e3 e4 e5 e6
  rw [e1, e2, e3, e4, e5, e6]

/-! blocks -/

theorem code_tags {l : List Lt.Instr} (h : ∀ i ∈ l, Lt.instr i = true) : ∀ x ∈ l.flatMap Lt.codeL, tag x ∉ kw ∨ tag x = k_at ∨ tag x = k_obj := by
  intro x hx
  obtain ⟨i, hi, hx⟩ := List.mem_flatMap.1 hx
  obtain ⟨y, t, e, h1, h2⟩ := code_head (h i hi)
  rw [e] at hx
  rcases List.mem_cons.1 hx with rfl | hx
  · exact .inl h1
  · exact .inr (h2 x hx)

def bodyTags : List (List UInt8) := [k_param, k_var, k_block, k_phi, k_at, k_obj, k_jump, k_branch, k_ret, k_trap]

theorem block_head {b : Lt.Block} (h : Lt.block b = true) : ∃ x t, Lt.blockL b = x :: t ∧ tag x = k_block ∧ ∀ y ∈ t, tag y ∉ kw ∨ tag y ∈ [k_phi, k_at, k_obj, k_jump, k_branch, k_ret, k_trap] := by
  have B := block_ok h
  refine ⟨Lt.ln [k_block, b.Name], (b.Phis.map fun x => Lt.ln (Lt.phiW x)) ++ b.Code.flatMap Lt.codeL ++ [Lt.ln (Lt.endW b.End)], rfl, tag_two (Name_ne B.1), fun y hy => ?_⟩
  simp only [List.mem_append, List.mem_singleton, List.mem_map] at hy
  rcases hy with (⟨p, hp, rfl⟩ | hy) | rfl
  · rw [tag_phi (B.2.2.1 p hp)]; exact .inr (by decide)
  · rcases code_tags B.2.2.2 y hy with h | h | h
    · exact .inl h
    · rw [h]; exact .inr (by decide)
    · rw [h]; exact .inr (by decide)
  · refine .inr ?_
    have := tag_end B.2.1
    simp only [List.mem_cons, List.not_mem_nil, or_false] at this ⊢
    rcases this with h | h | h | h <;> simp [h]

theorem block_inj {a b : Lt.Block} (ha : Lt.block a = true) (hb : Lt.block b = true) (oa : a.ok) (ob : b.ok) (h : Lt.blockL a = Lt.blockL b) : a = b := by
  have A := block_ok ha; have B := block_ok hb
  simp only [Lt.blockL, List.cons_append, List.nil_append, List.cons.injEq] at h
  obtain ⟨h1, h2⟩ := h
  obtain ⟨h3, h4⟩ := List.append_inj' h2 rfl
  simp only [List.cons.injEq, and_true] at h4
  have eE := end_inj A.2.1 B.2.1 oa.2.2 ob.2.2 (ln_inj h4)
  have kphi : ∀ x, tag x ∉ kw ∨ tag x = k_at ∨ tag x = k_obj → ¬ tag x = k_phi := by
    intro x hx e
    rw [e] at hx
    revert hx
    decide
  obtain ⟨g1, g2⟩ := span_inj (P := fun x => tag x = k_phi)
    (fun x hx => by obtain ⟨f, hf, rfl⟩ := List.mem_map.1 hx; exact tag_phi (A.2.2.1 f hf))
    (fun x hx => by obtain ⟨f, hf, rfl⟩ := List.mem_map.1 hx; exact tag_phi (B.2.2.1 f hf))
    (not_head (fun x hx => kphi x (code_tags A.2.2.2 x hx)))
    (not_head (fun x hx => kphi x (code_tags B.2.2.2 x hx))) h3
  have eP := map_inj (fun x hx y hy e => phi_inj (A.2.2.1 x hx) (B.2.2.1 y hy) (oa.1 x hx) (ob.1 y hy) (ln_inj e)) g1
  have hH : ∀ i, Lt.instr i = true → ∃ x t, Lt.codeL i = x :: t ∧ tag x ∉ kw ∧ ∀ y ∈ t, ¬ tag y ∉ kw := by
    intro i hi
    obtain ⟨x, t, e, e1, e2⟩ := code_head hi
    refine ⟨x, t, e, e1, fun y hy hn => hn ?_⟩
    rcases e2 y hy with e | e <;> rw [e] <;> decide
  have eC := flat_inj (H := fun x => tag x ∉ kw) (fun i hi => hH i (A.2.2.2 i hi)) (fun i hi => hH i (B.2.2.2 i hi)) (fun i hi j hj e => code_inj (A.2.2.2 i hi) (B.2.2.2 j hj) (oa.2.1 i hi) (ob.2.1 j hj) e) g2
  have eN := ln_inj h1
  simp only [List.cons.injEq, true_and, and_true] at eN
  obtain ⟨a1, a2, a3, a4⟩ := a; obtain ⟨b1, b2, b3, b4⟩ := b
  dsimp only at eN eE eP eC
  rw [eN, eE, eP, eC]

/-! functions -/

theorem blocks_tags {l : List Lt.Block} (h : ∀ b ∈ l, Lt.block b = true) : ∀ x ∈ l.flatMap Lt.blockL, tag x ∉ kw ∨ tag x ∈ [k_block, k_phi, k_at, k_obj, k_jump, k_branch, k_ret, k_trap] := by
  intro x hx
  obtain ⟨b, hb, hx⟩ := List.mem_flatMap.1 hx
  obtain ⟨y, t, e, h1, h2⟩ := block_head (h b hb)
  rw [e] at hx
  rcases List.mem_cons.1 hx with rfl | hx
  · rw [h1]; exact .inr (by decide)
  · rcases h2 x hx with h | h
    · exact .inl h
    · exact .inr (List.mem_cons_of_mem _ h)

theorem func_head {f : Lt.Func} (h : Lt.showFunction f = true) : ∃ x t, Lt.funcL f = x :: t ∧ tag x = k_func ∧ ∀ y ∈ t, tag y ∉ kw ∨ tag y ∈ bodyTags := by
  have F := func_ok h
  refine ⟨Lt.ln [k_func, f.Name, f.Result], Lt.varsL k_param f.Params ++ Lt.varsL k_var f.Vars ++ f.Blocks.flatMap Lt.blockL, rfl, tag_two (Name_ne F.name), fun y hy => ?_⟩
  simp only [List.mem_append] at hy
  rcases hy with (hy | hy) | hy
  · rw [tag_vars F.params y hy]; exact .inr (by decide)
  · rw [tag_vars F.vars y hy]; exact .inr (by decide)
  · rcases blocks_tags F.bl y hy with h | h
    · exact .inl h
    · exact .inr (List.mem_cons_of_mem _ (List.mem_cons_of_mem _ h))

theorem func_inj {a b : Lt.Func} (ha : Lt.showFunction a = true) (hb : Lt.showFunction b = true) (oa : a.ok) (ob : b.ok) (h : Lt.funcL a = Lt.funcL b) : a = b := by
  have A := func_ok ha; have B := func_ok hb
  simp only [Lt.funcL, List.cons_append, List.nil_append, List.append_assoc, List.cons.injEq] at h
  obtain ⟨h1, h2⟩ := h
  have kv : ∀ (f : Lt.Func), FuncOk f → ∀ x ∈ f.Blocks.flatMap Lt.blockL, ¬ tag x = k_var := by
    intro f F x hx e
    have := blocks_tags F.bl x hx
    rw [e] at this
    revert this
    decide
  have kp : ∀ (f : Lt.Func), FuncOk f → ∀ x ∈ Lt.varsL k_var f.Vars ++ f.Blocks.flatMap Lt.blockL, ¬ tag x = k_param := by
    intro f F x hx e
    rcases List.mem_append.1 hx with hx | hx
    · have := tag_vars F.vars x hx
      rw [e] at this
      revert this
      decide
    · have := blocks_tags F.bl x hx
      rw [e] at this
      revert this
      decide
  obtain ⟨g1, g2⟩ := span_inj (P := fun x => tag x = k_param) (tag_vars A.params) (tag_vars B.params) (not_head (kp a A)) (not_head (kp b B)) h2
  obtain ⟨g3, g4⟩ := span_inj (P := fun x => tag x = k_var) (tag_vars A.vars) (tag_vars B.vars) (not_head (kv a A)) (not_head (kv b B)) g2
  have hH : ∀ c, Lt.block c = true → ∃ x t, Lt.blockL c = x :: t ∧ tag x = k_block ∧ ∀ y ∈ t, ¬ tag y = k_block := by
    intro c hc
    obtain ⟨x, t, e, e1, e2⟩ := block_head hc
    refine ⟨x, t, e, e1, fun y hy hn => ?_⟩
    have := e2 y hy
    rw [hn] at this
    revert this
    decide
  have eB := flat_inj (H := fun x => tag x = k_block) (fun i hi => hH i (A.bl i hi)) (fun i hi => hH i (B.bl i hi)) (fun i hi j hj e => block_inj (A.bl i hi) (B.bl j hj) (oa i hi) (ob j hj) e) g4
  have eN := ln_inj h1
  simp only [List.cons.injEq, true_and, and_true] at eN
  have eP := vars_inj g1; have eV := vars_inj g3
  obtain ⟨a1, a2, a3, a4, a5⟩ := a; obtain ⟨b1, b2, b3, b4, b5⟩ := b
  dsimp only at eN eP eV eB
  rw [eN.1, eN.2, eP, eV, eB]

/-! programs -/

theorem class_head {c : Lt.Class} (h : Lt.classRight c = true) : ∃ x t, Lt.classL c = x :: t ∧ tag x = k_class ∧ ∀ y ∈ t, tag y = k_field := by
  unfold Lt.classRight at h
  rw [Bool.and_eq_true] at h
  exact ⟨_, _, rfl, tag_two (Name_ne h.1), tag_vars h.2⟩

theorem class_inj {a b : Lt.Class} (h : Lt.classL a = Lt.classL b) : a = b := by
  simp only [Lt.classL, List.cons_append, List.nil_append, List.cons.injEq] at h
  have e1 := ln_inj h.1
  simp only [List.cons.injEq, true_and, and_true] at e1
  have e2 := vars_inj h.2
  obtain ⟨a1, a2⟩ := a; obtain ⟨b1, b2⟩ := b
  dsimp only at e1 e2
  rw [e1, e2]

theorem extern_inj {a b : Lt.Extern} (h : Lt.externL a = Lt.externL b) : a = b := by
  have e1 := ln_inj h
  simp only [List.cons.injEq, true_and, and_true] at e1
  obtain ⟨a1, a2⟩ := a; obtain ⟨b1, b2⟩ := b
  dsimp only at e1
  rw [e1.1, numPut_inj e1.2]

theorem tag_extern {x : Lt.Extern} (h : Lt.externRight x = true) : tag (Lt.externL x) = k_extern := by
  unfold Lt.externRight at h
  simp only [Bool.and_eq_true] at h
  exact tag_two (Name_ne h.1.1)

theorem classes_tags {l : List Lt.Class} (h : ∀ c ∈ l, Lt.classRight c = true) : ∀ x ∈ l.flatMap Lt.classL, tag x ∈ [k_class, k_field] := by
  intro x hx
  obtain ⟨c, hc, hx⟩ := List.mem_flatMap.1 hx
  obtain ⟨y, t, e, h1, h2⟩ := class_head (h c hc)
  rw [e] at hx
  rcases List.mem_cons.1 hx with rfl | hx
  · rw [h1]; decide
  · rw [h2 x hx]; decide

theorem funcs_tags {l : List Lt.Func} (h : ∀ f ∈ l, Lt.showFunction f = true) : ∀ x ∈ l.flatMap Lt.funcL, tag x ∉ kw ∨ tag x ∈ k_func :: bodyTags := by
  intro x hx
  obtain ⟨c, hc, hx⟩ := List.mem_flatMap.1 hx
  obtain ⟨y, t, e, h1, h2⟩ := func_head (h c hc)
  rw [e] at hx
  rcases List.mem_cons.1 hx with rfl | hx
  · rw [h1]; exact .inr (by decide)
  · rcases h2 x hx with h | h
    · exact .inl h
    · exact .inr (List.mem_cons_of_mem _ h)

theorem prog_inj {p q : Lt.Program} (hp : Lt.showRight p = true) (hq : Lt.showRight q = true) (op : p.ok) (oq : q.ok) (h : Lt.progL p = Lt.progL q) : p = q := by
  have A := prog_ok hp; have B := prog_ok hq
  simp only [Lt.progL, List.append_assoc] at h
  have k4 : ∀ (p : Lt.Program), ProgOk p → ∀ x ∈ p.Funcs.flatMap Lt.funcL, tag x ∉ [k_ssa, k_class, k_field, k_global, k_extern] := by
    intro p P x hx e
    have := funcs_tags P.fn x hx
    simp only [List.mem_cons, List.not_mem_nil, or_false] at e
    rcases e with e | e | e | e | e <;> rw [e] at this <;> revert this <;> decide
  have k3 : ∀ (p : Lt.Program), ProgOk p → ∀ x ∈ p.Externs.map Lt.externL ++ p.Funcs.flatMap Lt.funcL, tag x ∉ [k_ssa, k_class, k_field, k_global] := by
    intro p P x hx
    rcases List.mem_append.1 hx with hx | hx
    · obtain ⟨e, he, rfl⟩ := List.mem_map.1 hx
      rw [tag_extern (P.ex e he)]; decide
    · exact fun e => k4 p P x hx (by simp only [List.mem_cons, List.not_mem_nil, or_false] at e ⊢; rcases e with e | e | e | e <;> simp [e])
  have k2 : ∀ (p : Lt.Program), ProgOk p → ∀ x ∈ Lt.varsL k_global p.Globals ++ (p.Externs.map Lt.externL ++ p.Funcs.flatMap Lt.funcL), tag x ∉ [k_ssa, k_class, k_field] := by
    intro p P x hx
    rcases List.mem_append.1 hx with hx | hx
    · rw [tag_vars P.glob x hx]; decide
    · exact fun e => k3 p P x hx (by simp only [List.mem_cons, List.not_mem_nil, or_false] at e ⊢; rcases e with e | e | e <;> simp [e])
  have k1 : ∀ (p : Lt.Program), ProgOk p → ∀ x ∈ p.Classes.flatMap Lt.classL ++ (Lt.varsL k_global p.Globals ++ (p.Externs.map Lt.externL ++ p.Funcs.flatMap Lt.funcL)), ¬ tag x = k_ssa := by
    intro p P x hx e
    rcases List.mem_append.1 hx with hx | hx
    · have := classes_tags P.cl x hx
      rw [e] at this
      revert this
      decide
    · exact k2 p P x hx (by rw [e]; decide)
  have s0 : ∀ (p : Lt.Program), ∀ x ∈ (if p.SSA = true then [Lt.ln [[115, 115, 97]]] else []), tag x = k_ssa := by
    intro p x hx
    split at hx
    · simp only [List.mem_singleton] at hx; rw [hx]; decide
    · cases hx
  obtain ⟨g1, g2⟩ := span_inj (P := fun x => tag x = k_ssa) (s0 p) (s0 q) (not_head (k1 p A)) (not_head (k1 q B)) h
  obtain ⟨g3, g4⟩ := span_inj (P := fun x => tag x ∈ [k_class, k_field]) (classes_tags A.cl) (classes_tags B.cl)
    (not_head (fun x hx e => k2 p A x hx (List.mem_cons_of_mem _ e))) (not_head (fun x hx e => k2 q B x hx (List.mem_cons_of_mem _ e))) g2
  obtain ⟨g5, g6⟩ := span_inj (P := fun x => tag x = k_global) (tag_vars A.glob) (tag_vars B.glob)
    (not_head (fun x hx e => k3 p A x hx (by rw [e]; decide))) (not_head (fun x hx e => k3 q B x hx (by rw [e]; decide))) g4
  obtain ⟨g7, g8⟩ := span_inj (P := fun x => tag x = k_extern)
    (fun x hx => by obtain ⟨e, he, rfl⟩ := List.mem_map.1 hx; exact tag_extern (A.ex e he))
    (fun x hx => by obtain ⟨e, he, rfl⟩ := List.mem_map.1 hx; exact tag_extern (B.ex e he))
    (not_head (fun x hx e => k4 p A x hx (by rw [e]; decide))) (not_head (fun x hx e => k4 q B x hx (by rw [e]; decide))) g6
  have eC := flat_inj (H := fun x => tag x = k_class)
    (fun c hc => by obtain ⟨x, t, e, e1, e2⟩ := class_head (A.cl c hc); exact ⟨x, t, e, e1, fun y hy => by rw [e2 y hy]; decide⟩)
    (fun c hc => by obtain ⟨x, t, e, e1, e2⟩ := class_head (B.cl c hc); exact ⟨x, t, e, e1, fun y hy => by rw [e2 y hy]; decide⟩)
    (fun a _ b _ e => class_inj e) g3
  have eG := vars_inj g5
  have eE := map_inj (fun a _ b _ e => extern_inj e) g7
  have hH : ∀ c, Lt.showFunction c = true → ∃ x t, Lt.funcL c = x :: t ∧ tag x = k_func ∧ ∀ y ∈ t, ¬ tag y = k_func := by
    intro c hc
    obtain ⟨x, t, e, e1, e2⟩ := func_head hc
    refine ⟨x, t, e, e1, fun y hy hn => ?_⟩
    have := e2 y hy
    rw [hn] at this
    revert this
    decide
  have eF := flat_inj (H := fun x => tag x = k_func) (fun i hi => hH i (A.fn i hi)) (fun i hi => hH i (B.fn i hi)) (fun i hi j hj e => func_inj (A.fn i hi) (B.fn j hj) (op i hi) (oq j hj) e) g8
  have eS : p.SSA = q.SSA := by
    cases hs : p.SSA <;> cases ht : q.SSA <;> rw [hs, ht] at g1
    · simp at g1
    · simp at g1
  obtain ⟨p1, p2, p3, p4, p5⟩ := p; obtain ⟨q1, q2, q3, q4, q5⟩ := q
  dsimp only at eS eC eG eE eF
  rw [eS, eC, eG, eE, eF]

theorem law_ShowUnlike (p q : Lt.Program) (hp : Lt.preUnlike p q) (KK : Bool → Prop) (h : KK (Lt.ShowUnlike p q)) : F_ShowUnlike p q KK := by
  obtain ⟨op, oq⟩ := hp
  unfold F_ShowUnlike
  have hm : (20000 : Int) ≤ 4611686018427387904 := by decide
  refine ⟨fun _ => ⟨op, hm⟩, fun _ => ⟨oq, hm⟩, ?_⟩
  split
  · exact h
  · refine ⟨op, oq, ?_⟩
    have e : (((!decide ((Lt.showText p).2 = 0)) || (!decide ((Lt.showText q).2 = 0))) || ((decide ((Lt.showText p).1 = (Lt.showText q).1)) == (Lt.Same p q))) = true := by
      unfold Lt.showText
      cases rp : Lt.showRight p
      · simp
      · cases rq : Lt.showRight q
        · simp
        · simp only [if_true]
          by_cases lp : (Lt.joinB (Lt.progL p)).length ≤ 4194304
          · by_cases lq : (Lt.joinB (Lt.progL q)).length ≤ 4194304
            · rw [if_pos lp, if_pos lq]
              simp only [decide_true, Bool.not_true, Bool.or_false, Bool.false_or, Lt.Same]
              by_cases hpq : p = q
              · subst hpq; simp
              · have : ¬ Lt.joinB (Lt.progL p) = Lt.joinB (Lt.progL q) := fun e => hpq (prog_inj rp rq op oq (joinB_inj (progL_laid rp) (progL_laid rq) e))
                simp [hpq, this]
            · rw [if_neg lq]; simp
          · rw [if_neg lp]; simp
    rw [e]
    exact h
end Go.Am
end
