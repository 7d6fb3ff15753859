/-
  Part 14: AmK_4 · AmReadT · AmK_Spoilt.
-/
import Derived.Test.YtembkmhdijoppaaSp13
set_option linter.unusedSimpArgs false
set_option linter.unusedVariables false
set_option linter.unusedSectionVars false
set_option linter.unnecessarySimpa false
section
namespace Go.Am
open Go.Proofs
set_option linter.unusedSimpArgs false
set_option linter.unusedVariables false
set_option maxRecDepth 100000 in
set_option maxHeartbeats 4000000 in
theorem walk_sameBlock (g : G) (hg : g.nt = Try.f36.ntmps) (a0_a : Lt.Block) (a1_b : Lt.Block) (K : AV → Prop) (KK : (Bool) → Prop) (hKK : ∀ r, KK r → K (o1 cB r) ) (h : F_sameBlock a0_a a1_b KK) :
    AW Try.prog g (Try.f36.body.getD .skip) (retQ Try.prog [.tmp 4] K) ⟨entryT 0 [.one ((cA Lt.Block.rw).enc a0_a), .one ((cA Lt.Block.rw).enc a1_b)], []⟩ := by
  have hcs : CT.Ok Try.prog [(47, C_SameInstr)] := (CT.cons c_SameInstr CT.ok0)
  have hn : g.nt = 177 := hg
  have hm : Try.prog.follows .mixedOrders = true := by kernel_rfl
  unfold Try.f36
  dsimp only [Option.getD_some]
  unfold F_sameBlock at h
  apply AW_seq_k
  intro K1 hK1
  have hx := True.intro
  refine rgA [2, 3] [] ?_
  iterate 3 refine stA ?_
  refine enA ?_
  refine hK1 _ ?_
  apply AW_seq_k
  intro K2 hK2
  apply AW_seq_k
  intro K3 hK3
  have hx := True.intro
  refine rgV [2, 3] [] 69 (.one (.c (.d (.bool (((((((!decide (a0_a.Name = a1_b.Name)) || (!decide ((a0_a.Phis.length : Int) = (a1_b.Phis.length : Int)))) || (!decide ((a0_a.Code.length : Int) = (a1_b.Code.length : Int)))) || (!decide (a0_a.End.Kind = a1_b.End.Kind))) || (!(decide (a0_a.End.A.Kind = a1_b.End.A.Kind) && (decide (a0_a.End.A.S = a1_b.End.A.S) && decide (a0_a.End.A.N = a1_b.End.A.N))))) || (!decide (a0_a.End.N = a1_b.End.N))) || (!decide ((a0_a.End.To.length : Int) = (a1_b.End.To.length : Int)))))))) ?_ ?_
  · clear h
    iterate 6 refine stA ?_
    cases hb : (decide (a0_a.Name = a1_b.Name))
    · have hx := And.intro hb hx
      iterate 55 refine stA ?_
      exact lfA
    · have hx := And.intro hb hx
      iterate 9 refine stA ?_
      cases hb : (decide ((a0_a.Phis.length : Int) = (a1_b.Phis.length : Int)))
      · have hx := And.intro hb hx
        iterate 46 refine stA ?_
        exact lfA
      · have hx := And.intro hb hx
        iterate 9 refine stA ?_
        cases hb : (decide ((a0_a.Code.length : Int) = (a1_b.Code.length : Int)))
        · have hx := And.intro hb hx
          iterate 37 refine stA ?_
          exact lfA
        · have hx := And.intro hb hx
          iterate 9 refine stA ?_
          cases hb : (decide (a0_a.End.Kind = a1_b.End.Kind))
          · have hx := And.intro hb hx
            iterate 28 refine stA ?_
            exact lfA
          · have hx := And.intro hb hx
            iterate 9 refine stA ?_
            cases hb : (decide (a0_a.End.A.Kind = a1_b.End.A.Kind))
            · have hx := And.intro hb hx
              iterate 19 refine stA ?_
              exact lfA
            · have hx := And.intro hb hx
              cases hb : (decide (a0_a.End.A.S = a1_b.End.A.S))
              · have hx := And.intro hb hx
                iterate 19 refine stA ?_
                exact lfA
              · have hx := And.intro hb hx
                cases hb : (decide (a0_a.End.A.N = a1_b.End.A.N))
                · have hx := And.intro hb hx
                  iterate 19 refine stA ?_
                  exact lfA
                · have hx := And.intro hb hx
                  iterate 9 refine stA ?_
                  cases hb : (decide (a0_a.End.N = a1_b.End.N))
                  · have hx := And.intro hb hx
                    iterate 10 refine stA ?_
                    exact lfA
                  · have hx := And.intro hb hx
                    iterate 10 refine stA ?_
                    exact lfA
  · refine hK3 _ ?_
    refine cdA h rfl (fun h => ?_) (fun h => ?_)
    · apply AW_seq_k
      intro K4 hK4
      have hx := True.intro
      refine rgA [4] [.loc 3, .loc 2] ?_
      refine stA ?_
      refine enA ?_
      refine hK4 _ ?_
      apply AW_ret
      exact fiA (hKK _ h)
    · apply AW_skip
      refine hK2 _ ?_
      refine AW_joinO [] [2, 3] [] (fun y : Unit => ⟨[(2, .one (.c (.pl ⟨.loc 2, 0, []⟩))), (3, .one (.c (.pl ⟨.loc 3, 0, []⟩)))], [(.loc 3, ⟨true, [.d (.str a1_b.Name), .d (.li (a1_b.Phis.map Lt.Phi.enc)), .d (.li (a1_b.Code.map Lt.Instr.enc)), .d (.int .i64 a1_b.End.Kind), .d (.int .i64 a1_b.End.A.Kind), .d (.str a1_b.End.A.S), .d (.int .i64 a1_b.End.A.N), .d (.li (a1_b.End.To.map rS.enc)), .d (.int .i64 a1_b.End.N)]⟩), (.loc 2, ⟨true, [.d (.str a0_a.Name), .d (.li (a0_a.Phis.map Lt.Phi.enc)), .d (.li (a0_a.Code.map Lt.Instr.enc)), .d (.int .i64 a0_a.End.Kind), .d (.int .i64 a0_a.End.A.Kind), .d (.str a0_a.End.A.S), .d (.int .i64 a0_a.End.A.N), .d (.li (a0_a.End.To.map rS.enc)), .d (.int .i64 a0_a.End.N)]⟩)]⟩) (fun y => F_sameBlock_j1 a0_a a1_b KK) ?_ ?_
      · apply AW_seq_k
        intro K33 hK33
        have hx := True.intro
        refine rgA [2, 3, 5] [] ?_
        refine stA ?_
        refine enA ?_
        refine hK33 _ ?_
        apply AW_block_k
        intro Q34 hN34 hE34 hO34
        obtain ⟨n35, h⟩ := h
        refine AW_loopO [] [2, 3, 5] [] (fun y : Nat × Int => ⟨[(2, .one (.c (.pl ⟨.loc 2, 0, []⟩))), (3, .one (.c (.pl ⟨.loc 3, 0, []⟩))), (5, .one (.c (.d (.int .i64 y.2))))], [(.loc 3, ⟨true, [.d (.str a1_b.Name), .d (.li (a1_b.Phis.map Lt.Phi.enc)), .d (.li (a1_b.Code.map Lt.Instr.enc)), .d (.int .i64 a1_b.End.Kind), .d (.int .i64 a1_b.End.A.Kind), .d (.str a1_b.End.A.S), .d (.int .i64 a1_b.End.A.N), .d (.li (a1_b.End.To.map rS.enc)), .d (.int .i64 a1_b.End.N)]⟩), (.loc 2, ⟨true, [.d (.str a0_a.Name), .d (.li (a0_a.Phis.map Lt.Phi.enc)), .d (.li (a0_a.Code.map Lt.Instr.enc)), .d (.int .i64 a0_a.End.Kind), .d (.int .i64 a0_a.End.A.Kind), .d (.str a0_a.End.A.S), .d (.int .i64 a0_a.End.A.N), .d (.li (a0_a.End.To.map rS.enc)), .d (.int .i64 a0_a.End.N)]⟩)]⟩) (fun y => F_sameBlock_l8 a0_a a1_b KK y.1 y.2) (fun y => y.1) (n35, 0) ?_ h ?_
        · exact siA
        clear h
        rintro ⟨n35, x4⟩ h K35 hK35
        cases n35 with
        | zero => exact h.elim
        | succ n35 =>
          change F_sameBlock_l8 a0_a a1_b KK (n35 + 1) x4 at h
          unfold F_sameBlock_l8 at h
          apply AW_seq_k
          intro K36 hK36
          apply AW_seq_k
          intro K37 hK37
          have hx := True.intro
          refine rgA [2, 3, 5, 75] [] ?_
          iterate 4 refine stA ?_
          refine stG fun hp => ?_
          refine stA ?_
          refine enA ?_
          have h := h (by assumption)
          refine hK37 _ ?_
          refine cdA h rfl (fun h => ?_) (fun h => ?_)
          · apply AW_skip
            refine hK36 _ ?_
            apply AW_seq_k
            intro K38 hK38
            apply AW_block_k
            intro Q39 hN39 hE39 hO39
            apply AW_seq_k
            intro K40 hK40
            obtain ⟨ho1, ho2, h⟩ := h
            have hx := True.intro
            have hx := getA rS.enc ho1 hx
            have hx := getA rS.enc ho2 hx
            refine dgA [2, 3, 5, 90] [] (.take 0 [] true (.take 1 [] true (.take 2 [4, 5, 12] false (.take 3 [] true (.take 4 [] true (.take 5 [] true (.take 6 [] true (.take 7 [] true (.take 8 [10, 11, 12] false (.take 9 [] true (.take 10 [] true (.take 11 [] true (.take 12 [] true (.done)))))))))))))) ?_
            iterate 13 refine dtA ?_
            refine deA ?_
            refine hK40 _ ?_
            refine cdA h rfl (fun h => ?_) (fun h => ?_)
            · apply AW_seq_k
              intro K41 hK41
              have hx := True.intro
              refine rgA [4] [.loc 3, .loc 2] ?_
              refine stA ?_
              refine enA ?_
              refine hK41 _ ?_
              apply AW_ret
              refine hO39 _ _ (by simp) ?_
              refine hO34 _ _ (by simp) ?_
              exact fiA (hKK _ h)
            · apply AW_skip
              refine hN39 _ ?_
              refine hK38 _ ?_
              have hx := True.intro
              refine rgA [2, 3, 5] [] ?_
              iterate 3 refine stA ?_
              refine enA ?_
              exact hK35 _ (n35, (IntKind.i64.wrap (x4 + 1))) siA h (Nat.lt_succ_self _)
          · apply AW_exit
            refine hE34 _ ?_
            exact ⟨(), siA, h⟩
      · rintro _ h
        change F_sameBlock_j1 a0_a a1_b KK at h
        unfold F_sameBlock_j1 at h
        refine AW_joinO [] [2, 3] [] (fun y : Unit => ⟨[(2, .one (.c (.pl ⟨.loc 2, 0, []⟩))), (3, .one (.c (.pl ⟨.loc 3, 0, []⟩)))], [(.loc 3, ⟨true, [.d (.str a1_b.Name), .d (.li (a1_b.Phis.map Lt.Phi.enc)), .d (.li (a1_b.Code.map Lt.Instr.enc)), .d (.int .i64 a1_b.End.Kind), .d (.int .i64 a1_b.End.A.Kind), .d (.str a1_b.End.A.S), .d (.int .i64 a1_b.End.A.N), .d (.li (a1_b.End.To.map rS.enc)), .d (.int .i64 a1_b.End.N)]⟩), (.loc 2, ⟨true, [.d (.str a0_a.Name), .d (.li (a0_a.Phis.map Lt.Phi.enc)), .d (.li (a0_a.Code.map Lt.Instr.enc)), .d (.int .i64 a0_a.End.Kind), .d (.int .i64 a0_a.End.A.Kind), .d (.str a0_a.End.A.S), .d (.int .i64 a0_a.End.A.N), .d (.li (a0_a.End.To.map rS.enc)), .d (.int .i64 a0_a.End.N)]⟩)]⟩) (fun y => F_sameBlock_j2 a0_a a1_b KK) ?_ ?_
        · apply AW_seq_k
          intro K15 hK15
          have hx := True.intro
          refine rgA [2, 3, 6] [] ?_
          refine stA ?_
          refine enA ?_
          refine hK15 _ ?_
          apply AW_block_k
          intro Q16 hN16 hE16 hO16
          obtain ⟨n17, h⟩ := h
          refine AW_loopO [] [2, 3, 6] [] (fun y : Nat × Int => ⟨[(2, .one (.c (.pl ⟨.loc 2, 0, []⟩))), (3, .one (.c (.pl ⟨.loc 3, 0, []⟩))), (6, .one (.c (.d (.int .i64 y.2))))], [(.loc 3, ⟨true, [.d (.str a1_b.Name), .d (.li (a1_b.Phis.map Lt.Phi.enc)), .d (.li (a1_b.Code.map Lt.Instr.enc)), .d (.int .i64 a1_b.End.Kind), .d (.int .i64 a1_b.End.A.Kind), .d (.str a1_b.End.A.S), .d (.int .i64 a1_b.End.A.N), .d (.li (a1_b.End.To.map rS.enc)), .d (.int .i64 a1_b.End.N)]⟩), (.loc 2, ⟨true, [.d (.str a0_a.Name), .d (.li (a0_a.Phis.map Lt.Phi.enc)), .d (.li (a0_a.Code.map Lt.Instr.enc)), .d (.int .i64 a0_a.End.Kind), .d (.int .i64 a0_a.End.A.Kind), .d (.str a0_a.End.A.S), .d (.int .i64 a0_a.End.A.N), .d (.li (a0_a.End.To.map rS.enc)), .d (.int .i64 a0_a.End.N)]⟩)]⟩) (fun y => F_sameBlock_l5 a0_a a1_b KK y.1 y.2) (fun y => y.1) (n17, 0) ?_ h ?_
          · exact siA
          clear h
          rintro ⟨n17, x2⟩ h K17 hK17
          cases n17 with
          | zero => exact h.elim
          | succ n17 =>
            change F_sameBlock_l5 a0_a a1_b KK (n17 + 1) x2 at h
            unfold F_sameBlock_l5 at h
            apply AW_seq_k
            intro K18 hK18
            apply AW_seq_k
            intro K19 hK19
            have hx := True.intro
            refine rgA [2, 3, 6, 95] [] ?_
            iterate 3 refine stA ?_
            refine stG fun hp => ?_
            refine stA ?_
            refine enA ?_
            have h := h (by assumption)
            refine hK19 _ ?_
            refine cdA h rfl (fun h => ?_) (fun h => ?_)
            · apply AW_skip
              refine hK18 _ ?_
              refine AW_joinO [] [2, 3, 6] [] (fun y : Unit => ⟨[(2, .one (.c (.pl ⟨.loc 2, 0, []⟩))), (3, .one (.c (.pl ⟨.loc 3, 0, []⟩))), (6, .one (.c (.d (.int .i64 x2))))], [(.loc 3, ⟨true, [.d (.str a1_b.Name), .d (.li (a1_b.Phis.map Lt.Phi.enc)), .d (.li (a1_b.Code.map Lt.Instr.enc)), .d (.int .i64 a1_b.End.Kind), .d (.int .i64 a1_b.End.A.Kind), .d (.str a1_b.End.A.S), .d (.int .i64 a1_b.End.A.N), .d (.li (a1_b.End.To.map rS.enc)), .d (.int .i64 a1_b.End.N)]⟩), (.loc 2, ⟨true, [.d (.str a0_a.Name), .d (.li (a0_a.Phis.map Lt.Phi.enc)), .d (.li (a0_a.Code.map Lt.Instr.enc)), .d (.int .i64 a0_a.End.Kind), .d (.int .i64 a0_a.End.A.Kind), .d (.str a0_a.End.A.S), .d (.int .i64 a0_a.End.A.N), .d (.li (a0_a.End.To.map rS.enc)), .d (.int .i64 a0_a.End.N)]⟩)]⟩) (fun y => F_sameBlock_j6 x2 (fun y1 => F_sameBlock_l5 a0_a a1_b KK n17 y1) KK) ?_ ?_
              · apply AW_block_k
                intro Q20 hN20 hE20 hO20
                apply AW_seq_k
                intro K21 hK21
                apply AW_seq_k
                intro K22 hK22
                obtain ⟨ho1, ho2, ho3, ho4, h⟩ := h
                have hx := True.intro
                have hx := getA Lt.Phi.enc ho1 hx
                have hx := getA Lt.Phi.enc ho2 hx
                refine dgV [2, 3, 6] [] 127 (.one (.c (.d (.bool ((!decide ((a0_a.Phis.getD x2.toNat default).Dst = (a1_b.Phis.getD x2.toNat default).Dst)) || (!decide ((((a0_a.Phis.getD x2.toNat default).Ins).length : Int) = (((a1_b.Phis.getD x2.toNat default).Ins).length : Int)))))))) (.take 0 [] true (.take 1 [3, 4, 5, 12, 13, 14, 15, 16, 17, 18, 19, 20, 21, 22, 23, 24, 25, 26, 27, 28, 29] false (.take 2 [] true (.take 3 [] true (.take 4 [] true (.take 5 [] true (.take 6 [] true (.take 7 [9, 10, 11, 12, 13, 14, 15, 16, 17, 18, 19, 20, 21, 22, 23, 24, 25, 26, 27, 28, 29] false (.take 8 [] true (.take 9 [] true (.take 10 [] true (.take 11 [] true (.take 12 [] true (.take 13 [] true (.take 14 [] true (.take 15 [17, 18, 19, 20, 28, 29] false (.take 16 [] true (.take 17 [] true (.take 18 [] true (.take 19 [] true (.take 20 [] true (.take 21 [] true (.take 22 [24, 25, 26, 27, 28, 29] false (.take 23 [] true (.take 24 [] true (.take 25 [] true (.take 26 [] true (.take 27 [] true (.take 28 [] true (.take 29 [] true (.done))))))))))))))))))))))))))))))) ?_ ?_
                · clear h
                  cases hb : (decide ((a0_a.Phis.getD x2.toNat default).Dst = (a1_b.Phis.getD x2.toNat default).Dst))
                  · have hx := And.intro hb hx
                    iterate 30 refine dtA ?_
                    exact dlA
                  · have hx := And.intro hb hx
                    have ho3 := ho3 (by simp only [push_cast, hx])
                    have hx := getA Lt.Phi.enc ho3 hx
                    have ho4 := ho4 (by simp only [push_cast, hx])
                    have hx := getA Lt.Phi.enc ho4 hx
                    iterate 30 refine dtA ?_
                    exact dlA
                · refine hK22 _ ?_
                  refine cdA h rfl (fun h => ?_) (fun h => ?_)
                  · apply AW_seq_k
                    intro K23 hK23
                    have hx := True.intro
                    refine rgA [4] [.loc 3, .loc 2] ?_
                    refine stA ?_
                    refine enA ?_
                    refine hK23 _ ?_
                    apply AW_ret
                    refine hO20 _ _ (by simp) ?_
                    refine hO16 _ _ (by simp) ?_
                    exact fiA (hKK _ h)
                  · apply AW_skip
                    refine hK21 _ ?_
                    apply AW_seq_k
                    intro K24 hK24
                    have hx := True.intro
                    refine rgA [2, 3, 6, 7] [] ?_
                    refine stA ?_
                    refine enA ?_
                    refine hK24 _ ?_
                    apply AW_block_k
                    intro Q25 hN25 hE25 hO25
                    obtain ⟨n26, h⟩ := h
                    refine AW_loopO [] [2, 3, 6, 7] [] (fun y : Nat × Int => ⟨[(2, .one (.c (.pl ⟨.loc 2, 0, []⟩))), (3, .one (.c (.pl ⟨.loc 3, 0, []⟩))), (6, .one (.c (.d (.int .i64 x2)))), (7, .one (.c (.d (.int .i64 y.2))))], [(.loc 3, ⟨true, [.d (.str a1_b.Name), .d (.li (a1_b.Phis.map Lt.Phi.enc)), .d (.li (a1_b.Code.map Lt.Instr.enc)), .d (.int .i64 a1_b.End.Kind), .d (.int .i64 a1_b.End.A.Kind), .d (.str a1_b.End.A.S), .d (.int .i64 a1_b.End.A.N), .d (.li (a1_b.End.To.map rS.enc)), .d (.int .i64 a1_b.End.N)]⟩), (.loc 2, ⟨true, [.d (.str a0_a.Name), .d (.li (a0_a.Phis.map Lt.Phi.enc)), .d (.li (a0_a.Code.map Lt.Instr.enc)), .d (.int .i64 a0_a.End.Kind), .d (.int .i64 a0_a.End.A.Kind), .d (.str a0_a.End.A.S), .d (.int .i64 a0_a.End.A.N), .d (.li (a0_a.End.To.map rS.enc)), .d (.int .i64 a0_a.End.N)]⟩)]⟩) (fun y => F_sameBlock_l7 a0_a a1_b x2 (fun y1 => F_sameBlock_l5 a0_a a1_b KK n17 y1) KK y.1 y.2) (fun y => y.1) (n26, 0) ?_ h ?_
                    · exact siA
                    clear h
                    rintro ⟨n26, x3⟩ h K26 hK26
                    cases n26 with
                    | zero => exact h.elim
                    | succ n26 =>
                      change F_sameBlock_l7 a0_a a1_b x2 (fun y1 => F_sameBlock_l5 a0_a a1_b KK n17 y1) KK (n26 + 1) x3 at h
                      unfold F_sameBlock_l7 at h
                      apply AW_seq_k
                      intro K27 hK27
                      apply AW_seq_k
                      intro K28 hK28
                      obtain ⟨ho1, h⟩ := h
                      have hx := True.intro
                      have hx := getA Lt.Phi.enc ho1 hx
                      refine rgA [2, 3, 6, 7, 136] [] ?_
                      iterate 7 refine stA ?_
                      refine stG fun hp => ?_
                      refine stA ?_
                      refine enA ?_
                      have h := h (by assumption)
                      refine hK28 _ ?_
                      refine cdA h rfl (fun h => ?_) (fun h => ?_)
                      · apply AW_skip
                        refine hK27 _ ?_
                        apply AW_seq_k
                        intro K29 hK29
                        apply AW_block_k
                        intro Q30 hN30 hE30 hO30
                        apply AW_seq_k
                        intro K31 hK31
                        obtain ⟨ho1, ho2, ho3, ho4, h⟩ := h
                        have hx := True.intro
                        have hx := getA Lt.Phi.enc ho1 hx
                        have hx := getA Lt.In.enc ho2 hx
                        have hx := getA Lt.Phi.enc ho3 hx
                        have hx := getA Lt.In.enc ho4 hx
                        refine dgA [2, 3, 6, 7, 157] [] (.take 0 [] true (.take 1 [3, 4, 5, 7, 8, 18] false (.take 2 [] true (.take 3 [] true (.take 4 [] true (.take 5 [] true (.take 6 [] true (.take 7 [] true (.take 8 [] true (.take 9 [] true (.take 10 [12, 13, 14, 16, 17, 18] false (.take 11 [] true (.take 12 [] true (.take 13 [] true (.take 14 [] true (.take 15 [] true (.take 16 [] true (.take 17 [] true (.take 18 [] true (.done)))))))))))))))))))) ?_
                        iterate 19 refine dtA ?_
                        refine deA ?_
                        refine hK31 _ ?_
                        refine cdA h rfl (fun h => ?_) (fun h => ?_)
                        · apply AW_seq_k
                          intro K32 hK32
                          have hx := True.intro
                          refine rgA [4] [.loc 3, .loc 2] ?_
                          refine stA ?_
                          refine enA ?_
                          refine hK32 _ ?_
                          apply AW_ret
                          refine hO30 _ _ (by simp) ?_
                          refine hO25 _ _ (by simp) ?_
                          refine hO20 _ _ (by simp) ?_
                          refine hO16 _ _ (by simp) ?_
                          exact fiA (hKK _ h)
                        · apply AW_skip
                          refine hN30 _ ?_
                          refine hK29 _ ?_
                          have hx := True.intro
                          refine rgA [2, 3, 6, 7] [] ?_
                          iterate 3 refine stA ?_
                          refine enA ?_
                          exact hK26 _ (n26, (IntKind.i64.wrap (x3 + 1))) siA h (Nat.lt_succ_self _)
                      · apply AW_exit
                        refine hE25 _ ?_
                        refine hN20 _ ?_
                        exact ⟨(), siA, h⟩
              · rintro _ h
                change F_sameBlock_j6 x2 (fun y1 => F_sameBlock_l5 a0_a a1_b KK n17 y1) KK at h
                unfold F_sameBlock_j6 at h
                have hx := True.intro
                refine rgA [2, 3, 6] [] ?_
                iterate 3 refine stA ?_
                refine enA ?_
                exact hK17 _ (n17, (IntKind.i64.wrap (x2 + 1))) siA h (Nat.lt_succ_self _)
            · apply AW_exit
              refine hE16 _ ?_
              exact ⟨(), siA, h⟩
        · rintro _ h
          change F_sameBlock_j2 a0_a a1_b KK at h
          unfold F_sameBlock_j2 at h
          refine AW_joinO [] [] [.loc 3, .loc 2] (fun y : Unit => ⟨[], []⟩) (fun y => F_sameBlock_j3 KK) ?_ ?_
          · apply AW_seq_k
            intro K6 hK6
            have hx := True.intro
            refine rgA [2, 3, 8] [] ?_
            refine stA ?_
            refine enA ?_
            refine hK6 _ ?_
            apply AW_block_k
            intro Q7 hN7 hE7 hO7
            obtain ⟨n8, h⟩ := h
            refine AW_loopO [] [2, 3, 8] [] (fun y : Nat × Int => ⟨[(2, .one (.c (.pl ⟨.loc 2, 0, []⟩))), (3, .one (.c (.pl ⟨.loc 3, 0, []⟩))), (8, .one (.c (.d (.int .i64 y.2))))], [(.loc 3, ⟨true, [.d (.str a1_b.Name), .d (.li (a1_b.Phis.map Lt.Phi.enc)), .d (.li (a1_b.Code.map Lt.Instr.enc)), .d (.int .i64 a1_b.End.Kind), .d (.int .i64 a1_b.End.A.Kind), .d (.str a1_b.End.A.S), .d (.int .i64 a1_b.End.A.N), .d (.li (a1_b.End.To.map rS.enc)), .d (.int .i64 a1_b.End.N)]⟩), (.loc 2, ⟨true, [.d (.str a0_a.Name), .d (.li (a0_a.Phis.map Lt.Phi.enc)), .d (.li (a0_a.Code.map Lt.Instr.enc)), .d (.int .i64 a0_a.End.Kind), .d (.int .i64 a0_a.End.A.Kind), .d (.str a0_a.End.A.S), .d (.int .i64 a0_a.End.A.N), .d (.li (a0_a.End.To.map rS.enc)), .d (.int .i64 a0_a.End.N)]⟩)]⟩) (fun y => F_sameBlock_l4 a0_a a1_b KK y.1 y.2) (fun y => y.1) (n8, 0) ?_ h ?_
            · exact siA
            clear h
            rintro ⟨n8, x1⟩ h K8 hK8
            cases n8 with
            | zero => exact h.elim
            | succ n8 =>
              change F_sameBlock_l4 a0_a a1_b KK (n8 + 1) x1 at h
              unfold F_sameBlock_l4 at h
              apply AW_seq_k
              intro K9 hK9
              apply AW_seq_k
              intro K10 hK10
              have hx := True.intro
              refine rgA [2, 3, 8, 162] [] ?_
              iterate 3 refine stA ?_
              refine stG fun hp => ?_
              refine stA ?_
              refine enA ?_
              have h := h (by assumption)
              refine hK10 _ ?_
              refine cdA h rfl (fun h => ?_) (fun h => ?_)
              · apply AW_skip
                refine hK9 _ ?_
                apply AW_seq_k
                intro K11 hK11
                apply AW_block_k
                intro Q12 hN12 hE12 hO12
                apply AW_seq_k
                intro K13 hK13
                obtain ⟨ho1, ho2, h⟩ := h
                have hx := True.intro
                have hx := getA Lt.Instr.enc ho1 hx
                have hx := getA Lt.Instr.enc ho2 hx
                refine dgA [2, 3, 8, 176] [] (.take 0 [] true (.take 1 [3, 4, 10, 11] false (.take 2 [] true (.take 3 [] true (.take 4 [] true (.take 5 [] true (.take 6 [8, 9, 10, 11] false (.take 7 [] true (.take 8 [] true (.take 9 [] true (.one 10 (.take 11 [] true (.done))))))))))))) ?_
                iterate 10 refine dtA ?_
                refine doA ?_
                refine dtA ?_
                refine deA ?_
                refine hK13 _ ?_
                refine cdA h rfl (fun h => ?_) (fun h => ?_)
                · apply AW_seq_k
                  intro K14 hK14
                  have hx := True.intro
                  refine rgA [4] [.loc 3, .loc 2] ?_
                  refine stA ?_
                  refine enA ?_
                  refine hK14 _ ?_
                  apply AW_ret
                  refine hO12 _ _ (by simp) ?_
                  refine hO7 _ _ (by simp) ?_
                  exact fiA (hKK _ h)
                · apply AW_skip
                  refine hN12 _ ?_
                  refine hK11 _ ?_
                  have hx := True.intro
                  refine rgA [2, 3, 8] [] ?_
                  iterate 3 refine stA ?_
                  refine enA ?_
                  exact hK8 _ (n8, (IntKind.i64.wrap (x1 + 1))) siA h (Nat.lt_succ_self _)
              · apply AW_exit
                refine hE7 _ ?_
                exact ⟨(), siA, h⟩
          · rintro _ h
            change F_sameBlock_j3 KK at h
            unfold F_sameBlock_j3 at h
            apply AW_seq_k
            intro K5 hK5
            have hx := True.intro
            refine rgA [4] [] ?_
            refine stA ?_
            refine enA ?_
            refine hK5 _ ?_
            apply AW_ret
            exact fiA (hKK _ h)

def C_sameBlock : CK1 := pureC (fn2 (cA Lt.Block.rw) (cA Lt.Block.rw) (o1 cB) (fun _ _ => True) Lt.sameBlock)
theorem c_sameBlock : Con Try.prog 36 C_sameBlock :=
  Con_fn2 (fn := Try.f36) (c := Try.f36.body.getD .skip) (by kernel_rfl) (by kernel_rfl) (by kernel_rfl) (by decide +kernel) (fun g a0_a a1_b K hg hp hK => walk_sameBlock g hg a0_a a1_b K _ (fun _ h => h) (law_sameBlock a0_a a1_b _ hK))
attribute [push_cast] C_sameBlock

set_option maxRecDepth 100000 in
set_option maxHeartbeats 4000000 in
theorem walk_SameFunc (g : G) (hg : g.nt = Try.f22.ntmps) (a0_a : Lt.Func) (a1_b : Lt.Func) (K : AV → Prop) (KK : (Bool) → Prop) (hKK : ∀ r, KK r → K (o1 cB r) ) (h : F_SameFunc a0_a a1_b KK) :
    AW Try.prog g (Try.f22.body.getD .skip) (retQ Try.prog [.tmp 4] K) ⟨entryT 0 [.one ((cA Lt.Func.rw).enc a0_a), .one ((cA Lt.Func.rw).enc a1_b)], []⟩ := by
  have hcs : CT.Ok Try.prog [(21, C_sameVars), (36, C_sameBlock)] := (CT.cons c_sameVars (CT.cons c_sameBlock CT.ok0))
  have hn : g.nt = 62 := hg
  have hm : Try.prog.follows .mixedOrders = true := by kernel_rfl
  unfold Try.f22
  dsimp only [Option.getD_some]
  unfold F_SameFunc at h
  apply AW_seq_k
  intro K1 hK1
  have hx := True.intro
  refine rgA [2, 3] [] ?_
  iterate 3 refine stA ?_
  refine enA ?_
  refine hK1 _ ?_
  apply AW_seq_k
  intro K2 hK2
  apply AW_seq_k
  intro K3 hK3
  have hx := True.intro
  refine rgV [2, 3] [] 42 (.one (.c (.d (.bool (((((!decide (a0_a.Name = a1_b.Name)) || (!decide (a0_a.Result = a1_b.Result))) || (!(Lt.sameVars a0_a.Params a1_b.Params))) || (!(Lt.sameVars a0_a.Vars a1_b.Vars))) || (!decide ((a0_a.Blocks.length : Int) = (a1_b.Blocks.length : Int)))))))) ?_ ?_
  · clear h
    iterate 6 refine stA ?_
    cases hb : (decide (a0_a.Name = a1_b.Name))
    · have hx := And.intro hb hx
      iterate 31 refine stA ?_
      exact lfA
    · have hx := And.intro hb hx
      iterate 7 refine stA ?_
      cases hb : (decide (a0_a.Result = a1_b.Result))
      · have hx := And.intro hb hx
        iterate 24 refine stA ?_
        exact lfA
      · have hx := And.intro hb hx
        iterate 8 refine stA ?_
        cases hb : (Lt.sameVars a0_a.Params a1_b.Params)
        · have hx := And.intro hb hx
          iterate 16 refine stA ?_
          exact lfA
        · have hx := And.intro hb hx
          iterate 8 refine stA ?_
          cases hb : (Lt.sameVars a0_a.Vars a1_b.Vars)
          · have hx := And.intro hb hx
            iterate 8 refine stA ?_
            exact lfA
          · have hx := And.intro hb hx
            iterate 8 refine stA ?_
            exact lfA
  · refine hK3 _ ?_
    refine cdA h rfl (fun h => ?_) (fun h => ?_)
    · apply AW_seq_k
      intro K4 hK4
      have hx := True.intro
      refine rgA [4] [.loc 3, .loc 2] ?_
      refine stA ?_
      refine enA ?_
      refine hK4 _ ?_
      apply AW_ret
      exact fiA (hKK _ h)
    · apply AW_skip
      refine hK2 _ ?_
      refine AW_joinO [] [] [.loc 3, .loc 2] (fun y : Unit => ⟨[], []⟩) (fun y => F_SameFunc_j1 KK) ?_ ?_
      · apply AW_seq_k
        intro K6 hK6
        have hx := True.intro
        refine rgA [2, 3, 5] [] ?_
        refine stA ?_
        refine enA ?_
        refine hK6 _ ?_
        apply AW_block_k
        intro Q7 hN7 hE7 hO7
        obtain ⟨n8, h⟩ := h
        refine AW_loopO [] [2, 3, 5] [] (fun y : Nat × Int => ⟨[(2, .one (.c (.pl ⟨.loc 2, 0, []⟩))), (3, .one (.c (.pl ⟨.loc 3, 0, []⟩))), (5, .one (.c (.d (.int .i64 y.2))))], [(.loc 3, ⟨true, [.d (.str a1_b.Name), .d (.str a1_b.Result), .d (.li (a1_b.Params.map Lt.Var.enc)), .d (.li (a1_b.Vars.map Lt.Var.enc)), .d (.li (a1_b.Blocks.map Lt.Block.enc))]⟩), (.loc 2, ⟨true, [.d (.str a0_a.Name), .d (.str a0_a.Result), .d (.li (a0_a.Params.map Lt.Var.enc)), .d (.li (a0_a.Vars.map Lt.Var.enc)), .d (.li (a0_a.Blocks.map Lt.Block.enc))]⟩)]⟩) (fun y => F_SameFunc_l2 a0_a a1_b KK y.1 y.2) (fun y => y.1) (n8, 0) ?_ h ?_
        · exact siA
        clear h
        rintro ⟨n8, x1⟩ h K8 hK8
        cases n8 with
        | zero => exact h.elim
        | succ n8 =>
          change F_SameFunc_l2 a0_a a1_b KK (n8 + 1) x1 at h
          unfold F_SameFunc_l2 at h
          apply AW_seq_k
          intro K9 hK9
          apply AW_seq_k
          intro K10 hK10
          have hx := True.intro
          refine rgA [2, 3, 5, 47] [] ?_
          iterate 3 refine stA ?_
          refine stG fun hp => ?_
          refine stA ?_
          refine enA ?_
          have h := h (by assumption)
          refine hK10 _ ?_
          refine cdA h rfl (fun h => ?_) (fun h => ?_)
          · apply AW_skip
            refine hK9 _ ?_
            apply AW_seq_k
            intro K11 hK11
            apply AW_block_k
            intro Q12 hN12 hE12 hO12
            apply AW_seq_k
            intro K13 hK13
            obtain ⟨ho1, ho2, h⟩ := h
            have hx := True.intro
            have hx := getA Lt.Block.enc ho1 hx
            have hx := getA Lt.Block.enc ho2 hx
            refine dgA [2, 3, 5, 61] [] (.take 0 [] true (.take 1 [3, 4, 10, 11] false (.take 2 [] true (.take 3 [] true (.take 4 [] true (.take 5 [] true (.take 6 [8, 9, 10, 11] false (.take 7 [] true (.take 8 [] true (.take 9 [] true (.one 10 (.take 11 [] true (.done))))))))))))) ?_
            iterate 10 refine dtA ?_
            refine doA ?_
            refine dtA ?_
            refine deA ?_
            refine hK13 _ ?_
            refine cdA h rfl (fun h => ?_) (fun h => ?_)
            · apply AW_seq_k
              intro K14 hK14
              have hx := True.intro
              refine rgA [4] [.loc 3, .loc 2] ?_
              refine stA ?_
              refine enA ?_
              refine hK14 _ ?_
              apply AW_ret
              refine hO12 _ _ (by simp) ?_
              refine hO7 _ _ (by simp) ?_
              exact fiA (hKK _ h)
            · apply AW_skip
              refine hN12 _ ?_
              refine hK11 _ ?_
              have hx := True.intro
              refine rgA [2, 3, 5] [] ?_
              iterate 3 refine stA ?_
              refine enA ?_
              exact hK8 _ (n8, (IntKind.i64.wrap (x1 + 1))) siA h (Nat.lt_succ_self _)
          · apply AW_exit
            refine hE7 _ ?_
            exact ⟨(), siA, h⟩
      · rintro _ h
        change F_SameFunc_j1 KK at h
        unfold F_SameFunc_j1 at h
        apply AW_seq_k
        intro K5 hK5
        have hx := True.intro
        refine rgA [4] [] ?_
        refine stA ?_
        refine enA ?_
        refine hK5 _ ?_
        apply AW_ret
        exact fiA (hKK _ h)

def C_SameFunc : CK1 := pureC (fn2 (cA Lt.Func.rw) (cA Lt.Func.rw) (o1 cB) (fun _ _ => True) Lt.SameFunc)
theorem c_SameFunc : Con Try.prog 22 C_SameFunc :=
  Con_fn2 (fn := Try.f22) (c := Try.f22.body.getD .skip) (by kernel_rfl) (by kernel_rfl) (by kernel_rfl) (by decide +kernel) (fun g a0_a a1_b K hg hp hK => walk_SameFunc g hg a0_a a1_b K _ (fun _ h => h) (law_SameFunc a0_a a1_b _ hK))
attribute [push_cast] C_SameFunc

set_option maxRecDepth 100000 in
set_option maxHeartbeats 4000000 in
theorem walk_Same (g : G) (hg : g.nt = Try.f9.ntmps) (a0_a : Lt.Program) (a1_b : Lt.Program) (K : AV → Prop) (KK : (Bool) → Prop) (hKK : ∀ r, KK r → K (o1 cB r) ) (h : F_Same a0_a a1_b KK) :
    AW Try.prog g (Try.f9.body.getD .skip) (retQ Try.prog [.tmp 4] K) ⟨entryT 0 [.one ((cA Lt.Program.rw).enc a0_a), .one ((cA Lt.Program.rw).enc a1_b)], []⟩ := by
  have hcs : CT.Ok Try.prog [(21, C_sameVars), (22, C_SameFunc)] := (CT.cons c_sameVars (CT.cons c_SameFunc CT.ok0))
  have hn : g.nt = 121 := hg
  have hm : Try.prog.follows .mixedOrders = true := by kernel_rfl
  unfold Try.f9
  dsimp only [Option.getD_some]
  unfold F_Same at h
  apply AW_seq_k
  intro K1 hK1
  have hx := True.intro
  refine rgA [2, 3] [] ?_
  iterate 3 refine stA ?_
  refine enA ?_
  refine hK1 _ ?_
  apply AW_seq_k
  intro K2 hK2
  apply AW_seq_k
  intro K3 hK3
  have hx := True.intro
  refine rgV [2, 3] [] 47 (.one (.c (.d (.bool (((((!(a0_a.SSA == a1_b.SSA)) || (!decide ((a0_a.Classes.length : Int) = (a1_b.Classes.length : Int)))) || (!(Lt.sameVars a0_a.Globals a1_b.Globals))) || (!decide ((a0_a.Externs.length : Int) = (a1_b.Externs.length : Int)))) || (!decide ((a0_a.Funcs.length : Int) = (a1_b.Funcs.length : Int)))))))) ?_ ?_
  · clear h
    iterate 6 refine stA ?_
    cases hb : (a0_a.SSA == a1_b.SSA)
    · have hx := And.intro hb hx
      iterate 34 refine stA ?_
      exact lfA
    · have hx := And.intro hb hx
      iterate 9 refine stA ?_
      cases hb : (decide ((a0_a.Classes.length : Int) = (a1_b.Classes.length : Int)))
      · have hx := And.intro hb hx
        iterate 25 refine stA ?_
        exact lfA
      · have hx := And.intro hb hx
        iterate 8 refine stA ?_
        cases hb : (Lt.sameVars a0_a.Globals a1_b.Globals)
        · have hx := And.intro hb hx
          iterate 17 refine stA ?_
          exact lfA
        · have hx := And.intro hb hx
          iterate 9 refine stA ?_
          cases hb : (decide ((a0_a.Externs.length : Int) = (a1_b.Externs.length : Int)))
          · have hx := And.intro hb hx
            iterate 8 refine stA ?_
            exact lfA
          · have hx := And.intro hb hx
            iterate 8 refine stA ?_
            exact lfA
  · refine hK3 _ ?_
    refine cdA h rfl (fun h => ?_) (fun h => ?_)
    · apply AW_seq_k
      intro K4 hK4
      have hx := True.intro
      refine rgA [4] [.loc 3, .loc 2] ?_
      refine stA ?_
      refine enA ?_
      refine hK4 _ ?_
      apply AW_ret
      exact fiA (hKK _ h)
    · apply AW_skip
      refine hK2 _ ?_
      refine AW_joinO [] [2, 3] [] (fun y : Unit => ⟨[(2, .one (.c (.pl ⟨.loc 2, 0, []⟩))), (3, .one (.c (.pl ⟨.loc 3, 0, []⟩)))], [(.loc 3, ⟨true, [.d (.bool a1_b.SSA), .d (.li (a1_b.Classes.map Lt.Class.enc)), .d (.li (a1_b.Globals.map Lt.Var.enc)), .d (.li (a1_b.Externs.map Lt.Extern.enc)), .d (.li (a1_b.Funcs.map Lt.Func.enc))]⟩), (.loc 2, ⟨true, [.d (.bool a0_a.SSA), .d (.li (a0_a.Classes.map Lt.Class.enc)), .d (.li (a0_a.Globals.map Lt.Var.enc)), .d (.li (a0_a.Externs.map Lt.Extern.enc)), .d (.li (a0_a.Funcs.map Lt.Func.enc))]⟩)]⟩) (fun y => F_Same_j1 a0_a a1_b KK) ?_ ?_
      · apply AW_seq_k
        intro K24 hK24
        have hx := True.intro
        refine rgA [2, 3, 5] [] ?_
        refine stA ?_
        refine enA ?_
        refine hK24 _ ?_
        apply AW_block_k
        intro Q25 hN25 hE25 hO25
        obtain ⟨n26, h⟩ := h
        refine AW_loopO [] [2, 3, 5] [] (fun y : Nat × Int => ⟨[(2, .one (.c (.pl ⟨.loc 2, 0, []⟩))), (3, .one (.c (.pl ⟨.loc 3, 0, []⟩))), (5, .one (.c (.d (.int .i64 y.2))))], [(.loc 3, ⟨true, [.d (.bool a1_b.SSA), .d (.li (a1_b.Classes.map Lt.Class.enc)), .d (.li (a1_b.Globals.map Lt.Var.enc)), .d (.li (a1_b.Externs.map Lt.Extern.enc)), .d (.li (a1_b.Funcs.map Lt.Func.enc))]⟩), (.loc 2, ⟨true, [.d (.bool a0_a.SSA), .d (.li (a0_a.Classes.map Lt.Class.enc)), .d (.li (a0_a.Globals.map Lt.Var.enc)), .d (.li (a0_a.Externs.map Lt.Extern.enc)), .d (.li (a0_a.Funcs.map Lt.Func.enc))]⟩)]⟩) (fun y => F_Same_l6 a0_a a1_b KK y.1 y.2) (fun y => y.1) (n26, 0) ?_ h ?_
        · exact siA
        clear h
        rintro ⟨n26, x3⟩ h K26 hK26
        cases n26 with
        | zero => exact h.elim
        | succ n26 =>
          change F_Same_l6 a0_a a1_b KK (n26 + 1) x3 at h
          unfold F_Same_l6 at h
          apply AW_seq_k
          intro K27 hK27
          apply AW_seq_k
          intro K28 hK28
          have hx := True.intro
          refine rgA [2, 3, 5, 52] [] ?_
          iterate 3 refine stA ?_
          refine stG fun hp => ?_
          refine stA ?_
          refine enA ?_
          have h := h (by assumption)
          refine hK28 _ ?_
          refine cdA h rfl (fun h => ?_) (fun h => ?_)
          · apply AW_skip
            refine hK27 _ ?_
            apply AW_seq_k
            intro K29 hK29
            apply AW_block_k
            intro Q30 hN30 hE30 hO30
            apply AW_seq_k
            intro K31 hK31
            obtain ⟨ho1, ho2, ho3, ho4, h⟩ := h
            have hx := True.intro
            have hx := getA Lt.Class.enc ho1 hx
            have hx := getA Lt.Class.enc ho2 hx
            refine dgV [2, 3, 5] [] 83 (.one (.c (.d (.bool ((!decide ((a0_a.Classes.getD x3.toNat default).Name = (a1_b.Classes.getD x3.toNat default).Name)) || (!(Lt.sameVars ((a0_a.Classes.getD x3.toNat default).Fields) ((a1_b.Classes.getD x3.toNat default).Fields)))))))) (.take 0 [] true (.take 1 [3, 4, 5, 12, 13, 14, 15, 16, 17, 18, 19, 20, 21, 22, 23, 24, 25, 26, 27, 28] false (.take 2 [] true (.take 3 [] true (.take 4 [] true (.take 5 [] true (.take 6 [] true (.take 7 [9, 10, 11, 12, 13, 14, 15, 16, 17, 18, 19, 20, 21, 22, 23, 24, 25, 26, 27, 28] false (.take 8 [] true (.take 9 [] true (.take 10 [] true (.take 11 [] true (.take 12 [] true (.take 13 [] true (.take 14 [] true (.take 15 [17, 18, 19, 26, 27, 28] false (.take 16 [] true (.take 17 [] true (.take 18 [] true (.take 19 [] true (.take 20 [] true (.take 21 [23, 24, 25, 26, 27, 28] false (.take 22 [] true (.take 23 [] true (.take 24 [] true (.take 25 [] true (.one 26 (.take 27 [] true (.take 28 [] true (.done)))))))))))))))))))))))))))))) ?_ ?_
            · clear h
              cases hb : (decide ((a0_a.Classes.getD x3.toNat default).Name = (a1_b.Classes.getD x3.toNat default).Name))
              · have hx := And.intro hb hx
                iterate 26 refine dtA ?_
                refine doA ?_
                iterate 2 refine dtA ?_
                exact dlA
              · have hx := And.intro hb hx
                have ho3 := ho3 (by simp only [push_cast, hx])
                have hx := getA Lt.Class.enc ho3 hx
                have ho4 := ho4 (by simp only [push_cast, hx])
                have hx := getA Lt.Class.enc ho4 hx
                iterate 26 refine dtA ?_
                refine doA ?_
                iterate 2 refine dtA ?_
                exact dlA
            · refine hK31 _ ?_
              refine cdA h rfl (fun h => ?_) (fun h => ?_)
              · apply AW_seq_k
                intro K32 hK32
                have hx := True.intro
                refine rgA [4] [.loc 3, .loc 2] ?_
                refine stA ?_
                refine enA ?_
                refine hK32 _ ?_
                apply AW_ret
                refine hO30 _ _ (by simp) ?_
                refine hO25 _ _ (by simp) ?_
                exact fiA (hKK _ h)
              · apply AW_skip
                refine hN30 _ ?_
                refine hK29 _ ?_
                have hx := True.intro
                refine rgA [2, 3, 5] [] ?_
                iterate 3 refine stA ?_
                refine enA ?_
                exact hK26 _ (n26, (IntKind.i64.wrap (x3 + 1))) siA h (Nat.lt_succ_self _)
          · apply AW_exit
            refine hE25 _ ?_
            exact ⟨(), siA, h⟩
      · rintro _ h
        change F_Same_j1 a0_a a1_b KK at h
        unfold F_Same_j1 at h
        refine AW_joinO [] [2, 3] [] (fun y : Unit => ⟨[(2, .one (.c (.pl ⟨.loc 2, 0, []⟩))), (3, .one (.c (.pl ⟨.loc 3, 0, []⟩)))], [(.loc 3, ⟨true, [.d (.bool a1_b.SSA), .d (.li (a1_b.Classes.map Lt.Class.enc)), .d (.li (a1_b.Globals.map Lt.Var.enc)), .d (.li (a1_b.Externs.map Lt.Extern.enc)), .d (.li (a1_b.Funcs.map Lt.Func.enc))]⟩), (.loc 2, ⟨true, [.d (.bool a0_a.SSA), .d (.li (a0_a.Classes.map Lt.Class.enc)), .d (.li (a0_a.Globals.map Lt.Var.enc)), .d (.li (a0_a.Externs.map Lt.Extern.enc)), .d (.li (a0_a.Funcs.map Lt.Func.enc))]⟩)]⟩) (fun y => F_Same_j2 a0_a a1_b KK) ?_ ?_
        · apply AW_seq_k
          intro K15 hK15
          have hx := True.intro
          refine rgA [2, 3, 6] [] ?_
          refine stA ?_
          refine enA ?_
          refine hK15 _ ?_
          apply AW_block_k
          intro Q16 hN16 hE16 hO16
          obtain ⟨n17, h⟩ := h
          refine AW_loopO [] [2, 3, 6] [] (fun y : Nat × Int => ⟨[(2, .one (.c (.pl ⟨.loc 2, 0, []⟩))), (3, .one (.c (.pl ⟨.loc 3, 0, []⟩))), (6, .one (.c (.d (.int .i64 y.2))))], [(.loc 3, ⟨true, [.d (.bool a1_b.SSA), .d (.li (a1_b.Classes.map Lt.Class.enc)), .d (.li (a1_b.Globals.map Lt.Var.enc)), .d (.li (a1_b.Externs.map Lt.Extern.enc)), .d (.li (a1_b.Funcs.map Lt.Func.enc))]⟩), (.loc 2, ⟨true, [.d (.bool a0_a.SSA), .d (.li (a0_a.Classes.map Lt.Class.enc)), .d (.li (a0_a.Globals.map Lt.Var.enc)), .d (.li (a0_a.Externs.map Lt.Extern.enc)), .d (.li (a0_a.Funcs.map Lt.Func.enc))]⟩)]⟩) (fun y => F_Same_l5 a0_a a1_b KK y.1 y.2) (fun y => y.1) (n17, 0) ?_ h ?_
          · exact siA
          clear h
          rintro ⟨n17, x2⟩ h K17 hK17
          cases n17 with
          | zero => exact h.elim
          | succ n17 =>
            change F_Same_l5 a0_a a1_b KK (n17 + 1) x2 at h
            unfold F_Same_l5 at h
            apply AW_seq_k
            intro K18 hK18
            apply AW_seq_k
            intro K19 hK19
            have hx := True.intro
            refine rgA [2, 3, 6, 88] [] ?_
            iterate 3 refine stA ?_
            refine stG fun hp => ?_
            refine stA ?_
            refine enA ?_
            have h := h (by assumption)
            refine hK19 _ ?_
            refine cdA h rfl (fun h => ?_) (fun h => ?_)
            · apply AW_skip
              refine hK18 _ ?_
              apply AW_seq_k
              intro K20 hK20
              apply AW_block_k
              intro Q21 hN21 hE21 hO21
              apply AW_seq_k
              intro K22 hK22
              obtain ⟨ho1, ho2, h⟩ := h
              have hx := True.intro
              have hx := getA Lt.Extern.enc ho1 hx
              have hx := getA Lt.Extern.enc ho2 hx
              refine dgA [2, 3, 6, 101] [] (.take 0 [] true (.take 1 [3, 4, 10] false (.take 2 [] true (.take 3 [] true (.take 4 [] true (.take 5 [] true (.take 6 [8, 9, 10] false (.take 7 [] true (.take 8 [] true (.take 9 [] true (.take 10 [] true (.done)))))))))))) ?_
              iterate 11 refine dtA ?_
              refine deA ?_
              refine hK22 _ ?_
              refine cdA h rfl (fun h => ?_) (fun h => ?_)
              · apply AW_seq_k
                intro K23 hK23
                have hx := True.intro
                refine rgA [4] [.loc 3, .loc 2] ?_
                refine stA ?_
                refine enA ?_
                refine hK23 _ ?_
                apply AW_ret
                refine hO21 _ _ (by simp) ?_
                refine hO16 _ _ (by simp) ?_
                exact fiA (hKK _ h)
              · apply AW_skip
                refine hN21 _ ?_
                refine hK20 _ ?_
                have hx := True.intro
                refine rgA [2, 3, 6] [] ?_
                iterate 3 refine stA ?_
                refine enA ?_
                exact hK17 _ (n17, (IntKind.i64.wrap (x2 + 1))) siA h (Nat.lt_succ_self _)
            · apply AW_exit
              refine hE16 _ ?_
              exact ⟨(), siA, h⟩
        · rintro _ h
          change F_Same_j2 a0_a a1_b KK at h
          unfold F_Same_j2 at h
          refine AW_joinO [] [] [.loc 3, .loc 2] (fun y : Unit => ⟨[], []⟩) (fun y => F_Same_j3 KK) ?_ ?_
          · apply AW_seq_k
            intro K6 hK6
            have hx := True.intro
            refine rgA [2, 3, 7] [] ?_
            refine stA ?_
            refine enA ?_
            refine hK6 _ ?_
            apply AW_block_k
            intro Q7 hN7 hE7 hO7
            obtain ⟨n8, h⟩ := h
            refine AW_loopO [] [2, 3, 7] [] (fun y : Nat × Int => ⟨[(2, .one (.c (.pl ⟨.loc 2, 0, []⟩))), (3, .one (.c (.pl ⟨.loc 3, 0, []⟩))), (7, .one (.c (.d (.int .i64 y.2))))], [(.loc 3, ⟨true, [.d (.bool a1_b.SSA), .d (.li (a1_b.Classes.map Lt.Class.enc)), .d (.li (a1_b.Globals.map Lt.Var.enc)), .d (.li (a1_b.Externs.map Lt.Extern.enc)), .d (.li (a1_b.Funcs.map Lt.Func.enc))]⟩), (.loc 2, ⟨true, [.d (.bool a0_a.SSA), .d (.li (a0_a.Classes.map Lt.Class.enc)), .d (.li (a0_a.Globals.map Lt.Var.enc)), .d (.li (a0_a.Externs.map Lt.Extern.enc)), .d (.li (a0_a.Funcs.map Lt.Func.enc))]⟩)]⟩) (fun y => F_Same_l4 a0_a a1_b KK y.1 y.2) (fun y => y.1) (n8, 0) ?_ h ?_
            · exact siA
            clear h
            rintro ⟨n8, x1⟩ h K8 hK8
            cases n8 with
            | zero => exact h.elim
            | succ n8 =>
              change F_Same_l4 a0_a a1_b KK (n8 + 1) x1 at h
              unfold F_Same_l4 at h
              apply AW_seq_k
              intro K9 hK9
              apply AW_seq_k
              intro K10 hK10
              have hx := True.intro
              refine rgA [2, 3, 7, 106] [] ?_
              iterate 3 refine stA ?_
              refine stG fun hp => ?_
              refine stA ?_
              refine enA ?_
              have h := h (by assumption)
              refine hK10 _ ?_
              refine cdA h rfl (fun h => ?_) (fun h => ?_)
              · apply AW_skip
                refine hK9 _ ?_
                apply AW_seq_k
                intro K11 hK11
                apply AW_block_k
                intro Q12 hN12 hE12 hO12
                apply AW_seq_k
                intro K13 hK13
                obtain ⟨ho1, ho2, h⟩ := h
                have hx := True.intro
                have hx := getA Lt.Func.enc ho1 hx
                have hx := getA Lt.Func.enc ho2 hx
                refine dgA [2, 3, 7, 120] [] (.take 0 [] true (.take 1 [3, 4, 10, 11] false (.take 2 [] true (.take 3 [] true (.take 4 [] true (.take 5 [] true (.take 6 [8, 9, 10, 11] false (.take 7 [] true (.take 8 [] true (.take 9 [] true (.one 10 (.take 11 [] true (.done))))))))))))) ?_
                iterate 10 refine dtA ?_
                refine doA ?_
                refine dtA ?_
                refine deA ?_
                refine hK13 _ ?_
                refine cdA h rfl (fun h => ?_) (fun h => ?_)
                · apply AW_seq_k
                  intro K14 hK14
                  have hx := True.intro
                  refine rgA [4] [.loc 3, .loc 2] ?_
                  refine stA ?_
                  refine enA ?_
                  refine hK14 _ ?_
                  apply AW_ret
                  refine hO12 _ _ (by simp) ?_
                  refine hO7 _ _ (by simp) ?_
                  exact fiA (hKK _ h)
                · apply AW_skip
                  refine hN12 _ ?_
                  refine hK11 _ ?_
                  have hx := True.intro
                  refine rgA [2, 3, 7] [] ?_
                  iterate 3 refine stA ?_
                  refine enA ?_
                  exact hK8 _ (n8, (IntKind.i64.wrap (x1 + 1))) siA h (Nat.lt_succ_self _)
              · apply AW_exit
                refine hE7 _ ?_
                exact ⟨(), siA, h⟩
          · rintro _ h
            change F_Same_j3 KK at h
            unfold F_Same_j3 at h
            apply AW_seq_k
            intro K5 hK5
            have hx := True.intro
            refine rgA [4] [] ?_
            refine stA ?_
            refine enA ?_
            refine hK5 _ ?_
            apply AW_ret
            exact fiA (hKK _ h)

def C_Same : CK1 := pureC (fn2 (cA Lt.Program.rw) (cA Lt.Program.rw) (o1 cB) (fun _ _ => True) Lt.Same)
theorem c_Same : Con Try.prog 9 C_Same :=
  Con_fn2 (fn := Try.f9) (c := Try.f9.body.getD .skip) (by kernel_rfl) (by kernel_rfl) (by kernel_rfl) (by decide +kernel) (fun g a0_a a1_b K hg hp hK => walk_Same g hg a0_a a1_b K _ (fun _ h => h) (law_Same a0_a a1_b _ hK))
attribute [push_cast] C_Same

end Go.Am
end

section
namespace Lt
open Go.Am
def Var.okr (x : Var) : Prop := okS x.Name ∧ okS x.Type_
def Class.okr (x : Class) : Prop := okS x.Name ∧ (okL Lt.Var.okr) x.Fields
def Extern.okr (x : Extern) : Prop := okS x.Name ∧ (okI .i64) x.N
def Arg.okr (x : Arg) : Prop := (okI .i64) x.Kind ∧ okS x.S ∧ (okI .i64) x.N
def In.okr (x : In) : Prop := okS x.Block ∧ Lt.Arg.okr x.A
def Phi.okr (x : Phi) : Prop := okS x.Dst ∧ (okL Lt.In.okr) x.Ins
def Bind.okr (x : Bind) : Prop := okS x.Name ∧ Lt.Arg.okr x.A
def Frame.okr (x : Frame) : Prop := okS x.Func ∧ okS x.Block ∧ (okI .i64) x.At ∧ (okL Lt.Bind.okr) x.Vars
def Virt.okr (x : Virt) : Prop := okS x.Class ∧ (okL Lt.Arg.okr) x.Vals
def Instr.okr (x : Instr) : Prop := (okI .i64) x.Op ∧ okS x.Dst ∧ okS x.Name ∧ (okL Lt.Arg.okr) x.Args ∧ (okL Lt.Frame.okr) x.Frames ∧ (okL Lt.Virt.okr) x.Objs
def Term.okr (x : Term) : Prop := (okI .i64) x.Kind ∧ Lt.Arg.okr x.A ∧ (okL okS) x.To ∧ (okI .i64) x.N
def Block.okr (x : Block) : Prop := okS x.Name ∧ (okL Lt.Phi.okr) x.Phis ∧ (okL Lt.Instr.okr) x.Code ∧ Lt.Term.okr x.End
def Func.okr (x : Func) : Prop := okS x.Name ∧ okS x.Result ∧ (okL Lt.Var.okr) x.Params ∧ (okL Lt.Var.okr) x.Vars ∧ (okL Lt.Block.okr) x.Blocks
def Program.okr (x : Program) : Prop := okB x.SSA ∧ (okL Lt.Class.okr) x.Classes ∧ (okL Lt.Var.okr) x.Globals ∧ (okL Lt.Extern.okr) x.Externs ∧ (okL Lt.Func.okr) x.Funcs
end Lt
namespace Go.Am
open Go.Proofs
set_option linter.unusedVariables false

theorem Reads_Var (W : World) : Reads Try.prog W 70 Lt.Var.enc Lt.Var.okr := by
  intro Hh enc fuel cs x h hw
  obtain ⟨xs, n, _, rfl, hl, hlen, hf⟩ := DataW.trod_struct Try.underlying70 h
  · obtain ⟨y0, y1, rfl⟩ := list_len2 hlen
    have hw2 : ∀ n ∈ DataW.weightsEach Try.prog [9, 9] [y0.1, y1.1], n ≤ reachBytes := by
      intro n hn; refine hw n ?_; simp only [DataW.weights, Try.underlying70]; exact hn
    obtain ⟨a0, k0, r0, _⟩ := (Reads_string Try.underlying9) Hh enc n _ y0 (hf 0 _ rfl) (fun m hm => hw2 m (DataW.weights_mem_each (j := 0) rfl rfl m hm))
    obtain ⟨c0_0, _⟩ := RdAt_part r0
    obtain ⟨a1, k1, r1, _⟩ := (Reads_string Try.underlying9) Hh enc n _ y1 (hf 1 _ rfl) (fun m hm => hw2 m (DataW.weights_mem_each (j := 1) rfl rfl m hm))
    obtain ⟨c1_0, _⟩ := RdAt_part r1
    exact ⟨⟨a0, a1⟩, ⟨k0, k1⟩, ⟨c0_0, c1_0, trivial⟩, by rw [hl]; kernel_rfl⟩

theorem Reads_Class (W : World) : Reads Try.prog W 51 Lt.Class.enc Lt.Class.okr := by
  intro Hh enc fuel cs x h hw
  obtain ⟨xs, n, _, rfl, hl, hlen, hf⟩ := DataW.trod_struct Try.underlying51 h
  · obtain ⟨y0, y1, rfl⟩ := list_len2 hlen
    have hw2 : ∀ n ∈ DataW.weightsEach Try.prog [9, 23] [y0.1, y1.1], n ≤ reachBytes := by
      intro n hn; refine hw n ?_; simp only [DataW.weights, Try.underlying51]; exact hn
    obtain ⟨a0, k0, r0, _⟩ := (Reads_string Try.underlying9) Hh enc n _ y0 (hf 0 _ rfl) (fun m hm => hw2 m (DataW.weights_mem_each (j := 0) rfl rfl m hm))
    obtain ⟨c0_0, _⟩ := RdAt_part r0
    obtain ⟨a1, k1, r1, _⟩ := (Reads_slice (R := Lt.Var.enc) (es := 2) Try.underlying23 (by kernel_rfl) (of_decide_eq_true (by kernel_rfl)) (fun _ => rfl) (by decide) (Reads_Var W)) Hh enc n _ y1 (hf 1 _ rfl) (fun m hm => hw2 m (DataW.weights_mem_each (j := 1) rfl rfl m hm))
    obtain ⟨c1_0, _⟩ := RdAt_part r1
    exact ⟨⟨a0, a1⟩, ⟨k0, k1⟩, ⟨c0_0, c1_0, trivial⟩, by rw [hl]; kernel_rfl⟩

theorem Reads_Extern (W : World) : Reads Try.prog W 53 Lt.Extern.enc Lt.Extern.okr := by
  intro Hh enc fuel cs x h hw
  obtain ⟨xs, n, _, rfl, hl, hlen, hf⟩ := DataW.trod_struct Try.underlying53 h
  · obtain ⟨y0, y1, rfl⟩ := list_len2 hlen
    have hw2 : ∀ n ∈ DataW.weightsEach Try.prog [9, 3] [y0.1, y1.1], n ≤ reachBytes := by
      intro n hn; refine hw n ?_; simp only [DataW.weights, Try.underlying53]; exact hn
    obtain ⟨a0, k0, r0, _⟩ := (Reads_string Try.underlying9) Hh enc n _ y0 (hf 0 _ rfl) (fun m hm => hw2 m (DataW.weights_mem_each (j := 0) rfl rfl m hm))
    obtain ⟨c0_0, _⟩ := RdAt_part r0
    obtain ⟨a1, k1, r1, _⟩ := (Reads_int Try.underlying3) Hh enc n _ y1 (hf 1 _ rfl) (fun m hm => hw2 m (DataW.weights_mem_each (j := 1) rfl rfl m hm))
    obtain ⟨c1_0, _⟩ := RdAt_part r1
    exact ⟨⟨a0, a1⟩, ⟨k0, k1⟩, ⟨c0_0, c1_0, trivial⟩, by rw [hl]; kernel_rfl⟩

theorem Reads_Arg (W : World) : Reads Try.prog W 36 Lt.Arg.enc Lt.Arg.okr := by
  intro Hh enc fuel cs x h hw
  obtain ⟨xs, n, _, rfl, hl, hlen, hf⟩ := DataW.trod_struct Try.underlying36 h
  · obtain ⟨y0, y1, y2, rfl⟩ := list_len3 hlen
    have hw2 : ∀ n ∈ DataW.weightsEach Try.prog [3, 9, 2] [y0.1, y1.1, y2.1], n ≤ reachBytes := by
      intro n hn; refine hw n ?_; simp only [DataW.weights, Try.underlying36]; exact hn
    obtain ⟨a0, k0, r0, _⟩ := (Reads_int Try.underlying3) Hh enc n _ y0 (hf 0 _ rfl) (fun m hm => hw2 m (DataW.weights_mem_each (j := 0) rfl rfl m hm))
    obtain ⟨c0_0, _⟩ := RdAt_part r0
    obtain ⟨a1, k1, r1, _⟩ := (Reads_string Try.underlying9) Hh enc n _ y1 (hf 1 _ rfl) (fun m hm => hw2 m (DataW.weights_mem_each (j := 1) rfl rfl m hm))
    obtain ⟨c1_0, _⟩ := RdAt_part r1
    obtain ⟨a2, k2, r2, _⟩ := (Reads_int Try.underlying2) Hh enc n _ y2 (hf 2 _ rfl) (fun m hm => hw2 m (DataW.weights_mem_each (j := 2) rfl rfl m hm))
    obtain ⟨c2_0, _⟩ := RdAt_part r2
    exact ⟨⟨a0, a1, a2⟩, ⟨k0, k1, k2⟩, ⟨c0_0, c1_0, c2_0, trivial⟩, by rw [hl]; kernel_rfl⟩

theorem Reads_In (W : World) : Reads Try.prog W 81 Lt.In.enc Lt.In.okr := by
  intro Hh enc fuel cs x h hw
  obtain ⟨xs, n, _, rfl, hl, hlen, hf⟩ := DataW.trod_struct Try.underlying81 h
  · obtain ⟨y0, y1, rfl⟩ := list_len2 hlen
    have hw2 : ∀ n ∈ DataW.weightsEach Try.prog [9, 36] [y0.1, y1.1], n ≤ reachBytes := by
      intro n hn; refine hw n ?_; simp only [DataW.weights, Try.underlying81]; exact hn
    obtain ⟨a0, k0, r0, _⟩ := (Reads_string Try.underlying9) Hh enc n _ y0 (hf 0 _ rfl) (fun m hm => hw2 m (DataW.weights_mem_each (j := 0) rfl rfl m hm))
    obtain ⟨c0_0, _⟩ := RdAt_part r0
    obtain ⟨a1, k1, r1, _⟩ := (Reads_Arg W) Hh enc n _ y1 (hf 1 _ rfl) (fun m hm => hw2 m (DataW.weights_mem_each (j := 1) rfl rfl m hm))
    obtain ⟨c1_0, c1_1, c1_2, _⟩ := RdAt_part r1
    exact ⟨⟨a0, a1⟩, ⟨k0, k1⟩, ⟨c0_0, c1_0, c1_1, c1_2, trivial⟩, by rw [hl]; kernel_rfl⟩

theorem Reads_Phi (W : World) : Reads Try.prog W 79 Lt.Phi.enc Lt.Phi.okr := by
  intro Hh enc fuel cs x h hw
  obtain ⟨xs, n, _, rfl, hl, hlen, hf⟩ := DataW.trod_struct Try.underlying79 h
  · obtain ⟨y0, y1, rfl⟩ := list_len2 hlen
    have hw2 : ∀ n ∈ DataW.weightsEach Try.prog [9, 77] [y0.1, y1.1], n ≤ reachBytes := by
      intro n hn; refine hw n ?_; simp only [DataW.weights, Try.underlying79]; exact hn
    obtain ⟨a0, k0, r0, _⟩ := (Reads_string Try.underlying9) Hh enc n _ y0 (hf 0 _ rfl) (fun m hm => hw2 m (DataW.weights_mem_each (j := 0) rfl rfl m hm))
    obtain ⟨c0_0, _⟩ := RdAt_part r0
    obtain ⟨a1, k1, r1, _⟩ := (Reads_slice (R := Lt.In.enc) (es := 4) Try.underlying77 (by kernel_rfl) (of_decide_eq_true (by kernel_rfl)) (fun _ => rfl) (by decide) (Reads_In W)) Hh enc n _ y1 (hf 1 _ rfl) (fun m hm => hw2 m (DataW.weights_mem_each (j := 1) rfl rfl m hm))
    obtain ⟨c1_0, _⟩ := RdAt_part r1
    exact ⟨⟨a0, a1⟩, ⟨k0, k1⟩, ⟨c0_0, c1_0, trivial⟩, by rw [hl]; kernel_rfl⟩

theorem Reads_Bind (W : World) : Reads Try.prog W 117 Lt.Bind.enc Lt.Bind.okr := by
  intro Hh enc fuel cs x h hw
  obtain ⟨xs, n, _, rfl, hl, hlen, hf⟩ := DataW.trod_struct Try.underlying117 h
  · obtain ⟨y0, y1, rfl⟩ := list_len2 hlen
    have hw2 : ∀ n ∈ DataW.weightsEach Try.prog [9, 36] [y0.1, y1.1], n ≤ reachBytes := by
      intro n hn; refine hw n ?_; simp only [DataW.weights, Try.underlying117]; exact hn
    obtain ⟨a0, k0, r0, _⟩ := (Reads_string Try.underlying9) Hh enc n _ y0 (hf 0 _ rfl) (fun m hm => hw2 m (DataW.weights_mem_each (j := 0) rfl rfl m hm))
    obtain ⟨c0_0, _⟩ := RdAt_part r0
    obtain ⟨a1, k1, r1, _⟩ := (Reads_Arg W) Hh enc n _ y1 (hf 1 _ rfl) (fun m hm => hw2 m (DataW.weights_mem_each (j := 1) rfl rfl m hm))
    obtain ⟨c1_0, c1_1, c1_2, _⟩ := RdAt_part r1
    exact ⟨⟨a0, a1⟩, ⟨k0, k1⟩, ⟨c0_0, c1_0, c1_1, c1_2, trivial⟩, by rw [hl]; kernel_rfl⟩

theorem Reads_Frame (W : World) : Reads Try.prog W 115 Lt.Frame.enc Lt.Frame.okr := by
  intro Hh enc fuel cs x h hw
  obtain ⟨xs, n, _, rfl, hl, hlen, hf⟩ := DataW.trod_struct Try.underlying115 h
  · obtain ⟨y0, y1, y2, y3, rfl⟩ := list_len4 hlen
    have hw2 : ∀ n ∈ DataW.weightsEach Try.prog [9, 9, 3, 113] [y0.1, y1.1, y2.1, y3.1], n ≤ reachBytes := by
      intro n hn; refine hw n ?_; simp only [DataW.weights, Try.underlying115]; exact hn
    obtain ⟨a0, k0, r0, _⟩ := (Reads_string Try.underlying9) Hh enc n _ y0 (hf 0 _ rfl) (fun m hm => hw2 m (DataW.weights_mem_each (j := 0) rfl rfl m hm))
    obtain ⟨c0_0, _⟩ := RdAt_part r0
    obtain ⟨a1, k1, r1, _⟩ := (Reads_string Try.underlying9) Hh enc n _ y1 (hf 1 _ rfl) (fun m hm => hw2 m (DataW.weights_mem_each (j := 1) rfl rfl m hm))
    obtain ⟨c1_0, _⟩ := RdAt_part r1
    obtain ⟨a2, k2, r2, _⟩ := (Reads_int Try.underlying3) Hh enc n _ y2 (hf 2 _ rfl) (fun m hm => hw2 m (DataW.weights_mem_each (j := 2) rfl rfl m hm))
    obtain ⟨c2_0, _⟩ := RdAt_part r2
    obtain ⟨a3, k3, r3, _⟩ := (Reads_slice (R := Lt.Bind.enc) (es := 4) Try.underlying113 (by kernel_rfl) (of_decide_eq_true (by kernel_rfl)) (fun _ => rfl) (by decide) (Reads_Bind W)) Hh enc n _ y3 (hf 3 _ rfl) (fun m hm => hw2 m (DataW.weights_mem_each (j := 3) rfl rfl m hm))
    obtain ⟨c3_0, _⟩ := RdAt_part r3
    exact ⟨⟨a0, a1, a2, a3⟩, ⟨k0, k1, k2, k3⟩, ⟨c0_0, c1_0, c2_0, c3_0, trivial⟩, by rw [hl]; kernel_rfl⟩

theorem Reads_Virt (W : World) : Reads Try.prog W 119 Lt.Virt.enc Lt.Virt.okr := by
  intro Hh enc fuel cs x h hw
  obtain ⟨xs, n, _, rfl, hl, hlen, hf⟩ := DataW.trod_struct Try.underlying119 h
  · obtain ⟨y0, y1, rfl⟩ := list_len2 hlen
    have hw2 : ∀ n ∈ DataW.weightsEach Try.prog [9, 83] [y0.1, y1.1], n ≤ reachBytes := by
      intro n hn; refine hw n ?_; simp only [DataW.weights, Try.underlying119]; exact hn
    obtain ⟨a0, k0, r0, _⟩ := (Reads_string Try.underlying9) Hh enc n _ y0 (hf 0 _ rfl) (fun m hm => hw2 m (DataW.weights_mem_each (j := 0) rfl rfl m hm))
    obtain ⟨c0_0, _⟩ := RdAt_part r0
    obtain ⟨a1, k1, r1, _⟩ := (Reads_slice (R := Lt.Arg.enc) (es := 3) Try.underlying83 (by kernel_rfl) (of_decide_eq_true (by kernel_rfl)) (fun _ => rfl) (by decide) (Reads_Arg W)) Hh enc n _ y1 (hf 1 _ rfl) (fun m hm => hw2 m (DataW.weights_mem_each (j := 1) rfl rfl m hm))
    obtain ⟨c1_0, _⟩ := RdAt_part r1
    exact ⟨⟨a0, a1⟩, ⟨k0, k1⟩, ⟨c0_0, c1_0, trivial⟩, by rw [hl]; kernel_rfl⟩

theorem Reads_Instr (W : World) : Reads Try.prog W 87 Lt.Instr.enc Lt.Instr.okr := by
  intro Hh enc fuel cs x h hw
  obtain ⟨xs, n, _, rfl, hl, hlen, hf⟩ := DataW.trod_struct Try.underlying87 h
  · obtain ⟨y0, y1, y2, y3, y4, y5, rfl⟩ := list_len6 hlen
    have hw2 : ∀ n ∈ DataW.weightsEach Try.prog [3, 9, 9, 83, 84, 85] [y0.1, y1.1, y2.1, y3.1, y4.1, y5.1], n ≤ reachBytes := by
      intro n hn; refine hw n ?_; simp only [DataW.weights, Try.underlying87]; exact hn
    obtain ⟨a0, k0, r0, _⟩ := (Reads_int Try.underlying3) Hh enc n _ y0 (hf 0 _ rfl) (fun m hm => hw2 m (DataW.weights_mem_each (j := 0) rfl rfl m hm))
    obtain ⟨c0_0, _⟩ := RdAt_part r0
    obtain ⟨a1, k1, r1, _⟩ := (Reads_string Try.underlying9) Hh enc n _ y1 (hf 1 _ rfl) (fun m hm => hw2 m (DataW.weights_mem_each (j := 1) rfl rfl m hm))
    obtain ⟨c1_0, _⟩ := RdAt_part r1
    obtain ⟨a2, k2, r2, _⟩ := (Reads_string Try.underlying9) Hh enc n _ y2 (hf 2 _ rfl) (fun m hm => hw2 m (DataW.weights_mem_each (j := 2) rfl rfl m hm))
    obtain ⟨c2_0, _⟩ := RdAt_part r2
    obtain ⟨a3, k3, r3, _⟩ := (Reads_slice (R := Lt.Arg.enc) (es := 3) Try.underlying83 (by kernel_rfl) (of_decide_eq_true (by kernel_rfl)) (fun _ => rfl) (by decide) (Reads_Arg W)) Hh enc n _ y3 (hf 3 _ rfl) (fun m hm => hw2 m (DataW.weights_mem_each (j := 3) rfl rfl m hm))
    obtain ⟨c3_0, _⟩ := RdAt_part r3
    obtain ⟨a4, k4, r4, _⟩ := (Reads_slice (R := Lt.Frame.enc) (es := 4) Try.underlying84 (by kernel_rfl) (of_decide_eq_true (by kernel_rfl)) (fun _ => rfl) (by decide) (Reads_Frame W)) Hh enc n _ y4 (hf 4 _ rfl) (fun m hm => hw2 m (DataW.weights_mem_each (j := 4) rfl rfl m hm))
    obtain ⟨c4_0, _⟩ := RdAt_part r4
    obtain ⟨a5, k5, r5, _⟩ := (Reads_slice (R := Lt.Virt.enc) (es := 2) Try.underlying85 (by kernel_rfl) (of_decide_eq_true (by kernel_rfl)) (fun _ => rfl) (by decide) (Reads_Virt W)) Hh enc n _ y5 (hf 5 _ rfl) (fun m hm => hw2 m (DataW.weights_mem_each (j := 5) rfl rfl m hm))
    obtain ⟨c5_0, _⟩ := RdAt_part r5
    exact ⟨⟨a0, a1, a2, a3, a4, a5⟩, ⟨k0, k1, k2, k3, k4, k5⟩, ⟨c0_0, c1_0, c2_0, c3_0, c4_0, c5_0, trivial⟩, by rw [hl]; kernel_rfl⟩

theorem Reads_Term (W : World) : Reads Try.prog W 38 Lt.Term.enc Lt.Term.okr := by
  intro Hh enc fuel cs x h hw
  obtain ⟨xs, n, _, rfl, hl, hlen, hf⟩ := DataW.trod_struct Try.underlying38 h
  · obtain ⟨y0, y1, y2, y3, rfl⟩ := list_len4 hlen
    have hw2 : ∀ n ∈ DataW.weightsEach Try.prog [3, 36, 34, 2] [y0.1, y1.1, y2.1, y3.1], n ≤ reachBytes := by
      intro n hn; refine hw n ?_; simp only [DataW.weights, Try.underlying38]; exact hn
    obtain ⟨a0, k0, r0, _⟩ := (Reads_int Try.underlying3) Hh enc n _ y0 (hf 0 _ rfl) (fun m hm => hw2 m (DataW.weights_mem_each (j := 0) rfl rfl m hm))
    obtain ⟨c0_0, _⟩ := RdAt_part r0
    obtain ⟨a1, k1, r1, _⟩ := (Reads_Arg W) Hh enc n _ y1 (hf 1 _ rfl) (fun m hm => hw2 m (DataW.weights_mem_each (j := 1) rfl rfl m hm))
    obtain ⟨c1_0, c1_1, c1_2, _⟩ := RdAt_part r1
    obtain ⟨a2, k2, r2, _⟩ := (Reads_slice (R := rS.enc) (es := 1) Try.underlying34 (by kernel_rfl) (of_decide_eq_true (by kernel_rfl)) (fun _ => rfl) (by decide) (Reads_string Try.underlying9)) Hh enc n _ y2 (hf 2 _ rfl) (fun m hm => hw2 m (DataW.weights_mem_each (j := 2) rfl rfl m hm))
    obtain ⟨c2_0, _⟩ := RdAt_part r2
    obtain ⟨a3, k3, r3, _⟩ := (Reads_int Try.underlying2) Hh enc n _ y3 (hf 3 _ rfl) (fun m hm => hw2 m (DataW.weights_mem_each (j := 3) rfl rfl m hm))
    obtain ⟨c3_0, _⟩ := RdAt_part r3
    exact ⟨⟨a0, a1, a2, a3⟩, ⟨k0, k1, k2, k3⟩, ⟨c0_0, c1_0, c1_1, c1_2, c2_0, c3_0, trivial⟩, by rw [hl]; kernel_rfl⟩

theorem Reads_Block (W : World) : Reads Try.prog W 42 Lt.Block.enc Lt.Block.okr := by
  intro Hh enc fuel cs x h hw
  obtain ⟨xs, n, _, rfl, hl, hlen, hf⟩ := DataW.trod_struct Try.underlying42 h
  · obtain ⟨y0, y1, y2, y3, rfl⟩ := list_len4 hlen
    have hw2 : ∀ n ∈ DataW.weightsEach Try.prog [9, 39, 40, 38] [y0.1, y1.1, y2.1, y3.1], n ≤ reachBytes := by
      intro n hn; refine hw n ?_; simp only [DataW.weights, Try.underlying42]; exact hn
    obtain ⟨a0, k0, r0, _⟩ := (Reads_string Try.underlying9) Hh enc n _ y0 (hf 0 _ rfl) (fun m hm => hw2 m (DataW.weights_mem_each (j := 0) rfl rfl m hm))
    obtain ⟨c0_0, _⟩ := RdAt_part r0
    obtain ⟨a1, k1, r1, _⟩ := (Reads_slice (R := Lt.Phi.enc) (es := 2) Try.underlying39 (by kernel_rfl) (of_decide_eq_true (by kernel_rfl)) (fun _ => rfl) (by decide) (Reads_Phi W)) Hh enc n _ y1 (hf 1 _ rfl) (fun m hm => hw2 m (DataW.weights_mem_each (j := 1) rfl rfl m hm))
    obtain ⟨c1_0, _⟩ := RdAt_part r1
    obtain ⟨a2, k2, r2, _⟩ := (Reads_slice (R := Lt.Instr.enc) (es := 6) Try.underlying40 (by kernel_rfl) (of_decide_eq_true (by kernel_rfl)) (fun _ => rfl) (by decide) (Reads_Instr W)) Hh enc n _ y2 (hf 2 _ rfl) (fun m hm => hw2 m (DataW.weights_mem_each (j := 2) rfl rfl m hm))
    obtain ⟨c2_0, _⟩ := RdAt_part r2
    obtain ⟨a3, k3, r3, _⟩ := (Reads_Term W) Hh enc n _ y3 (hf 3 _ rfl) (fun m hm => hw2 m (DataW.weights_mem_each (j := 3) rfl rfl m hm))
    obtain ⟨c3_0, c3_1, c3_2, c3_3, c3_4, c3_5, _⟩ := RdAt_part r3
    exact ⟨⟨a0, a1, a2, a3⟩, ⟨k0, k1, k2, k3⟩, ⟨c0_0, c1_0, c2_0, c3_0, c3_1, c3_2, c3_3, c3_4, c3_5, trivial⟩, by rw [hl]; kernel_rfl⟩

theorem Reads_Func (W : World) : Reads Try.prog W 33 Lt.Func.enc Lt.Func.okr := by
  intro Hh enc fuel cs x h hw
  obtain ⟨xs, n, _, rfl, hl, hlen, hf⟩ := DataW.trod_struct Try.underlying33 h
  · obtain ⟨y0, y1, y2, y3, y4, rfl⟩ := list_len5 hlen
    have hw2 : ∀ n ∈ DataW.weightsEach Try.prog [9, 9, 23, 23, 31] [y0.1, y1.1, y2.1, y3.1, y4.1], n ≤ reachBytes := by
      intro n hn; refine hw n ?_; simp only [DataW.weights, Try.underlying33]; exact hn
    obtain ⟨a0, k0, r0, _⟩ := (Reads_string Try.underlying9) Hh enc n _ y0 (hf 0 _ rfl) (fun m hm => hw2 m (DataW.weights_mem_each (j := 0) rfl rfl m hm))
    obtain ⟨c0_0, _⟩ := RdAt_part r0
    obtain ⟨a1, k1, r1, _⟩ := (Reads_string Try.underlying9) Hh enc n _ y1 (hf 1 _ rfl) (fun m hm => hw2 m (DataW.weights_mem_each (j := 1) rfl rfl m hm))
    obtain ⟨c1_0, _⟩ := RdAt_part r1
    obtain ⟨a2, k2, r2, _⟩ := (Reads_slice (R := Lt.Var.enc) (es := 2) Try.underlying23 (by kernel_rfl) (of_decide_eq_true (by kernel_rfl)) (fun _ => rfl) (by decide) (Reads_Var W)) Hh enc n _ y2 (hf 2 _ rfl) (fun m hm => hw2 m (DataW.weights_mem_each (j := 2) rfl rfl m hm))
    obtain ⟨c2_0, _⟩ := RdAt_part r2
    obtain ⟨a3, k3, r3, _⟩ := (Reads_slice (R := Lt.Var.enc) (es := 2) Try.underlying23 (by kernel_rfl) (of_decide_eq_true (by kernel_rfl)) (fun _ => rfl) (by decide) (Reads_Var W)) Hh enc n _ y3 (hf 3 _ rfl) (fun m hm => hw2 m (DataW.weights_mem_each (j := 3) rfl rfl m hm))
    obtain ⟨c3_0, _⟩ := RdAt_part r3
    obtain ⟨a4, k4, r4, _⟩ := (Reads_slice (R := Lt.Block.enc) (es := 9) Try.underlying31 (by kernel_rfl) (of_decide_eq_true (by kernel_rfl)) (fun _ => rfl) (by decide) (Reads_Block W)) Hh enc n _ y4 (hf 4 _ rfl) (fun m hm => hw2 m (DataW.weights_mem_each (j := 4) rfl rfl m hm))
    obtain ⟨c4_0, _⟩ := RdAt_part r4
    exact ⟨⟨a0, a1, a2, a3, a4⟩, ⟨k0, k1, k2, k3, k4⟩, ⟨c0_0, c1_0, c2_0, c3_0, c4_0, trivial⟩, by rw [hl]; kernel_rfl⟩

theorem Reads_Program (W : World) : Reads Try.prog W 27 Lt.Program.enc Lt.Program.okr := by
  intro Hh enc fuel cs x h hw
  obtain ⟨xs, n, _, rfl, hl, hlen, hf⟩ := DataW.trod_struct Try.underlying27 h
  · obtain ⟨y0, y1, y2, y3, y4, rfl⟩ := list_len5 hlen
    have hw2 : ∀ n ∈ DataW.weightsEach Try.prog [4, 22, 23, 24, 25] [y0.1, y1.1, y2.1, y3.1, y4.1], n ≤ reachBytes := by
      intro n hn; refine hw n ?_; simp only [DataW.weights, Try.underlying27]; exact hn
    obtain ⟨a0, k0, r0, _⟩ := (Reads_bool Try.underlying4) Hh enc n _ y0 (hf 0 _ rfl) (fun m hm => hw2 m (DataW.weights_mem_each (j := 0) rfl rfl m hm))
    obtain ⟨c0_0, _⟩ := RdAt_part r0
    obtain ⟨a1, k1, r1, _⟩ := (Reads_slice (R := Lt.Class.enc) (es := 2) Try.underlying22 (by kernel_rfl) (of_decide_eq_true (by kernel_rfl)) (fun _ => rfl) (by decide) (Reads_Class W)) Hh enc n _ y1 (hf 1 _ rfl) (fun m hm => hw2 m (DataW.weights_mem_each (j := 1) rfl rfl m hm))
    obtain ⟨c1_0, _⟩ := RdAt_part r1
    obtain ⟨a2, k2, r2, _⟩ := (Reads_slice (R := Lt.Var.enc) (es := 2) Try.underlying23 (by kernel_rfl) (of_decide_eq_true (by kernel_rfl)) (fun _ => rfl) (by decide) (Reads_Var W)) Hh enc n _ y2 (hf 2 _ rfl) (fun m hm => hw2 m (DataW.weights_mem_each (j := 2) rfl rfl m hm))
    obtain ⟨c2_0, _⟩ := RdAt_part r2
    obtain ⟨a3, k3, r3, _⟩ := (Reads_slice (R := Lt.Extern.enc) (es := 2) Try.underlying24 (by kernel_rfl) (of_decide_eq_true (by kernel_rfl)) (fun _ => rfl) (by decide) (Reads_Extern W)) Hh enc n _ y3 (hf 3 _ rfl) (fun m hm => hw2 m (DataW.weights_mem_each (j := 3) rfl rfl m hm))
    obtain ⟨c3_0, _⟩ := RdAt_part r3
    obtain ⟨a4, k4, r4, _⟩ := (Reads_slice (R := Lt.Func.enc) (es := 5) Try.underlying25 (by kernel_rfl) (of_decide_eq_true (by kernel_rfl)) (fun _ => rfl) (by decide) (Reads_Func W)) Hh enc n _ y4 (hf 4 _ rfl) (fun m hm => hw2 m (DataW.weights_mem_each (j := 4) rfl rfl m hm))
    obtain ⟨c4_0, _⟩ := RdAt_part r4
    exact ⟨⟨a0, a1, a2, a3, a4⟩, ⟨k0, k1, k2, k3, k4⟩, ⟨c0_0, c1_0, c2_0, c3_0, c4_0, trivial⟩, by rw [hl]; kernel_rfl⟩

end Go.Am
end

section
namespace Go.Am
open Go.Proofs
set_option linter.unusedSimpArgs false
set_option linter.unusedVariables false
set_option maxRecDepth 100000 in
set_option maxHeartbeats 4000000 in
theorem walk_ShowSpoilt (g : G) (hg : g.nt = Try.f3.ntmps) (a0_p : Lt.Program) (a1_name : List UInt8) (K : AV → Prop) (KK : (Bool) → Prop) (hKK : ∀ r, KK r → K (o1 cB r) ) (h : F_ShowSpoilt a0_p a1_name KK) :
    AW Try.prog g (Try.f3.body.getD .skip) (retQ Try.prog [.tmp 4] K) ⟨entryT 0 [.one ((cA Lt.Program.rw).enc a0_p), .one (cS.enc a1_name)], []⟩ := by
  have hcs : CT.Ok Try.prog [(5, C_awake), (6, C_Few), (7, C_showRight)] := (CT.cons c_awake (CT.cons c_Few (CT.cons c_showRight CT.ok0)))
  have hn : g.nt = 97 := hg
  have hm : Try.prog.follows .mixedOrders = true := by kernel_rfl
  unfold Try.f3
  dsimp only [Option.getD_some]
  unfold F_ShowSpoilt at h
  apply AW_seq_k
  intro K1 hK1
  have hx := True.intro
  refine rgA [1, 2] [] ?_
  iterate 2 refine stA ?_
  refine enA ?_
  refine hK1 _ ?_
  apply AW_seq_k
  intro K2 hK2
  apply AW_seq_k
  intro K3 hK3
  obtain ⟨ho1, h⟩ := h
  have hx := True.intro
  refine rgV [1, 2] [] 30 (.one (.c (.d (.bool ((((!Lt.awake) || (!(Lt.Few a0_p 20000))) || (!(Lt.showRight a0_p))) || (decide ((a0_p.Funcs.length : Int) = 0))))))) ?_ ?_
  · clear h
    iterate 3 refine stA ?_
    cases hb : (Lt.awake)
    · have hx := And.intro hb hx
      iterate 15 refine stA ?_
      exact lfA
    · have hx := And.intro hb hx
      have ho1 := ho1 (by simp only [push_cast, hx])
      have hx := useA ho1 hx
      iterate 5 refine stA ?_
      cases hb : (Lt.Few a0_p 20000)
      · have hx := And.intro hb hx
        iterate 10 refine stA ?_
        exact lfA
      · have hx := And.intro hb hx
        iterate 5 refine stA ?_
        cases hb : (Lt.showRight a0_p)
        · have hx := And.intro hb hx
          iterate 5 refine stA ?_
          exact lfA
        · have hx := And.intro hb hx
          iterate 5 refine stA ?_
          exact lfA
  · refine hK3 _ ?_
    refine cdA h rfl (fun h => ?_) (fun h => ?_)
    · apply AW_seq_k
      intro K4 hK4
      have hx := True.intro
      refine rgA [4] [.loc 2] ?_
      iterate 2 refine stA ?_
      refine enA ?_
      refine hK4 _ ?_
      apply AW_ret
      exact fiA (hKK _ h)
    · apply AW_skip
      refine hK2 _ ?_
      apply AW_seq_k
      intro K5 hK5
      obtain ⟨ho1, h⟩ := h
      have hx := True.intro
      have hx := getA Lt.Func.enc ho1 hx
      refine rgA [1, 2, 5] [] ?_
      iterate 6 refine stA ?_
      refine enA ?_
      refine hK5 _ ?_
      apply AW_seq_k
      intro K6 hK6
      have hx := True.intro
      refine rgA [1, 2, 5, 6] [] ?_
      refine stA ?_
      refine enA ?_
      refine hK6 _ ?_
      apply AW_seq_k
      intro K7 hK7
      obtain ⟨ho1, h⟩ := h
      have hx := True.intro
      have hx := useA ho1.1 (useA ho1.2 hx)
      refine rgA [1, 2, 5, 6] [] ?_
      iterate 5 refine stA ?_
      refine enA ?_
      refine hK7 _ ?_
      apply AW_seq_k
      intro K8 hK8
      obtain ⟨ho1, ho2, ho3, ho4, h⟩ := h
      have hx := True.intro
      have hx := useA ho1 hx
      have hx := And.intro (show (((a0_p.Funcs.getD 0 default).Blocks).map Lt.Block.enc)[0]? = some (Lt.Block.enc (((a0_p.Funcs.getD 0 default).Blocks).getD 0 default)) from get_map Lt.Block.enc ((a0_p.Funcs.getD 0 default).Blocks) (by omega)) hx
      have hx := useA ho2.1 (useA ho2.2 hx)
      have hx := useA ho3 hx
      have hx := And.intro (show (((a0_p.Funcs.getD 0 default).Blocks).map Lt.Block.enc)[0]? = some (Lt.Block.enc (((a0_p.Funcs.getD 0 default).Blocks).getD 0 default)) from get_map Lt.Block.enc ((a0_p.Funcs.getD 0 default).Blocks) (by omega)) hx
      have hx := eqA (show (((a0_p.Funcs.getD 0 default).Blocks).map Lt.Block.enc).set 0 [.str ((((a0_p.Funcs.getD 0 default).Blocks).getD 0 default).Name), .li (((((a0_p.Funcs.getD 0 default).Blocks).getD 0 default).Phis).map Lt.Phi.enc), .li (((((a0_p.Funcs.getD 0 default).Blocks).getD 0 default).Code).map Lt.Instr.enc), .int .i64 (((((a0_p.Funcs.getD 0 default).Blocks).getD 0 default).End).Kind), .int .i64 ((((((a0_p.Funcs.getD 0 default).Blocks).getD 0 default).End).A).Kind), .str ((((((a0_p.Funcs.getD 0 default).Blocks).getD 0 default).End).A).S), .int .i64 ((((((a0_p.Funcs.getD 0 default).Blocks).getD 0 default).End).A).N), .li (([120] :: ((((a0_p.Funcs.getD 0 default).Blocks).getD 0 default).End).To).map rS.enc), .int .i64 (((((a0_p.Funcs.getD 0 default).Blocks).getD 0 default).End).N)] = ((((a0_p.Funcs.getD 0 default).Blocks).set 0 (Lt.Block.mk ((((a0_p.Funcs.getD 0 default).Blocks).getD 0 default).Name) ((((a0_p.Funcs.getD 0 default).Blocks).getD 0 default).Phis) ((((a0_p.Funcs.getD 0 default).Blocks).getD 0 default).Code) (Lt.Term.mk (((((a0_p.Funcs.getD 0 default).Blocks).getD 0 default).End).Kind) (((((a0_p.Funcs.getD 0 default).Blocks).getD 0 default).End).A) ([120] :: ((((a0_p.Funcs.getD 0 default).Blocks).getD 0 default).End).To) (((((a0_p.Funcs.getD 0 default).Blocks).getD 0 default).End).N))))).map Lt.Block.enc from by rw [List.map_set]; rfl) hx
      refine rgS [1, 2, 5, 6] [.gh 47, .gh 41] ?_
      iterate 11 refine stS ?_
      refine frS 47 ?_
      refine stS ?_
      refine enS ?_
      refine hK8 _ ?_
      apply AW_seq_k
      intro K9 hK9
      have hx := True.intro
      refine rgA [1, 2, 5, 6, 7] [] ?_
      iterate 3 refine stA ?_
      refine enA ?_
      refine hK9 _ ?_
      apply AW_seq_k
      intro K10 hK10
      have hx := True.intro
      refine rgA [1, 2, 5, 7] [.gh 39] ?_
      iterate 3 refine stA ?_
      refine enA ?_
      refine hK10 _ ?_
      apply AW_seq_k
      intro K11 hK11
      have hx := True.intro
      refine rgA [1, 2, 5, 7, 8] [] ?_
      iterate 3 refine stA ?_
      refine enA ?_
      refine hK11 _ ?_
      apply AW_seq_k
      intro K12 hK12
      obtain ⟨ho1, ho2, h⟩ := h
      have hx := True.intro
      have hx := useA ho1 hx
      have hx := useA ho2.1 (useA ho2.2 hx)
      refine dgT [1, 2, 5, 8] [.loc 7, .gh 56, .gh 60] (⟨[(1, .one (.c (.d (.str a1_name)))), (2, .one (.c (.pl ⟨.loc 2, 0, []⟩))), (5, .one (.c (.pl ⟨.loc 5, 0, []⟩))), (8, .one (.c (.pl ⟨.loc 8, 0, []⟩)))], [(.loc 8, ⟨true, [.d (.bool a0_p.SSA), .d (.li (a0_p.Classes.map Lt.Class.enc)), .d (.li (a0_p.Globals.map Lt.Var.enc)), .d (.li (a0_p.Externs.map Lt.Extern.enc)), .ow [.fr, .fr, .fr, .fr, .fr] (((Lt.Func.mk ((a0_p.Funcs.getD 0 default).Name) ((a0_p.Funcs.getD 0 default).Result) ((a0_p.Funcs.getD 0 default).Params) ((a0_p.Funcs.getD 0 default).Vars) (((a0_p.Funcs.getD 0 default).Blocks).set 0 (Lt.Block.mk ((((a0_p.Funcs.getD 0 default).Blocks).getD 0 default).Name) ((((a0_p.Funcs.getD 0 default).Blocks).getD 0 default).Phis) ((((a0_p.Funcs.getD 0 default).Blocks).getD 0 default).Code) (Lt.Term.mk (((((a0_p.Funcs.getD 0 default).Blocks).getD 0 default).End).Kind) (((((a0_p.Funcs.getD 0 default).Blocks).getD 0 default).End).A) ([120] :: ((((a0_p.Funcs.getD 0 default).Blocks).getD 0 default).End).To) (((((a0_p.Funcs.getD 0 default).Blocks).getD 0 default).End).N))))) :: ((a0_p.Funcs.drop 1).take (a0_p.Funcs.length - 1))).map Lt.Func.enc)]⟩), (.loc 5, ⟨true, [.d (.str ((a0_p.Funcs.getD 0 default).Name)), .d (.str ((a0_p.Funcs.getD 0 default).Result)), .d (.li (((a0_p.Funcs.getD 0 default).Params).map Lt.Var.enc)), .d (.li (((a0_p.Funcs.getD 0 default).Vars).map Lt.Var.enc)), .d (.li (((a0_p.Funcs.getD 0 default).Blocks).map Lt.Block.enc))]⟩), (.loc 2, ⟨true, [.d (.bool a0_p.SSA), .d (.li (a0_p.Classes.map Lt.Class.enc)), .d (.li (a0_p.Globals.map Lt.Var.enc)), .d (.li (a0_p.Externs.map Lt.Extern.enc)), .d (.li (a0_p.Funcs.map Lt.Func.enc))]⟩)]⟩) (True) (.take 0 [1, 5, 6, 7] false (.take 2 [] true (.two 1 (.take 3 [4, 5, 6, 7] false (.take 4 [] true (.one 5 (.take 6 [] true (.one 7 (.done)))))) 3 (.take 4 [] true (.one 1 (.one 5 (.take 6 [] true (.one 7 (.done))))))))) ?_ ?_
      · iterate 2 refine dtA ?_
        refine d2A ?_ ?_
        · iterate 2 refine dtA ?_
          refine doA ?_
          refine dtA ?_
          refine doA ?_
          exact dlT trivial
        · refine dtA ?_
          iterate 2 refine doA ?_
          refine dtA ?_
          refine doA ?_
          exact dlT trivial
      rintro hG0
      refine hK12 _ ?_
      apply AW_seq_k
      intro K13 hK13
      have hx := True.intro
      refine rgA [1, 2, 5, 8, 9] [] ?_
      iterate 3 refine stA ?_
      refine enA ?_
      refine hK13 _ ?_
      apply AW_seq_k
      intro K14 hK14
      obtain ⟨ho1, h⟩ := h
      have hx := True.intro
      have hx := useA ho1 hx
      refine rgA [2, 5, 8, 9] [] ?_
      iterate 4 refine stA ?_
      refine enA ?_
      refine hK14 _ ?_
      apply AW_seq_k
      intro K15 hK15
      have hx := True.intro
      refine rgA [2, 5, 8, 9, 10] [] ?_
      iterate 3 refine stA ?_
      refine enA ?_
      refine hK15 _ ?_
      apply AW_seq_k
      intro K16 hK16
      obtain ⟨ho1, ho2, h⟩ := h
      have hx := True.intro
      have hx := useA ho1 hx
      have hx := useA ho2.1 (useA ho2.2 hx)
      refine dgT [2, 5, 8, 10] [.loc 9, .gh 68, .gh 72] (⟨[(2, .one (.c (.pl ⟨.loc 2, 0, []⟩))), (5, .one (.c (.pl ⟨.loc 5, 0, []⟩))), (8, .one (.c (.pl ⟨.loc 8, 0, []⟩))), (10, .one (.c (.pl ⟨.loc 10, 0, []⟩)))], [(.loc 10, ⟨true, [.d (.bool a0_p.SSA), .d (.li (a0_p.Classes.map Lt.Class.enc)), .d (.li (a0_p.Globals.map Lt.Var.enc)), .d (.li (a0_p.Externs.map Lt.Extern.enc)), .ow [.fr, .fr, .fr, .fr, .fr] (((Lt.Func.mk (a1_name ++ [32]) ((a0_p.Funcs.getD 0 default).Result) ((a0_p.Funcs.getD 0 default).Params) ((a0_p.Funcs.getD 0 default).Vars) ((a0_p.Funcs.getD 0 default).Blocks)) :: ((a0_p.Funcs.drop 1).take (a0_p.Funcs.length - 1))).map Lt.Func.enc)]⟩), (.loc 8, ⟨true, [.d (.bool a0_p.SSA), .d (.li (a0_p.Classes.map Lt.Class.enc)), .d (.li (a0_p.Globals.map Lt.Var.enc)), .d (.li (a0_p.Externs.map Lt.Extern.enc)), .ow [.fr, .fr, .fr, .fr, .fr] (((Lt.Func.mk ((a0_p.Funcs.getD 0 default).Name) ((a0_p.Funcs.getD 0 default).Result) ((a0_p.Funcs.getD 0 default).Params) ((a0_p.Funcs.getD 0 default).Vars) (((a0_p.Funcs.getD 0 default).Blocks).set 0 (Lt.Block.mk ((((a0_p.Funcs.getD 0 default).Blocks).getD 0 default).Name) ((((a0_p.Funcs.getD 0 default).Blocks).getD 0 default).Phis) ((((a0_p.Funcs.getD 0 default).Blocks).getD 0 default).Code) (Lt.Term.mk (((((a0_p.Funcs.getD 0 default).Blocks).getD 0 default).End).Kind) (((((a0_p.Funcs.getD 0 default).Blocks).getD 0 default).End).A) ([120] :: ((((a0_p.Funcs.getD 0 default).Blocks).getD 0 default).End).To) (((((a0_p.Funcs.getD 0 default).Blocks).getD 0 default).End).N))))) :: ((a0_p.Funcs.drop 1).take (a0_p.Funcs.length - 1))).map Lt.Func.enc)]⟩), (.loc 5, ⟨true, [.d (.str ((a0_p.Funcs.getD 0 default).Name)), .d (.str ((a0_p.Funcs.getD 0 default).Result)), .d (.li (((a0_p.Funcs.getD 0 default).Params).map Lt.Var.enc)), .d (.li (((a0_p.Funcs.getD 0 default).Vars).map Lt.Var.enc)), .d (.li (((a0_p.Funcs.getD 0 default).Blocks).map Lt.Block.enc))]⟩), (.loc 2, ⟨true, [.d (.bool a0_p.SSA), .d (.li (a0_p.Classes.map Lt.Class.enc)), .d (.li (a0_p.Globals.map Lt.Var.enc)), .d (.li (a0_p.Externs.map Lt.Extern.enc)), .d (.li (a0_p.Funcs.map Lt.Func.enc))]⟩)]⟩) (True) (.take 0 [1, 5, 6, 7] false (.take 2 [] true (.two 1 (.take 3 [4, 5, 6, 7] false (.take 4 [] true (.one 5 (.take 6 [] true (.one 7 (.done)))))) 3 (.take 4 [] true (.one 1 (.one 5 (.take 6 [] true (.one 7 (.done))))))))) ?_ ?_
      · iterate 2 refine dtA ?_
        refine d2A ?_ ?_
        · iterate 2 refine dtA ?_
          refine doA ?_
          refine dtA ?_
          refine doA ?_
          exact dlT trivial
        · refine dtA ?_
          iterate 2 refine doA ?_
          refine dtA ?_
          refine doA ?_
          exact dlT trivial
      rintro hG0
      refine hK16 _ ?_
      apply AW_seq_k
      intro K17 hK17
      have hx := True.intro
      refine rgA [2, 8, 10, 11] [.loc 5] ?_
      iterate 3 refine stA ?_
      refine enA ?_
      refine hK17 _ ?_
      apply AW_seq_k
      intro K18 hK18
      have hx := True.intro
      refine rgA [2, 8, 10, 11] [] ?_
      iterate 2 refine stA ?_
      refine enA ?_
      refine hK18 _ ?_
      apply AW_seq_k
      intro K19 hK19
      have hx := True.intro
      refine rgA [2, 8, 10, 11, 12] [] ?_
      iterate 3 refine stA ?_
      refine enA ?_
      refine hK19 _ ?_
      apply AW_seq_k
      intro K20 hK20
      obtain ⟨ho1, ho2, h⟩ := h
      have hx := True.intro
      have hx := useA ho1 hx
      have hx := useA ho2.1 (useA ho2.2 hx)
      refine dgT [8, 10, 12] [.loc 11, .loc 2, .gh 78, .gh 82] (⟨[(8, .one (.c (.pl ⟨.loc 8, 0, []⟩))), (10, .one (.c (.pl ⟨.loc 10, 0, []⟩))), (12, .one (.c (.pl ⟨.loc 12, 0, []⟩)))], [(.loc 12, ⟨true, [.d (.bool a0_p.SSA), .d (.li (a0_p.Classes.map Lt.Class.enc)), .d (.li (a0_p.Globals.map Lt.Var.enc)), .d (.li (a0_p.Externs.map Lt.Extern.enc)), .ow [.fr, .fr, .fr, .fr, .fr] (((Lt.Func.mk ((a0_p.Funcs.getD 0 default).Name) ((a0_p.Funcs.getD 0 default).Result) ((a0_p.Funcs.getD 0 default).Params) ((a0_p.Funcs.getD 0 default).Vars) []) :: ((a0_p.Funcs.drop 1).take (a0_p.Funcs.length - 1))).map Lt.Func.enc)]⟩), (.loc 10, ⟨true, [.d (.bool a0_p.SSA), .d (.li (a0_p.Classes.map Lt.Class.enc)), .d (.li (a0_p.Globals.map Lt.Var.enc)), .d (.li (a0_p.Externs.map Lt.Extern.enc)), .ow [.fr, .fr, .fr, .fr, .fr] (((Lt.Func.mk (a1_name ++ [32]) ((a0_p.Funcs.getD 0 default).Result) ((a0_p.Funcs.getD 0 default).Params) ((a0_p.Funcs.getD 0 default).Vars) ((a0_p.Funcs.getD 0 default).Blocks)) :: ((a0_p.Funcs.drop 1).take (a0_p.Funcs.length - 1))).map Lt.Func.enc)]⟩), (.loc 8, ⟨true, [.d (.bool a0_p.SSA), .d (.li (a0_p.Classes.map Lt.Class.enc)), .d (.li (a0_p.Globals.map Lt.Var.enc)), .d (.li (a0_p.Externs.map Lt.Extern.enc)), .ow [.fr, .fr, .fr, .fr, .fr] (((Lt.Func.mk ((a0_p.Funcs.getD 0 default).Name) ((a0_p.Funcs.getD 0 default).Result) ((a0_p.Funcs.getD 0 default).Params) ((a0_p.Funcs.getD 0 default).Vars) (((a0_p.Funcs.getD 0 default).Blocks).set 0 (Lt.Block.mk ((((a0_p.Funcs.getD 0 default).Blocks).getD 0 default).Name) ((((a0_p.Funcs.getD 0 default).Blocks).getD 0 default).Phis) ((((a0_p.Funcs.getD 0 default).Blocks).getD 0 default).Code) (Lt.Term.mk (((((a0_p.Funcs.getD 0 default).Blocks).getD 0 default).End).Kind) (((((a0_p.Funcs.getD 0 default).Blocks).getD 0 default).End).A) ([120] :: ((((a0_p.Funcs.getD 0 default).Blocks).getD 0 default).End).To) (((((a0_p.Funcs.getD 0 default).Blocks).getD 0 default).End).N))))) :: ((a0_p.Funcs.drop 1).take (a0_p.Funcs.length - 1))).map Lt.Func.enc)]⟩)]⟩) (True) (.take 0 [1, 5, 6, 7] false (.take 2 [] true (.two 1 (.take 3 [4, 5, 6, 7] false (.take 4 [] true (.one 5 (.take 6 [] true (.one 7 (.done)))))) 3 (.take 4 [] true (.one 1 (.one 5 (.take 6 [] true (.one 7 (.done))))))))) ?_ ?_
      · iterate 2 refine dtA ?_
        refine d2A ?_ ?_
        · iterate 2 refine dtA ?_
          refine doA ?_
          refine dtA ?_
          refine doA ?_
          exact dlT trivial
        · refine dtA ?_
          iterate 2 refine doA ?_
          refine dtA ?_
          refine doA ?_
          exact dlT trivial
      rintro hG0
      refine hK20 _ ?_
      apply AW_seq_k
      intro K21 hK21
      have hx := True.intro
      refine rgV [] [.loc 12, .loc 10, .loc 8] 4 (.one (.c (.d (.bool (((!(Lt.showRight (Lt.Program.mk a0_p.SSA a0_p.Classes a0_p.Globals a0_p.Externs ((Lt.Func.mk ((a0_p.Funcs.getD 0 default).Name) ((a0_p.Funcs.getD 0 default).Result) ((a0_p.Funcs.getD 0 default).Params) ((a0_p.Funcs.getD 0 default).Vars) (((a0_p.Funcs.getD 0 default).Blocks).set 0 (Lt.Block.mk ((((a0_p.Funcs.getD 0 default).Blocks).getD 0 default).Name) ((((a0_p.Funcs.getD 0 default).Blocks).getD 0 default).Phis) ((((a0_p.Funcs.getD 0 default).Blocks).getD 0 default).Code) (Lt.Term.mk (((((a0_p.Funcs.getD 0 default).Blocks).getD 0 default).End).Kind) (((((a0_p.Funcs.getD 0 default).Blocks).getD 0 default).End).A) ([120] :: ((((a0_p.Funcs.getD 0 default).Blocks).getD 0 default).End).To) (((((a0_p.Funcs.getD 0 default).Blocks).getD 0 default).End).N))))) :: ((a0_p.Funcs.drop 1).take (a0_p.Funcs.length - 1)))))) && (!(Lt.showRight (Lt.Program.mk a0_p.SSA a0_p.Classes a0_p.Globals a0_p.Externs ((Lt.Func.mk (a1_name ++ [32]) ((a0_p.Funcs.getD 0 default).Result) ((a0_p.Funcs.getD 0 default).Params) ((a0_p.Funcs.getD 0 default).Vars) ((a0_p.Funcs.getD 0 default).Blocks)) :: ((a0_p.Funcs.drop 1).take (a0_p.Funcs.length - 1))))))) && (!(Lt.showRight (Lt.Program.mk a0_p.SSA a0_p.Classes a0_p.Globals a0_p.Externs ((Lt.Func.mk ((a0_p.Funcs.getD 0 default).Name) ((a0_p.Funcs.getD 0 default).Result) ((a0_p.Funcs.getD 0 default).Params) ((a0_p.Funcs.getD 0 default).Vars) []) :: ((a0_p.Funcs.drop 1).take (a0_p.Funcs.length - 1))))))))))) ?_ ?_
      · clear h
        iterate 4 refine stA ?_
        cases hb : (Lt.showRight (Lt.Program.mk a0_p.SSA a0_p.Classes a0_p.Globals a0_p.Externs ((Lt.Func.mk ((a0_p.Funcs.getD 0 default).Name) ((a0_p.Funcs.getD 0 default).Result) ((a0_p.Funcs.getD 0 default).Params) ((a0_p.Funcs.getD 0 default).Vars) (((a0_p.Funcs.getD 0 default).Blocks).set 0 (Lt.Block.mk ((((a0_p.Funcs.getD 0 default).Blocks).getD 0 default).Name) ((((a0_p.Funcs.getD 0 default).Blocks).getD 0 default).Phis) ((((a0_p.Funcs.getD 0 default).Blocks).getD 0 default).Code) (Lt.Term.mk (((((a0_p.Funcs.getD 0 default).Blocks).getD 0 default).End).Kind) (((((a0_p.Funcs.getD 0 default).Blocks).getD 0 default).End).A) ([120] :: ((((a0_p.Funcs.getD 0 default).Blocks).getD 0 default).End).To) (((((a0_p.Funcs.getD 0 default).Blocks).getD 0 default).End).N))))) :: ((a0_p.Funcs.drop 1).take (a0_p.Funcs.length - 1)))))
        · have hx := And.intro hb hx
          iterate 5 refine stA ?_
          cases hb : (Lt.showRight (Lt.Program.mk a0_p.SSA a0_p.Classes a0_p.Globals a0_p.Externs ((Lt.Func.mk (a1_name ++ [32]) ((a0_p.Funcs.getD 0 default).Result) ((a0_p.Funcs.getD 0 default).Params) ((a0_p.Funcs.getD 0 default).Vars) ((a0_p.Funcs.getD 0 default).Blocks)) :: ((a0_p.Funcs.drop 1).take (a0_p.Funcs.length - 1)))))
          · have hx := And.intro hb hx
            iterate 5 refine stA ?_
            exact lfA
          · have hx := And.intro hb hx
            iterate 5 refine stA ?_
            exact lfA
        · have hx := And.intro hb hx
          iterate 10 refine stA ?_
          exact lfA
      · refine hK21 _ ?_
        apply AW_ret
        exact fiA (hKK _ h)

end Go.Am
end
