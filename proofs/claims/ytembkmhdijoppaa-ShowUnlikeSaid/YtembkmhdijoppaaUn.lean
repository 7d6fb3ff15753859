/-
  ShowUnlike: whatever two programs there are: if both can be shown, their texts are the same just if the programs are. No condition: every input within the form's reach.
-/
import Derived.Test.YtembkmhdijoppaaUn14
import Derived.Test.YtembkmhdijoppaaRows
import Derived.JoinedOf
import Derived.JoinedAt
set_option linter.unusedSimpArgs false
set_option linter.unusedVariables false
set_option linter.unusedSectionVars false
set_option linter.unnecessarySimpa false
section
namespace Go.Proofs.Ytembkmhdijoppaa
open Go.ChangeShapes Go.WideShapes Go.ChangeAt Go.RowKit Go.Am
open Go.ChangeMaps (open_string)

theorem am_inR {n : Int} (h : okI .i64 n) : Lt.inR n := by
  unfold okI at h
  simp only [Lit.wf, Bool.and_eq_true, decide_eq_true_eq] at h
  have h1 : IntKind.i64.min = -9223372036854775808 := by decide
  have h2 : IntKind.i64.max = 9223372036854775807 := by decide
  rw [h1, h2] at h
  exact ⟨h.1, by omega⟩

theorem am_arg {a : Lt.Arg} (h : a.okr) : a.ok := am_inR h.2.2
theorem am_instr {i : Lt.Instr} (h : i.okr) : i.ok :=
  ⟨fun a ha => am_arg (h.2.2.2.1.2 a ha), fun f hf => ⟨by have := (h.2.2.2.2.1.2 f hf).2.2.2.1; omega, fun b hb => am_arg ((h.2.2.2.2.1.2 f hf).2.2.2.2 b hb).2⟩, fun o ho a ha => am_arg ((h.2.2.2.2.2.2 o ho).2.2 a ha)⟩
theorem am_phi {x : Lt.Phi} (h : x.okr) : x.ok := ⟨by have := h.2.1; omega, fun i hi => am_arg (h.2.2 i hi).2⟩
theorem am_term {t : Lt.Term} (h : t.okr) : t.ok := ⟨am_arg h.2.1, am_inR h.2.2.2⟩
theorem am_block {b : Lt.Block} (h : b.okr) : b.ok := ⟨fun x hx => am_phi (h.2.1.2 x hx), fun i hi => am_instr (h.2.2.1.2 i hi), am_term h.2.2.2⟩
theorem am_prog {p : Lt.Program} (h : p.okr) : p.ok := fun f hf b hb => am_block (((h.2.2.2.2.2 f hf).2.2.2.2.2) b hb)

theorem am_own : ownKnob Try.prog.godebug = none := by kernel_rfl
theorem am_laidOut : laidOutB Try.prog = true := by kernel_rfl

set_option maxRecDepth 100000 in
theorem unlike_lifted (os : Os) (started : os.Started) (H : Type) (enc : TypeId × Value → H) :
    ReturnsInHanded {} Try.checked os 4 .any (Rows.showUnlikeSpec.pre6 enc Try.prog Try.f4 Rows.showUnlikeRow.domain false) (Rows.showUnlikeSpec.post enc Try.prog Try.f4 false true false false) := by
  refine returnsInHanded_of_change_sized (C := Try.checked) am_own started (by kernel_rfl) Try.func4
    (ChangeSpec.witness6 (enc := enc) (C := Try.checked) false ⟨#[], #[.agg #[.bool false, .slice none 0 0, .slice none 0 0, .slice none 0 0, .slice none 0 0], .agg #[.bool false, .slice none 0 0, .slice none 0 0, .slice none 0 0, .slice none 0 0]], []⟩ 8 (by kernel_rfl) (by kernel_rfl) (by kernel_rfl) (by kernel_rfl)) ?_
  intro W base args ds gs before hval0 hW _ hsz0 _
  have hsz : (DataW.weightsEach Try.prog (Try.f4.params.toList ++ Rows.showUnlikeSpec.plain.varTypes Try.prog) (ds ++ gs)).all (· ≤ reachBytes) = true := hsz0
  clear hsz0
  have hval : ∀ (j : Nat) t v, Try.f4.params[j]? = some t → args[j]? = some v → Value.okWide Try.prog W .any base t v := hval0
  have hW' := hW
  obtain ⟨p, q, hA0, hV, rfl, _, _⟩ := hW
  have hA : DataW.TrodAll enc Try.prog W 0 (fun _ => true) true Try.f4.params.toList args.toList ds p := hA0
  have hlt : ∀ x ∈ p ++ q, x.block < W.heap.size := hW'.lt
  rw [Try.params4] at hA hval hsz
  obtain ⟨v0, v1, d0, d1, p0, p1, rfl, rfl, rfl, h0, h1⟩ := trodAll_two hA
  obtain ⟨rfl, rfl⟩ := trodVars_none hV
  have h0k := h0
  have h1k := h1
  obtain ⟨cs, hv0, _⟩ := okWide_struct Try.underlying27 (hval 0 27 v0 rfl rfl)
  obtain ⟨cs1, hv1, _⟩ := okWide_struct Try.underlying27 (hval 1 27 v1 rfl rfl)
  clear hA0 hval0
  simp only [List.append_nil] at hW' hlt
  obtain ⟨fuel, htr⟩ := h0
  obtain ⟨pr, hok, hr, hl⟩ := Reads_Program W H enc fuel _ _ htr (fun n hn => by
    have := List.all_eq_true.1 hsz n (DataW.weights_mem_each (j := 0) (t := 27) (d := d0) rfl rfl n hn)
    simpa using this)
  obtain ⟨fuel1, htr1⟩ := h1
  obtain ⟨qr, hok1, hr1, hl1⟩ := Reads_Program W H enc fuel1 _ _ htr1 (fun n hn => by
    have := List.all_eq_true.1 hsz n (DataW.weights_mem_each (j := 1) (t := 27) (d := d1) rfl rfl n hn)
    simpa using this)
  have hpre : Lt.preUnlike pr qr := ⟨am_prog hok, am_prog hok1⟩
  have hcall := Calls_walk (P := Try.prog) (f := 4) (fn := Try.f4) (c := Try.f4.body.getD .skip) Try.func4 (by kernel_rfl) [v0, v1] [.one ((cA Lt.Program.rw).enc pr), .one ((cA Lt.Program.rw).enc qr)] W (show 2 ≤ Try.f4.ntmps by decide +kernel) rfl
    (fun i v hi => by
      match i, hi with
      | 0, hi => simp only [List.getElem?_cons_zero, Option.some.injEq] at hi; subst hi; exact ⟨v0, rfl, AR_struct hv0 hr hl⟩
      | 1, hi => simp only [List.getElem?_cons_succ, List.getElem?_cons_zero, Option.some.injEq] at hi; subst hi; exact ⟨v1, rfl, AR_struct hv1 hr1 hl1⟩
      | i + 2, hi => simp at hi)
    (fun r => r = o1 cB true)
    (fun g hg => walk_ShowUnlike g hg pr qr _ (fun r => r = true) (fun r h => by rw [h]) (law_ShowUnlike pr qr hpre _ rfl))
  refine hcall.mono fun e W' ⟨v, r, H', γ', m', he, hr', har, hb⟩ => ?_
  subst he; subst hr'
  obtain rfl := AR_true har
  refine ⟨_, rfl, _, _, _, [], p0 ++ p1, [], hW', ?_, ?_, rfl, hb.frame _, fun h => by cases h⟩
  · exact trodAll_mk1 (shut_bool Try.underlying4 true)
  · exact trodAll_mk2 (Below.trod am_laidOut (by kernel_rfl) (of_decide_eq_true (by kernel_rfl)) h0k hb (fun x hx => hlt x (List.mem_append_left _ hx))) (Below.trod am_laidOut (by kernel_rfl) (of_decide_eq_true (by kernel_rfl)) h1k hb (fun x hx => hlt x (List.mem_append_right _ hx)))

theorem unlike_holds : Rows.ShowUnlikeSaid :=
  OpenClaim.holds_of_wide 4 Try.f4 rfl rfl rfl rfl rfl rfl rfl ⟨rfl, rfl, rfl, rfl, rfl⟩ rfl rfl rfl rfl rfl (by kernel_rfl) Try.func4 (by kernel_rfl)
    (of_decide_eq_true (by kernel_rfl)) (by unfold Func.isWrapper; first | (rw [if_pos (by decide +kernel)]; kernel_rfl) | (rw [if_neg (by decide +kernel)]; exact ⟨rfl, rfl⟩))
    (fun os started H enc _ => unlike_lifted os started H enc)

#print axioms unlike_holds
end Go.Proofs.Ytembkmhdijoppaa
end
