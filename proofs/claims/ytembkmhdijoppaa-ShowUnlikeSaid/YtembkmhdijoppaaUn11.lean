/-
  Part 11: AmLaw3 · AmLaw4 · AmLaw5 · AmLaw6 · AmLaw7 · AmLaw8 · AmJoinW.
-/
import Derived.Test.YtembkmhdijoppaaUn10
set_option linter.unusedSimpArgs false
set_option linter.unusedVariables false
set_option linter.unusedSectionVars false
set_option linter.unnecessarySimpa false
section
namespace Go.Am
open Go
set_option linter.unusedVariables false
set_option linter.unusedSimpArgs false

theorem len0 {α : Type} (l : List α) : ((l.length : Int) = 0) = (l = []) := by
  cases l <;> simp
  omega

theorem law_phi (x : Lt.Phi) (KK : Bool → Prop) (h : KK (Lt.phi x)) : F_phi x KK := by
  unfold F_phi
  split
  · rename_i hc
    have e : Lt.phi x = false := by
      unfold Lt.phi
      simp only [Bool.or_eq_true, decide_eq_true_eq, Bool.not_eq_true', len0] at hc
      rcases hc with (hc | hc) | hc
      · simp [hc]
      · simp [hc]
      · have : ¬ x.Ins.length ≤ 256 := by omega
        simp [this]
    rw [e] at h; exact h
  · rename_i hc
    have e : Lt.phi x = (x.Ins.all Lt.inRight && true) := by
      unfold Lt.phi
      simp only [Bool.or_eq_true, decide_eq_true_eq, Bool.not_eq_true', not_or, Bool.not_eq_false, len0] at hc
      obtain ⟨⟨h1, h2⟩, h3⟩ := hc
      have h3' : x.Ins.length ≤ 256 := by omega
      simp [h1, h2, h3']
    rw [e] at h
    intro hl
    refine all_loop x.Ins hl _ true KK (fun n i => F_phi_l2 x KK n i) (fun n i hi ih hF => ?_) (fun n h => ?_) h
    · simp only [F_phi_l2, lt_t hi, if_true, Int.toNat_natCast, args1]
      refine ⟨⟨Int.natCast_nonneg i, hi⟩, ?_⟩
      unfold Lt.inRight at ih hF
      split
      · rename_i hc
        refine hF ?_
        revert hc
        cases Lt.Name _ <;> cases Lt.argRight _ _ <;> simp
      · rename_i hc
        refine ih ?_
        revert hc
        cases Lt.Name _ <;> cases Lt.argRight _ _ <;> simp
    · simp only [F_phi_l2, lt_f, Bool.false_eq_true, if_false]; exact h

theorem noArg_eq (a : Lt.Arg) : (decide (a.Kind = 0) && (decide (a.S = ([] : List UInt8)) && decide (a.N = 0))) = Lt.noArg a := by
  obtain ⟨k, s, n⟩ := a
  simp only [Lt.noArg, Lt.Arg.mk.injEq]
  by_cases h1 : k = 0 <;> by_cases h2 : s = [] <;> by_cases h3 : n = 0 <;> simp [h1, h2, h3]

theorem lenN {α : Type} (l : List α) (k : Nat) : decide ((l.length : Int) = (k : Int)) = decide (l.length = k) := by
  exact decide_eq_decide.2 ⟨by omega, by omega⟩

theorem law_showEnd (t : Lt.Term) (KK : Bool → Prop) (h : KK (Lt.showEnd t)) : F_showEnd t KK := by
  unfold F_showEnd
  intro hl
  unfold Lt.showEnd at h
  refine all_loop t.To hl _ _ KK (fun n i => F_showEnd_l2 t KK n i) (fun n i hi ih hF => ?_) (fun n h => ?_) h
  · simp only [F_showEnd_l2, lt_t hi, if_true, Int.toNat_natCast]
    refine ⟨⟨Int.natCast_nonneg i, hi⟩, ?_⟩
    split
    · rename_i hc; exact hF (by simpa using hc)
    · rename_i hc; exact ih (by simpa using hc)
  · simp only [F_showEnd_l2, lt_f, Bool.false_eq_true, if_false, F_showEnd_j1, noArg_eq, args1, decide_eq_true_eq]
    simp only [apply_ite KK] at h
    have e1 : decide ((t.To.length : Int) = 1) = decide (t.To.length = 1) := decide_eq_decide.2 ⟨by omega, by omega⟩
    have e2 : decide ((t.To.length : Int) = 2) = decide (t.To.length = 2) := decide_eq_decide.2 ⟨by omega, by omega⟩
    have e0 : decide ((t.To.length : Int) = 0) = decide (t.To.length = 0) := decide_eq_decide.2 ⟨by omega, by omega⟩
    rw [e1, e2, e0]
    exact h

theorem law_instr (x : Lt.Instr) (KK : Bool → Prop) (h : KK (Lt.instr x)) : F_instr x KK := by
  unfold F_instr
  split
  · rename_i hc
    have e : Lt.instr x = false := by
      unfold Lt.instr
      simp only [Bool.or_eq_true, Bool.not_eq_true', Bool.and_eq_true] at hc
      rcases hc with (((hc | hc) | hc) | hc) | hc
      · simp [hc]
      · rw [hc]; simp
      · rw [hc]; simp
      · rw [hc.1, hc.2]; simp
      · rw [hc.1, hc.2]; simp
    rw [e] at h; exact h
  · rename_i hA
    split
    · rename_i hc
      have e : Lt.instr x = false := by
        unfold Lt.instr
        simp only [Bool.or_eq_true, decide_eq_true_eq, Bool.not_eq_true'] at hc
        rcases hc with (((hc | hc) | hc) | hc) | hc
        · have : ¬ (Lt.Of x.Op).1.Least ≤ (x.Args.length : Int) := by omega
          simp [this]
        · have : ¬ (x.Args.length : Int) ≤ (Lt.Of x.Op).1.Most := by omega
          simp [this]
        · simp [hc]
        · have : ¬ x.Frames.length ≤ 16 := by omega
          simp [this]
        · have : ¬ x.Objs.length ≤ 99 := by omega
          simp [this]
      rw [e] at h; exact h
    · rename_i hB
      have e : Lt.instr x = (if x.Op ≠ 31 ∧ x.Op ≠ 34 then decide (x.Frames = []) && decide (x.Objs = []) else x.Frames.all Lt.frame && x.Objs.all Lt.virt) := by
        unfold Lt.instr
        have eA : ((Lt.Of x.Op).2 && ((Lt.Of x.Op).1.Dst == !decide (x.Dst = [])) && ((Lt.Of x.Op).1.Named == !decide (x.Name = [])) && !((Lt.Of x.Op).1.Dst && !Lt.Name x.Dst) && !((Lt.Of x.Op).1.Named && !Lt.Name x.Name)) = true := by
          revert hA
          cases (Lt.Of x.Op).2 <;> cases ((Lt.Of x.Op).1.Dst == !decide (x.Dst = [])) <;> cases ((Lt.Of x.Op).1.Named == !decide (x.Name = [])) <;> cases ((Lt.Of x.Op).1.Dst && !Lt.Name x.Dst) <;> cases ((Lt.Of x.Op).1.Named && !Lt.Name x.Name) <;> simp
        have eB : (decide ((Lt.Of x.Op).1.Least ≤ (x.Args.length : Int)) && decide ((x.Args.length : Int) ≤ (Lt.Of x.Op).1.Most) && Lt.showArgs x.Args false && decide (x.Frames.length ≤ 16) && decide (x.Objs.length ≤ 99)) = true := by
          simp only [Bool.or_eq_true, decide_eq_true_eq, Bool.not_eq_true', not_or, Bool.not_eq_false] at hB
          obtain ⟨⟨⟨⟨h1, h2⟩, h3⟩, h4⟩, h5⟩ := hB
          simp only [Bool.and_eq_true, decide_eq_true_eq]
          exact ⟨⟨⟨⟨by omega, by omega⟩, h3⟩, by omega⟩, by omega⟩
        rw [eA, eB, Bool.true_and, Bool.true_and]
      rw [e] at h
      split
      · rename_i hc
        have hc' : x.Op ≠ 31 ∧ x.Op ≠ 34 := by simpa using hc
        rw [if_pos hc'] at h
        simp only [len0]
        exact h
      · rename_i hc
        have hc' : ¬ (x.Op ≠ 31 ∧ x.Op ≠ 34) := by
          intro hh
          exact hc (by simp [hh.1, hh.2])
        rw [if_neg hc'] at h
        intro hl
        refine all_loop x.Frames hl _ _ KK (fun n i => F_instr_l4 x KK n i) (fun n i hi ih hF => ?_) (fun n h => ?_) h
        · simp only [F_instr_l4, lt_t hi, if_true, Int.toNat_natCast]
          refine ⟨⟨Int.natCast_nonneg i, hi⟩, ?_⟩
          split
          · rename_i hc; exact hF (by simpa using hc)
          · rename_i hc; exact ih (by simpa using hc)
        · simp only [F_instr_l4, lt_f, Bool.false_eq_true, if_false, F_instr_j1]
          intro hl2
          rw [show x.Objs.all Lt.virt = (x.Objs.all Lt.virt && true) by simp] at h
          refine all_loop x.Objs hl2 _ _ KK (fun n i => F_instr_l3 x KK n i) (fun n i hi ih hF => ?_) (fun n h => ?_) h
          · simp only [F_instr_l3, lt_t hi, if_true, Int.toNat_natCast]
            refine ⟨⟨Int.natCast_nonneg i, hi⟩, ?_⟩
            unfold Lt.virt at ih hF
            have e8 : decide ((8 : Int) < (((x.Objs.getD i default).Vals.length : Nat) : Int)) = !decide ((x.Objs.getD i default).Vals.length ≤ 8) := by
              by_cases h8 : (x.Objs.getD i default).Vals.length ≤ 8
              · have : ¬ (8 : Int) < (((x.Objs.getD i default).Vals.length : Nat) : Int) := by omega
                simp only [h8, this, decide_true, decide_false, Bool.not_true]
              · have : (8 : Int) < (((x.Objs.getD i default).Vals.length : Nat) : Int) := by omega
                simp only [h8, this, decide_true, decide_false, Bool.not_false]
            rw [e8]
            split
            · rename_i hc
              refine hF ?_
              revert hc
              cases Lt.Name _ <;> cases Lt.showArgs _ _ <;> cases decide (List.length _ ≤ 8) <;> simp
            · rename_i hc
              refine ih ?_
              revert hc
              cases Lt.Name _ <;> cases Lt.showArgs _ _ <;> cases decide (List.length _ ≤ 8) <;> simp
          · simp only [F_instr_l3, lt_f, Bool.false_eq_true, if_false, F_instr_j2]; exact h

theorem law_block (b : Lt.Block) (KK : Bool → Prop) (h : KK (Lt.block b)) : F_block b KK := by
  unfold F_block
  split
  · rename_i hc
    have e : Lt.block b = false := by
      unfold Lt.block
      revert hc
      cases Lt.Name b.Name <;> cases Lt.showEnd b.End <;> simp
    rw [e] at h; exact h
  · rename_i hc
    have e : Lt.block b = (b.Phis.all Lt.phi && b.Code.all Lt.instr) := by
      unfold Lt.block
      revert hc
      cases Lt.Name b.Name <;> cases Lt.showEnd b.End <;> simp
    rw [e] at h
    intro hl
    refine all_loop b.Phis hl _ _ KK (fun n i => F_block_l4 b KK n i) (fun n i hi ih hF => ?_) (fun n h => ?_) h
    · simp only [F_block_l4, lt_t hi, if_true, Int.toNat_natCast]
      refine ⟨⟨Int.natCast_nonneg i, hi⟩, ?_⟩
      split
      · rename_i hc; exact hF (by simpa using hc)
      · rename_i hc; exact ih (by simpa using hc)
    · simp only [F_block_l4, lt_f, Bool.false_eq_true, if_false, F_block_j1]
      intro hl2
      rw [show b.Code.all Lt.instr = (b.Code.all Lt.instr && true) by simp] at h
      refine all_loop b.Code hl2 _ _ KK (fun n i => F_block_l3 b KK n i) (fun n i hi ih hF => ?_) (fun n h => ?_) h
      · simp only [F_block_l3, lt_t hi, if_true, Int.toNat_natCast]
        refine ⟨⟨Int.natCast_nonneg i, hi⟩, ?_⟩
        split
        · rename_i hc; exact hF (by simpa using hc)
        · rename_i hc; exact ih (by simpa using hc)
      · simp only [F_block_l3, lt_f, Bool.false_eq_true, if_false, F_block_j2]; exact h

theorem law_showFunction (f : Lt.Func) (KK : Bool → Prop) (h : KK (Lt.showFunction f)) : F_showFunction f KK := by
  unfold F_showFunction
  split
  · rename_i hc
    have e : Lt.showFunction f = false := by
      unfold Lt.showFunction
      simp only [Bool.or_eq_true, decide_eq_true_eq, Bool.not_eq_true', len0] at hc
      rcases hc with ((((hc | hc) | hc) | hc) | hc) | hc
      · simp [hc]
      · simp [hc]
      · simp [hc]
      · simp [hc]
      · simp [hc]
      · have : ¬ f.Blocks.length ≤ 256 := by omega
        simp [this]
    rw [e] at h; exact h
  · rename_i hc
    simp only [Bool.or_eq_true, decide_eq_true_eq, Bool.not_eq_true', not_or, Bool.not_eq_false, len0] at hc
    obtain ⟨⟨⟨⟨⟨h1, h2⟩, h3⟩, h4⟩, h5⟩, h6⟩ := hc
    have h6' : f.Blocks.length ≤ 256 := by omega
    have e : Lt.showFunction f = Lt.blocks f.Blocks 0 := by
      unfold Lt.showFunction
      simp [h1, h2, h3, h4, h5, h6']
    rw [e] at h
    intro hl
    refine drop_loop (β := Nat) f.Blocks hl (fun t b => decide (b ≤ 1024) && Lt.blocks t b) KK (fun n b i => b ≤ 1024 → F_showFunction_l2 f KK n (b : Int) i) (fun n b i hi ih h hb => ?_) (fun n b h hb => ?_) 0 (by simpa using h) |>.imp (fun n hn => hn (by omega))
    · simp only [F_showFunction_l2, lt_t hi, if_true, Int.toNat_natCast]
      refine ⟨⟨Int.natCast_nonneg i, hi⟩, ?_⟩
      simp only [hb, decide_true, Bool.true_and, Lt.blocks] at h
      split
      · rename_i hc
        simp only [Bool.or_eq_true, decide_eq_true_eq] at hc
        have : ¬ b + ((f.Blocks.getD i default).Phis.length + (f.Blocks.getD i default).Code.length) ≤ 1024 := by omega
        simp only [this, decide_false, Bool.false_and] at h
        exact h
      · rename_i hc
        simp only [Bool.or_eq_true, decide_eq_true_eq, not_or] at hc
        intro _ _
        have w1 : IntKind.i64.wrap (((f.Blocks.getD i default).Phis.length : Int) + ((f.Blocks.getD i default).Code.length : Int)) = (((f.Blocks.getD i default).Phis.length + (f.Blocks.getD i default).Code.length : Nat) : Int) := by rw [wrap_small (by omega) (by omega)]; omega
        have w2 : IntKind.i64.wrap ((b : Int) + (((f.Blocks.getD i default).Phis.length + (f.Blocks.getD i default).Code.length : Nat) : Int)) = ((b + ((f.Blocks.getD i default).Phis.length + (f.Blocks.getD i default).Code.length) : Nat) : Int) := by rw [wrap_small (by omega) (by omega)]; omega
        simp only [w1, w2]
        split
        · rename_i hc2
          simp only [Bool.or_eq_true, decide_eq_true_eq, Bool.not_eq_true'] at hc2
          have hf : (decide (b + ((f.Blocks.getD i default).Phis.length + (f.Blocks.getD i default).Code.length) ≤ 1024) && Lt.block (f.Blocks.getD i default)) = false := by
            rcases hc2 with hc2 | hc2
            · have : ¬ b + ((f.Blocks.getD i default).Phis.length + (f.Blocks.getD i default).Code.length) ≤ 1024 := by omega
              simp only [this, decide_false, Bool.false_and]
            · have hc3 : Lt.block (f.Blocks.getD i default) = false := hc2
              simp only [hc3, Bool.and_false]
          rw [hf] at h
          exact h
        · rename_i hc2
          simp only [Bool.or_eq_true, decide_eq_true_eq, Bool.not_eq_true', not_or, Bool.not_eq_false] at hc2
          have hle : b + ((f.Blocks.getD i default).Phis.length + (f.Blocks.getD i default).Code.length) ≤ 1024 := by omega
          refine ih _ ?_ hle
          have hc3 : Lt.block (f.Blocks.getD i default) = true := hc2.2
          simp only [hle, decide_true, Bool.true_and, hc3] at h ⊢
          exact h
    · simp only [F_showFunction_l2, lt_f, Bool.false_eq_true, if_false, F_showFunction_j1]
      simp only [hb, decide_true, Bool.true_and, Lt.blocks] at h
      exact h

theorem law_showRight (p : Lt.Program) (KK : Bool → Prop) (h : KK (Lt.showRight p)) : F_showRight p KK := by
  unfold F_showRight
  split
  · rename_i hc
    have e : Lt.showRight p = false := by
      unfold Lt.showRight
      simp only [Bool.or_eq_true, decide_eq_true_eq, Bool.not_eq_true'] at hc
      rcases hc with ((hc | hc) | hc) | hc
      · have : ¬ p.Classes.length ≤ 8 := by omega
        simp [this]
      · have : ¬ p.Externs.length ≤ 8 := by omega
        simp [this]
      · have : ¬ p.Funcs.length ≤ 8 := by omega
        simp [this]
      · simp [hc]
    rw [e] at h; exact h
  · rename_i hc
    simp only [Bool.or_eq_true, decide_eq_true_eq, Bool.not_eq_true', not_or, Bool.not_eq_false] at hc
    obtain ⟨⟨⟨h1, h2⟩, h3⟩, h4⟩ := hc
    have e : Lt.showRight p = (p.Classes.all Lt.classRight && (p.Externs.all Lt.externRight && p.Funcs.all Lt.showFunction)) := by
      unfold Lt.showRight
      have h1' : p.Classes.length ≤ 8 := by omega
      have h2' : p.Externs.length ≤ 8 := by omega
      have h3' : p.Funcs.length ≤ 8 := by omega
      simp only [h1', h2', h3', h4, decide_true, Bool.true_and]
    rw [e] at h
    intro hl
    refine all_loop p.Classes hl _ _ KK (fun n i => F_showRight_l6 p KK n i) (fun n i hi ih hF => ?_) (fun n h => ?_) h
    · simp only [F_showRight_l6, lt_t hi, if_true, Int.toNat_natCast]
      refine ⟨⟨Int.natCast_nonneg i, hi⟩, ?_⟩
      unfold Lt.classRight at ih hF
      split
      · rename_i hc; refine hF ?_; revert hc
        cases Lt.Name _ <;> cases Lt.typed _ _ <;> simp
      · rename_i hc; refine ih ?_; revert hc
        cases Lt.Name _ <;> cases Lt.typed _ _ <;> simp
    · simp only [F_showRight_l6, lt_f, Bool.false_eq_true, if_false, F_showRight_j1]
      intro hl2
      refine all_loop p.Externs hl2 _ _ KK (fun n i => F_showRight_l5 p KK n i) (fun n i hi ih hF => ?_) (fun n h => ?_) h
      · simp only [F_showRight_l5, lt_t hi, if_true, Int.toNat_natCast]
        refine ⟨⟨Int.natCast_nonneg i, hi⟩, ?_⟩
        unfold Lt.externRight at ih hF
        split
        · rename_i hc
          refine hF ?_
          simp only [Bool.or_eq_true, decide_eq_true_eq, Bool.not_eq_true'] at hc
          rcases hc with (hc | hc) | hc
          · rw [hc]; rfl
          · have : ¬ 0 ≤ (p.Externs.getD i default).N := by omega
            simp only [this, decide_false, Bool.and_false, Bool.false_and]
          · have : ¬ (p.Externs.getD i default).N ≤ 8 := by omega
            simp only [this, decide_false, Bool.and_false, Bool.false_and]
        · rename_i hc
          refine ih ?_
          simp only [Bool.or_eq_true, decide_eq_true_eq, Bool.not_eq_true', not_or, Bool.not_eq_false] at hc
          obtain ⟨⟨g1, g2⟩, g3⟩ := hc
          simp only [Bool.and_eq_true, decide_eq_true_eq]
          exact ⟨⟨g1, by omega⟩, by omega⟩
      · simp only [F_showRight_l5, lt_f, Bool.false_eq_true, if_false, F_showRight_j2]
        intro hl3
        rw [show p.Funcs.all Lt.showFunction = (p.Funcs.all Lt.showFunction && true) by simp] at h
        refine all_loop p.Funcs hl3 _ _ KK (fun n i => F_showRight_l4 p KK n i) (fun n i hi ih hF => ?_) (fun n h => ?_) h
        · simp only [F_showRight_l4, lt_t hi, if_true, Int.toNat_natCast]
          refine ⟨⟨Int.natCast_nonneg i, hi⟩, ?_⟩
          split
          · rename_i hc; exact hF (by simpa using hc)
          · rename_i hc; exact ih (by simpa using hc)
        · simp only [F_showRight_l4, lt_f, Bool.false_eq_true, if_false, F_showRight_j3]; exact h
end Go.Am
end

section
namespace Go.Am
open Go
set_option linter.unusedVariables false
set_option linter.unusedSimpArgs false

theorem Of_most (op : Int) : (Lt.Of op).1.Most ≤ 8 := by
  unfold Lt.Of
  simp only [apply_ite Prod.fst, apply_ite Lt.Form.Most]
  repeat' split
  all_goals omega

theorem Of_least {op : Int} (h : op = 26 ∨ op = 27) : 1 ≤ (Lt.Of op).1.Least := by
  rcases h with rfl | rfl <;> decide

structure InstrOk (i : Lt.Instr) : Prop where
  args : i.Args.length ≤ 8
  frames : i.Frames.length ≤ 16
  objs : i.Objs.length ≤ 99
  fr : ∀ f ∈ i.Frames, Lt.frame f = true
  ob : ∀ o ∈ i.Objs, Lt.virt o = true
  least : i.Op = 26 ∨ i.Op = 27 → 1 ≤ i.Args.length
  aok : Lt.showArgs i.Args false = true
  of : (Lt.Of i.Op).2 = true
  dst : (Lt.Of i.Op).1.Dst = !decide (i.Dst = [])
  nm : (Lt.Of i.Op).1.Named = !decide (i.Name = [])
  dstN : (Lt.Of i.Op).1.Dst = true → Lt.Name i.Dst = true
  nmN : (Lt.Of i.Op).1.Named = true → Lt.Name i.Name = true
  lo : (Lt.Of i.Op).1.Least ≤ (i.Args.length : Int)
  hi : (i.Args.length : Int) ≤ (Lt.Of i.Op).1.Most
  none : i.Op ≠ 31 ∧ i.Op ≠ 34 → i.Frames = [] ∧ i.Objs = []

theorem instr_ok {i : Lt.Instr} (h : Lt.instr i = true) : InstrOk i := by
  unfold Lt.instr at h
  simp only [Bool.and_eq_true, decide_eq_true_eq, beq_iff_eq, Bool.not_eq_true', Bool.and_eq_false_iff] at h
  obtain ⟨⟨⟨⟨⟨⟨h1, h2⟩, h3⟩, h4⟩, h5⟩, ⟨⟨⟨h6, h7⟩, h8⟩, h9⟩, h10⟩, h11⟩ := h
  have hm := Of_most i.Op
  have hfo : (∀ f ∈ i.Frames, Lt.frame f = true) ∧ (∀ o ∈ i.Objs, Lt.virt o = true) := by
    split at h11
    · simp only [Bool.and_eq_true, decide_eq_true_eq] at h11
      rw [h11.1, h11.2]; simp
    · simpa [List.all_eq_true] using h11
  refine ⟨by omega, h9, h10, hfo.1, hfo.2, fun ho => ?_, h8, h1, h2, h3, fun hd => ?_, fun hd => ?_, h6, h7, fun ho => ?_⟩
  · have := Of_least ho
    omega
  · rcases h4 with h4 | h4
    · rw [h4] at hd; cases hd
    · simpa using h4
  · rcases h5 with h5 | h5
    · rw [h5] at hd; cases hd
    · simpa using h5
  · rw [if_pos ho] at h11
    simpa using h11

theorem frame_ok {f : Lt.Frame} (h : Lt.frame f = true) : Lt.Name f.Func = true ∧ Lt.Name f.Block = true ∧ 0 ≤ f.At ∧ f.At ≤ 1024 ∧ f.Vars.length ≤ 16 ∧ ∀ b ∈ f.Vars, Lt.bindRight b = true := by
  unfold Lt.frame at h
  simp only [Bool.and_eq_true, decide_eq_true_eq, List.all_eq_true] at h
  obtain ⟨⟨⟨⟨⟨h1, h2⟩, h3⟩, h4⟩, h5⟩, h6⟩ := h
  exact ⟨h1, h2, h3, h4, h5, h6⟩

theorem virt_ok {o : Lt.Virt} (h : Lt.virt o = true) : Lt.Name o.Class = true ∧ o.Vals.length ≤ 8 ∧ Lt.showArgs o.Vals true = true := by
  unfold Lt.virt at h
  simp only [Bool.and_eq_true, decide_eq_true_eq] at h
  exact ⟨h.1.1, h.1.2, h.2⟩

theorem phi_ok {x : Lt.Phi} (h : Lt.phi x = true) : Lt.Name x.Dst = true ∧ x.Ins ≠ [] ∧ x.Ins.length ≤ 256 ∧ ∀ i ∈ x.Ins, Lt.inRight i = true := by
  unfold Lt.phi at h
  simp only [Bool.and_eq_true, decide_eq_true_eq, Bool.not_eq_true', decide_eq_false_iff_not, List.all_eq_true] at h
  obtain ⟨⟨⟨h1, h2⟩, h3⟩, h4⟩ := h
  exact ⟨h1, h2, h3, h4⟩

theorem block_ok {b : Lt.Block} (h : Lt.block b = true) : Lt.Name b.Name = true ∧ Lt.showEnd b.End = true ∧ (∀ x ∈ b.Phis, Lt.phi x = true) ∧ ∀ i ∈ b.Code, Lt.instr i = true := by
  unfold Lt.block at h
  simp only [Bool.and_eq_true, List.all_eq_true] at h
  exact ⟨h.1.1, h.1.2, h.2.1, h.2.2⟩

/-- how long blocks' phis and instructions are in all -/
def longs (l : List Lt.Block) : Nat := (l.map fun b => b.Phis.length + b.Code.length).sum

theorem blocks_ok : ∀ (l : List Lt.Block) (n : Nat), n ≤ 1024 → Lt.blocks l n = true → n + longs l ≤ 1024 ∧ ∀ b ∈ l, Lt.block b = true
  | [], n, hn, _ => ⟨by simp [longs]; exact hn, by simp⟩
  | b :: r, n, hn, h => by
    simp only [Lt.blocks, Bool.and_eq_true, decide_eq_true_eq] at h
    obtain ⟨⟨h1, h2⟩, h3⟩ := h
    obtain ⟨k1, k2⟩ := blocks_ok r _ h1 h3
    refine ⟨?_, ?_⟩
    · simp only [longs, List.map_cons, List.sum_cons] at k1 ⊢; omega
    · intro x hx
      rcases List.mem_cons.1 hx with rfl | hx
      · exact h2
      · exact k2 x hx

structure FuncOk (f : Lt.Func) : Prop where
  name : Lt.Name f.Name = true
  res : Lt.kind f.Result = true
  params : Lt.typed f.Params 6 = true
  vars : Lt.typed f.Vars 1024 = true
  ne : f.Blocks ≠ []
  len : f.Blocks.length ≤ 256
  long : longs f.Blocks ≤ 1024
  bl : ∀ b ∈ f.Blocks, Lt.block b = true

theorem func_ok {f : Lt.Func} (h : Lt.showFunction f = true) : FuncOk f := by
  unfold Lt.showFunction at h
  simp only [Bool.and_eq_true, decide_eq_true_eq, Bool.not_eq_true', decide_eq_false_iff_not] at h
  obtain ⟨⟨⟨⟨⟨⟨h1, h2⟩, h3⟩, h4⟩, h5⟩, h6⟩, h7⟩ := h
  obtain ⟨k1, k2⟩ := blocks_ok _ 0 (by omega) h7
  exact ⟨h1, h2, h3, h4, h5, h6, by omega, k2⟩

theorem typed_len {l : List Lt.Var} {n : Int} (h : Lt.typed l n = true) : (l.length : Int) ≤ n := by
  unfold Lt.typed at h
  simp only [Bool.and_eq_true, decide_eq_true_eq] at h
  exact h.1

structure ProgOk (p : Lt.Program) : Prop where
  nc : p.Classes.length ≤ 8
  ne : p.Externs.length ≤ 8
  nf : p.Funcs.length ≤ 8
  glob : Lt.typed p.Globals 8 = true
  cl : ∀ c ∈ p.Classes, Lt.classRight c = true
  ex : ∀ x ∈ p.Externs, Lt.externRight x = true
  fn : ∀ f ∈ p.Funcs, Lt.showFunction f = true

theorem prog_ok {p : Lt.Program} (h : Lt.showRight p = true) : ProgOk p := by
  unfold Lt.showRight at h
  simp only [Bool.and_eq_true, decide_eq_true_eq, List.all_eq_true] at h
  obtain ⟨⟨⟨⟨h1, h2⟩, h3⟩, h4⟩, h5, h6, h7⟩ := h
  exact ⟨h1, h2, h3, h4, h5, h6, h7⟩

theorem flat2 {α : Type} (f g : α → List UInt8) (l : List α) : (l.flatMap fun b => [f b, g b]).length = 2 * l.length := by
  induction l with
  | nil => rfl
  | cons a l ih => rw [List.flatMap_cons, List.length_append, ih]; simp; omega

theorem flat_snoc {α β : Type} [Inhabited α] (f : α → List β) (l : List α) {i : Nat} (h : i < l.length) : (l.take (i + 1)).flatMap f = (l.take i).flatMap f ++ f (l.getD i default) := by
  rw [take_snoc l h, List.flatMap_append]; simp

theorem map_snoc {α β : Type} [Inhabited α] (f : α → β) (l : List α) {i : Nat} (h : i < l.length) : (l.take (i + 1)).map f = (l.take i).map f ++ [f (l.getD i default)] := by
  rw [take_snoc l h, List.map_append]; rfl

/-! laws -/

theorem law_sheetLine (s : Lt.Sheet) (w : List (List UInt8)) (hp : Lt.preLine s w) (KK : Unit × Lt.Sheet → Prop) (h : KK (Lt.sheetLine s w)) : F_sheetLine s w KK := by
  unfold Lt.preLine Lt.room at hp
  exact ⟨⟨by omega, by omega⟩, h⟩

theorem law_sheetVars (s : Lt.Sheet) (first : List UInt8) (l : List Lt.Var) (hp : Lt.preVars s first l) (KK : Unit × Lt.Sheet → Prop) (h : KK (Lt.sheetVars s first l)) : F_sheetVars s first l KK := by
  unfold Lt.preVars Lt.room at hp
  intro hl
  have := idx_loop l.length hl (fun i => s.l ++ Lt.varsL first (l.take i)) (fun n b i => F_sheetVars_l1 first l KK n i b) (fun n i hi ih => ?_) (fun n => ?_)
  · simpa [Lt.varsL] using this
  · simp only [F_sheetVars_l1, lt_t hi, if_true, Int.toNat_natCast]
    refine ⟨⟨Int.natCast_nonneg i, hi⟩, ?_, ?_⟩
    · unfold Lt.preLine Lt.room
      simp only [Lt.varsL, List.length_append, List.length_map, List.length_take]
      omega
    · simp only [Lt.varsL, map_snoc _ l hi, ← List.append_assoc] at ih
      exact ih
  · simp only [F_sheetVars_l1, lt_f, Bool.false_eq_true, if_false, List.take_length]
    exact h

theorem puts_len (l : List Lt.Arg) : (Lt.puts l).length = l.length := by simp [Lt.puts]

theorem getD_list {α : Type} [Inhabited α] {l : List α} {P : α → Prop} (h : ∀ x ∈ l, P x) {i : Nat} (hi : i < l.length) : P (l.getD i default) := h _ (mem_getD l hi)

theorem law_sheetCode (s : Lt.Sheet) (i : Lt.Instr) (hp : Lt.preCode s i) (KK : Unit × Lt.Sheet → Prop) (h : KK (Lt.sheetCode s i)) : F_sheetCode s i KK := by
  obtain ⟨hok, hi, hroom⟩ := hp
  unfold Lt.room at hroom
  obtain ⟨okA, okF, okO⟩ := hok
  have I := instr_ok hi
  have a8 := I.args; have f16 := I.frames; have o99 := I.objs
  have j3 : ∀ x4, x4 = s.l ++ [Lt.ln (Lt.words i)] ++ i.Frames.map (fun f => Lt.ln (Lt.frameW f)) → F_sheetCode_j3 i x4 KK := by
    intro x4 e
    intro hl
    have := idx_loop i.Objs.length hl (fun k => x4 ++ (i.Objs.take k).map (fun o => Lt.ln (Lt.virtW o))) (fun n b k => F_sheetCode_l4 i KK n k b) (fun n k hk ih => ?_) (fun n => ?_)
    · simpa using this
    · simp only [F_sheetCode_l4, lt_t hk, if_true, Int.toNat_natCast]
      have V := virt_ok (getD_list I.ob hk)
      have hlen : (Lt.puts (i.Objs.getD k default).Vals).length ≤ 8 := by rw [puts_len]; exact V.2.1
      refine ⟨⟨Int.natCast_nonneg k, hk⟩, ⟨getD_list okO hk, by omega⟩, ⟨by omega, by omega⟩, ?_, ?_⟩
      · unfold Lt.preLine Lt.room
        subst e
        simp only [List.length_append, List.length_map, List.length_take, List.length_cons, List.length_nil]
        omega
      · simp only [map_snoc _ i.Objs hk, ← List.append_assoc] at ih
        exact ih
    · simp only [F_sheetCode_l4, lt_f, Bool.false_eq_true, if_false, List.take_length]
      subst e
      simp only [Lt.sheetCode, Lt.codeL, ← List.append_assoc] at h
      exact h
  have j2 : ∀ x2 x3, x2 ++ x3 = Lt.words i → x2.length + x3.length ≤ 100 → F_sheetCode_j2 s i x2 x3 KK := by
    intro x2 x3 e hlen
    refine ⟨⟨by omega, by omega⟩, ?_, ?_⟩
    · unfold Lt.preLine Lt.room; omega
    · rw [e]
      intro hl
      have := idx_loop i.Frames.length hl (fun k => s.l ++ [Lt.ln (Lt.words i)] ++ (i.Frames.take k).map (fun f => Lt.ln (Lt.frameW f))) (fun n b k => F_sheetCode_l5 i KK n k b) (fun n k hk ih => ?_) (fun n => ?_)
      · simpa [Lt.sheetLine, Lt.ln] using this
      · simp only [F_sheetCode_l5, lt_t hk, if_true, Int.toNat_natCast]
        have V := frame_ok (getD_list I.fr hk)
        refine ⟨⟨Int.natCast_nonneg k, hk⟩, ?_, fun hl2 => ?_⟩
        · have := V.2.2.1; have := V.2.2.2.1
          exact ⟨by omega, by omega⟩
        · have v16 := V.2.2.2.2.1
          have okf : (i.Frames.getD k default).ok := getD_list okF hk
          have := idx_loop (i.Frames.getD k default).Vars.length hl2 (fun j => [[97, 116], (i.Frames.getD k default).Func, (i.Frames.getD k default).Block, Lt.number (i.Frames.getD k default).At] ++ ((i.Frames.getD k default).Vars.take j).flatMap fun b => [b.Name, Lt.wordPut b.A])
            (fun m b j => F_sheetCode_l8 i k (s.l ++ [Lt.ln (Lt.words i)] ++ (i.Frames.take k).map (fun f => Lt.ln (Lt.frameW f))) (fun y1 y2 => F_sheetCode_l5 i KK n y1 y2) KK m b j) (fun m j hj ih2 => ?_) (fun m => ?_)
          · simpa using this
          · simp only [F_sheetCode_l8, Int.toNat_natCast]
            rw [if_pos (lt_t hj)]
            refine ⟨⟨Int.natCast_nonneg j, hj⟩, okf.2 _ (mem_getD _ hj), ?_, ?_⟩
            · simp only [List.length_append, flat2, List.length_cons, List.length_nil, List.length_take]
              omega
            · simp only [flat_snoc _ _ hj, ← List.append_assoc] at ih2
              exact ih2
          · simp only [F_sheetCode_l8, Int.toNat_natCast]
            rw [if_neg (by rw [lt_f]; exact Bool.false_ne_true)]
            refine ⟨?_, ?_⟩
            · unfold Lt.preLine Lt.room
              simp only [List.length_append, List.length_map, List.length_take, List.length_cons, List.length_nil]
              omega
            · simp only [map_snoc _ i.Frames hk, ← List.append_assoc] at ih
              unfold F_sheetCode_j6
              rw [List.take_length]
              exact ih
      · simp only [F_sheetCode_l5, lt_f, Bool.false_eq_true, if_false, List.take_length]
        exact j3 _ rfl
  have j1 : ∀ x1, x1 = (if (Lt.Of i.Op).1.Dst then [i.Dst, [61]] else []) → x1.length ≤ 2 → F_sheetCode_j1 s i x1 KK := by
    intro x1 e hlen
    have hpl := puts_len i.Args
    refine ⟨⟨by omega, by omega⟩, ⟨okA, by omega⟩, ?_⟩
    split
    · rename_i hc
      have hc' : i.Op = 26 ∨ i.Op = 27 := by simpa using hc
      have h1 := I.least hc'
      refine ⟨⟨Int.le_refl _, by omega⟩, ?_, by omega, ?_⟩
      · simp only [List.length_append, List.length_cons, List.length_nil]; omega
      · refine j2 _ _ ?_ ?_
        · rw [Lt.words, if_pos hc', ← e, List.take_of_length_le (by simp)]
          simp
        · simp only [List.length_append, List.length_cons, List.length_nil, List.length_take, List.length_drop]; omega
    · rename_i hc
      have hc' : ¬ (i.Op = 26 ∨ i.Op = 27) := by simpa using hc
      split
      · rename_i hn
        refine ⟨?_, j2 _ _ ?_ ?_⟩
        · simp only [List.length_append, List.length_cons, List.length_nil]; omega
        · rw [Lt.words, if_neg hc', ← e, if_pos hn]
          simp
        · simp only [List.length_append, List.length_cons, List.length_nil]; omega
      · rename_i hn
        refine j2 _ _ ?_ ?_
        · rw [Lt.words, if_neg hc', ← e, if_neg hn]
          simp
        · simp only [List.length_append, List.length_cons, List.length_nil]; omega
  unfold F_sheetCode
  split
  · rename_i hd; exact j1 _ (by rw [if_pos hd]) (by simp)
  · rename_i hd; exact j1 _ (by rw [if_neg hd]) (by simp)

theorem law_sheetEnd (s : Lt.Sheet) (t : Lt.Term) (hp : Lt.preEnd s t) (KK : Unit × Lt.Sheet → Prop) (h : KK (Lt.sheetEnd s t)) : F_sheetEnd s t KK := by
  obtain ⟨⟨okA, okN⟩, ht, hroom⟩ := hp
  unfold Lt.room at hroom
  have hl : ∀ w, Lt.preLine s w := fun w => by unfold Lt.preLine Lt.room; omega
  unfold Lt.showEnd at ht
  rw [Bool.and_eq_true] at ht
  replace ht := ht.2
  unfold Lt.sheetEnd Lt.endW at h
  unfold F_sheetEnd
  simp only [decide_eq_true_eq]
  split
  · rename_i hc
    rw [if_pos hc] at h ht
    simp only [Bool.and_eq_true, decide_eq_true_eq] at ht
    exact ⟨⟨Int.le_refl _, by omega⟩, hl _, h⟩
  · rename_i hc
    rw [if_neg hc] at h ht
    split
    · rename_i hc
      rw [if_pos hc] at h ht
      simp only [Bool.and_eq_true, decide_eq_true_eq] at ht
      exact ⟨okA, ⟨Int.le_refl _, by omega⟩, ⟨by omega, by omega⟩, hl _, h⟩
    · rename_i hc
      rw [if_neg hc] at h ht
      split
      · rename_i hc
        rw [if_pos hc] at h
        exact ⟨okA, hl _, h⟩
      · rename_i hc
        rw [if_neg hc] at h
        exact ⟨okN, hl _, h⟩

theorem codeL_len {i : Lt.Instr} (h : Lt.instr i = true) : (Lt.codeL i).length ≤ 116 := by
  have I := instr_ok h
  have := I.frames; have := I.objs
  simp only [Lt.codeL, List.length_append, List.length_map, List.length_cons, List.length_nil]
  omega

theorem flatMap_le {α β : Type} (f : α → List β) (k : Nat) : ∀ (l : List α), (∀ x ∈ l, (f x).length ≤ k) → (l.flatMap f).length ≤ k * l.length
  | [], _ => by simp
  | a :: l, h => by
    have := flatMap_le f k l (fun x hx => h x (List.mem_cons_of_mem _ hx))
    have := h a (by simp)
    rw [List.flatMap_cons, List.length_append, List.length_cons, Nat.mul_add]
    omega

theorem mem_take {α : Type} {l : List α} {i : Nat} {x : α} (h : x ∈ l.take i) : x ∈ l := List.mem_of_mem_take h

theorem blockL_len {b : Lt.Block} (h : Lt.block b = true) : (Lt.blockL b).length ≤ 2 + 116 * (b.Phis.length + b.Code.length) := by
  have B := block_ok h
  have := flatMap_le Lt.codeL 116 b.Code (fun x hx => codeL_len (B.2.2.2 x hx))
  simp only [Lt.blockL, List.length_append, List.length_map, List.length_cons, List.length_nil]
  omega

theorem blocksL_len : ∀ (l : List Lt.Block), (∀ b ∈ l, Lt.block b = true) → (l.flatMap Lt.blockL).length ≤ 2 * l.length + 116 * longs l
  | [], _ => by simp
  | b :: l, h => by
    have h1 := blocksL_len l (fun x hx => h x (List.mem_cons_of_mem _ hx))
    have h2 := blockL_len (h b (by simp))
    rw [List.flatMap_cons, List.length_append, List.length_cons]
    simp only [longs, List.map_cons, List.sum_cons] at h1 ⊢
    omega

theorem longs_take (l : List Lt.Block) (i : Nat) : longs (l.take i) ≤ longs l := by
  have : longs l = longs (l.take i) + longs (l.drop i) := by
    unfold longs
    rw [← List.sum_append, ← List.map_append, List.take_append_drop]
  omega

theorem longs_get (l : List Lt.Block) {i : Nat} (h : i < l.length) : longs (l.take i) + ((l.getD i default).Phis.length + (l.getD i default).Code.length) ≤ longs l := by
  have := longs_take l (i + 1)
  rw [take_snoc l h] at this
  unfold longs at this ⊢
  rw [List.map_append, List.sum_append] at this
  simp only [List.map_cons, List.map_nil, List.sum_cons, List.sum_nil] at this
  omega

theorem funcL_len {f : Lt.Func} (h : Lt.showFunction f = true) : (Lt.funcL f).length ≤ 130000 := by
  have F := func_ok h
  have h1 := typed_len F.params; have h2 := typed_len F.vars
  have h3 := blocksL_len f.Blocks F.bl
  have := F.len; have := F.long
  simp only [Lt.funcL, Lt.varsL, List.length_append, List.length_map, List.length_cons, List.length_nil]
  omega

theorem law_sheetFunction (s : Lt.Sheet) (f : Lt.Func) (hp : Lt.preFunction s f) (KK : Unit × Lt.Sheet → Prop) (h : KK (Lt.sheetFunction s f)) : F_sheetFunction s f KK := by
  obtain ⟨hok, hf, hroom⟩ := hp
  unfold Lt.room at hroom
  have F := func_ok hf
  have p6 := typed_len F.params; have v1024 := typed_len F.vars
  have hbl := F.len; have hlong := F.long
  refine ⟨?_, ?_, ?_, fun hl => ?_⟩
  · unfold Lt.preLine Lt.room; omega
  · unfold Lt.preVars Lt.room
    simp only [Lt.sheetLine, List.length_append, List.length_cons, List.length_nil]
    omega
  · unfold Lt.preVars Lt.room
    simp only [Lt.sheetLine, Lt.sheetVars, Lt.varsL, List.length_append, List.length_cons, List.length_nil, List.length_map]
    omega
  · generalize hx0 : (Lt.sheetVars (Lt.sheetVars (Lt.sheetLine s [[102, 117, 110, 99], f.Name, f.Result]).2 [112, 97, 114, 97, 109] f.Params).2 [118, 97, 114] f.Vars).2.l = x0
    have hx0l : x0.length ≤ s.l.length + 1031 := by
      rw [← hx0]
      simp only [Lt.sheetLine, Lt.sheetVars, Lt.varsL, List.length_append, List.length_cons, List.length_nil, List.length_map]
      omega
    have h' : KK ((), ⟨x0 ++ f.Blocks.flatMap Lt.blockL⟩) := by
      rw [← hx0]
      simp only [Lt.sheetFunction, Lt.funcL, Lt.sheetVars, Lt.sheetLine, List.append_assoc] at h ⊢
      exact h
    have := idx_loop f.Blocks.length hl (fun k => x0 ++ (f.Blocks.take k).flatMap Lt.blockL) (fun n b k => F_sheetFunction_l1 f KK n k b) (fun n k hk ih => ?_) (fun n => ?_)
    · simpa using this
    · simp only [F_sheetFunction_l1, lt_t hk, if_true, Int.toNat_natCast]
      generalize hb : f.Blocks.getD k default = b
      have B := block_ok (getD_list F.bl hk)
      have hpre := blocksL_len (f.Blocks.take k) (fun x hx => F.bl x (mem_take hx))
      have hget := longs_get f.Blocks hk
      have okb := getD_list hok hk
      rw [hb] at B hget okb
      have hlk : (f.Blocks.take k).length ≤ 256 := by rw [List.length_take]; omega
      generalize hX : (f.Blocks.take k).flatMap Lt.blockL = X at hpre
      simp only [flat_snoc Lt.blockL f.Blocks hk, hX, hb] at ih
      have hXl : X.length + 116 * (b.Phis.length + b.Code.length) ≤ 119296 := by omega
      refine ⟨⟨Int.natCast_nonneg k, hk⟩, ?_, fun hl2 => ?_⟩
      · unfold Lt.preLine Lt.room
        simp only [List.length_append]
        omega
      · have := idx_loop b.Phis.length hl2 (fun j => x0 ++ X ++ [Lt.ln [[98, 108, 111, 99, 107], b.Name]] ++ (b.Phis.take j).map (fun x => Lt.ln (Lt.phiW x))) (fun m y j => F_sheetFunction_l6 f k (fun y1 y2 => F_sheetFunction_l1 f KK n y1 y2) KK m j y) (fun m j hj ih2 => ?_) (fun m => ?_)
        · simpa [Lt.sheetLine] using this
        · simp only [F_sheetFunction_l6, Int.toNat_natCast, hb]
          rw [if_pos (lt_t hj)]
          refine ⟨⟨Int.natCast_nonneg j, hj⟩, fun hl3 => ?_⟩
          generalize hp : b.Phis.getD j default = x at *
          have P := phi_ok (getD_list B.2.2.1 hj)
          have okx := getD_list okb.1 hj
          rw [hp] at P okx
          have p256 := P.2.2.1
          have := idx_loop x.Ins.length hl3 (fun i => [[112, 104, 105], x.Dst] ++ (x.Ins.take i).flatMap fun i => [i.Block, Lt.wordPut i.A])
            (fun q y i => F_sheetFunction_l9 f k j (x0 ++ X ++ [Lt.ln [[98, 108, 111, 99, 107], b.Name]] ++ (b.Phis.take j).map (fun x => Lt.ln (Lt.phiW x))) (fun y1 y2 => F_sheetFunction_l6 f k (fun y1 y2 => F_sheetFunction_l1 f KK n y1 y2) KK m y1 y2) KK q y i) (fun q i hi ih3 => ?_) (fun q => ?_)
          · simpa using this
          · simp only [F_sheetFunction_l9, Int.toNat_natCast, hb, hp]
            rw [if_pos (lt_t hi)]
            refine ⟨⟨Int.natCast_nonneg i, hi⟩, okx.2 _ (mem_getD _ hi), ?_, ?_⟩
            · simp only [List.length_append, flat2, List.length_cons, List.length_nil, List.length_take]
              omega
            · simp only [flat_snoc _ _ hi, ← List.append_assoc] at ih3
              exact ih3
          · simp only [F_sheetFunction_l9, Int.toNat_natCast, hb, hp]
            rw [if_neg (by rw [lt_f]; exact Bool.false_ne_true)]
            refine ⟨?_, ?_⟩
            · unfold Lt.preLine Lt.room
              simp only [List.length_append, List.length_map, List.length_take, List.length_cons, List.length_nil]
              omega
            · simp only [map_snoc _ b.Phis hj, ← List.append_assoc, hp] at ih2
              unfold F_sheetFunction_j7
              rw [List.take_length]
              exact ih2
        · simp only [F_sheetFunction_l6, Int.toNat_natCast, hb]
          rw [if_neg (by rw [lt_f]; exact Bool.false_ne_true)]
          unfold F_sheetFunction_j3
          simp only [Int.toNat_natCast, hb, List.take_length]
          intro hl4
          have := idx_loop b.Code.length hl4 (fun j => x0 ++ X ++ [Lt.ln [[98, 108, 111, 99, 107], b.Name]] ++ b.Phis.map (fun x => Lt.ln (Lt.phiW x)) ++ (b.Code.take j).flatMap Lt.codeL) (fun m y j => F_sheetFunction_l5 f k (fun y1 y2 => F_sheetFunction_l1 f KK n y1 y2) KK m j y) (fun m j hj ih2 => ?_) (fun m => ?_)
          · simpa using this
          · simp only [F_sheetFunction_l5, Int.toNat_natCast, hb]
            rw [if_pos (lt_t hj)]
            have hc := flatMap_le Lt.codeL 116 (b.Code.take j) (fun x hx => codeL_len (B.2.2.2 x (mem_take hx)))
            have hcl : (b.Code.take j).length ≤ b.Code.length := by rw [List.length_take]; omega
            have hmul : 116 * (b.Code.take j).length ≤ 116 * b.Code.length := Nat.mul_le_mul_left _ hcl
            refine ⟨⟨Int.natCast_nonneg j, hj⟩, ⟨getD_list okb.2.1 hj, getD_list B.2.2.2 hj, ?_⟩, ?_⟩
            · unfold Lt.room
              simp only [List.length_append, List.length_map, List.length_cons, List.length_nil]
              omega
            · simp only [flat_snoc _ _ hj, ← List.append_assoc] at ih2
              exact ih2
          · simp only [F_sheetFunction_l5, Int.toNat_natCast, hb]
            rw [if_neg (by rw [lt_f]; exact Bool.false_ne_true)]
            unfold F_sheetFunction_j4 F_sheetFunction_j2
            simp only [Int.toNat_natCast, hb, List.take_length]
            have hc := flatMap_le Lt.codeL 116 b.Code (fun x hx => codeL_len (B.2.2.2 x hx))
            refine ⟨⟨okb.2.2, B.2.1, ?_⟩, ?_⟩
            · unfold Lt.room
              simp only [List.length_append, List.length_map, List.length_cons, List.length_nil]
              omega
            · simp only [Lt.blockL, ← List.append_assoc] at ih
              exact ih
    · simp only [F_sheetFunction_l1, lt_f, Bool.false_eq_true, if_false, List.take_length]
      exact h'
end Go.Am
end

section
namespace Go.Am
open Go
set_option linter.unusedVariables false
set_option linter.unusedSimpArgs false

def small (w : List UInt8) : Prop := w.length ≤ 100
instance (w : List UInt8) : Decidable (small w) := inferInstanceAs (Decidable (w.length ≤ 100))
def lineOk (x : Lt.Line) : Prop := x.Words.length ≤ 600 ∧ ∀ w ∈ x.Words, small w

theorem jw_le : ∀ (ws : List (List UInt8)) (b : Bool), (∀ w ∈ ws, small w) → (Lt.jw b ws).length ≤ 101 * ws.length
  | [], _, _ => by simp [Lt.jw]
  | w :: r, b, h => by
    have h1 := jw_le r true (fun x hx => h x (List.mem_cons_of_mem _ hx))
    have h2 : w.length ≤ 100 := h w (by simp)
    rw [Lt.jw]
    simp only [List.length_append, List.length_cons]
    split <;> simp only [List.length_cons, List.length_nil] <;> omega

theorem joinB_small : ∀ (l : List Lt.Line), (∀ x ∈ l, lineOk x) → (Lt.joinB l).length ≤ 60601 * l.length
  | [], _ => by simp [Lt.joinB]
  | x :: l, h => by
    have h1 := joinB_small l (fun y hy => h y (List.mem_cons_of_mem _ hy))
    obtain ⟨h2, h3⟩ := h x (by simp)
    have h4 := jw_le x.Words false h3
    have : 101 * x.Words.length ≤ 101 * 600 := Nat.mul_le_mul_left _ h2
    rw [Lt.joinB, List.flatMap_cons]
    rw [Lt.joinB] at h1
    simp only [List.length_append, List.length_cons, List.length_nil]
    omega

theorem Name_len {s : List UInt8} (h : Lt.Name s = true) : s.length ≤ 16 := by
  unfold Lt.Name at h
  simp only [Bool.and_eq_true, decide_eq_true_eq] at h
  exact h.1.1.1.2
theorem Name_small {s : List UInt8} (h : Lt.Name s = true) : small s := by have := Name_len h; unfold small; omega
theorem kind_small {s : List UInt8} (h : Lt.kind s = true) : small s := by
  unfold Lt.kind at h
  simp only [Bool.or_eq_true, decide_eq_true_eq] at h
  rcases h with (rfl | rfl) | h
  · decide
  · decide
  · exact Name_small h

theorem nthG_len (l : List UInt8) : ∀ (k : Nat) (n : Int) (f i : Nat), (Lt.nthG l k n f i).length ≤ l.length
  | 0, _, _, _ => by simp [Lt.nthG]
  | k + 1, n, f, i => by
    rw [Lt.nthG]
    split
    · split
      · split
        · simp; omega
        · exact nthG_len l k _ _ _
      · exact nthG_len l k _ _ _
    · simp

theorem ite_le {c : Prop} [Decidable c] {a b k : Nat} (h1 : a ≤ k) (h2 : b ≤ k) : (if c then a else b) ≤ k := by split <;> assumption

theorem Of_small (op : Int) : small (Lt.Of op).1.Word := by
  have h1 : (Lt.nth Lt.two op).length ≤ 100 := Nat.le_trans (nthG_len _ _ _ _ _) (by decide)
  have h2 : (Lt.nth [32, 105, 116, 111, 102, 32, 102, 116, 111, 105, 32, 109, 111, 118, 32] (IntKind.i64.wrap (op - 21))).length ≤ 100 := Nat.le_trans (nthG_len _ _ _ _ _) (by decide)
  unfold small Lt.Of
  simp only [apply_ite Prod.fst, apply_ite Lt.Form.Word, apply_ite List.length, List.length_cons, List.length_nil]
  refine ite_le h1 (ite_le h2 ?_)
  repeat refine ite_le (by omega) ?_
  omega

theorem wordRight_cases {a : Lt.Arg} (h : Lt.wordRight a = true) : (a.Kind = 1 ∧ Lt.Name a.S = true ∧ a.N = 0) ∨ (a.Kind = 2 ∧ a.S = []) ∨ (a.Kind = 3 ∧ a.S = [] ∧ Lt.Plain a.N = a.N) ∨ (a.Kind = 4 ∧ a.S = [] ∧ a.N = 0) ∨ (a.Kind = 5 ∧ a.S = [] ∧ 0 ≤ a.N ∧ a.N ≤ 999) := by
  unfold Lt.wordRight at h
  split at h
  · rename_i h1; simp only [Bool.and_eq_true, decide_eq_true_eq] at h; exact .inl ⟨h1, h⟩
  · split at h
    · rename_i h1; simp only [Bool.and_eq_true, decide_eq_true_eq] at h; exact .inr (.inl ⟨h1, h⟩)
    · split at h
      · rename_i h1; simp only [Bool.and_eq_true, decide_eq_true_eq] at h; exact .inr (.inr (.inl ⟨h1, h⟩))
      · split at h
        · rename_i h1; simp only [Bool.and_eq_true, decide_eq_true_eq] at h; exact .inr (.inr (.inr (.inl ⟨h1, h⟩)))
        · split at h
          · rename_i h1; simp only [Bool.and_eq_true, decide_eq_true_eq] at h; exact .inr (.inr (.inr (.inr ⟨h1, h.1.1, h.1.2, h.2⟩)))
          · cases h

theorem wordPut_small {a : Lt.Arg} (h : a.ok) : small (Lt.wordPut a) := by
  have hn := numPut_len h
  have hf := floPut_len a.N
  unfold small Lt.wordPut
  split
  · rename_i hr
    split
    · omega
    · split
      · omega
      · split
        · decide
        · split
          · simp only [List.length_cons]; omega
          · rcases wordRight_cases hr with h | h | h | h | h
            · have := Name_len h.2.1; omega
            · exact absurd h.1 (by assumption)
            · exact absurd h.1 (by assumption)
            · exact absurd h.1 (by assumption)
            · exact absurd h.1 (by assumption)
  · decide

theorem puts_small {l : List Lt.Arg} (h : Lt.argsOk l) : ∀ w ∈ Lt.puts l, small w := by
  intro w hw
  obtain ⟨a, ha, rfl⟩ := List.mem_map.1 hw
  exact wordPut_small (h a ha)

theorem varsL_ok (first : List UInt8) (hf : small first) {l : List Lt.Var} {n : Int} (h : Lt.typed l n = true) : ∀ x ∈ Lt.varsL first l, lineOk x := by
  intro x hx
  obtain ⟨v, hv, rfl⟩ := List.mem_map.1 hx
  unfold Lt.typed at h
  simp only [Bool.and_eq_true, List.all_eq_true] at h
  have := h.2 v hv
  refine ⟨by simp [Lt.ln], fun w hw => ?_⟩
  simp only [Lt.ln, List.mem_cons, List.not_mem_nil, or_false] at hw
  rcases hw with rfl | rfl | rfl
  · exact hf
  · exact Name_small this.1
  · exact kind_small this.2

theorem number_small {n : Int} (h : Lt.inR n) : small (Lt.number n) := by have := numPut_len h; unfold small Lt.number; omega

theorem codeL_ok {i : Lt.Instr} (h : Lt.instr i = true) (hok : i.ok) : ∀ x ∈ Lt.codeL i, lineOk x := by
  have I := instr_ok h
  obtain ⟨okA, okF, okO⟩ := hok
  have a8 := I.args
  intro x hx
  simp only [Lt.codeL, List.mem_append, List.mem_singleton, List.mem_map] at hx
  rcases hx with (rfl | ⟨f, hf, rfl⟩) | ⟨o, ho, rfl⟩
  · refine ⟨?_, fun w hw => ?_⟩
    · simp only [Lt.ln, Lt.words, List.length_append]
      split <;> split <;> (try split) <;> simp only [List.length_cons, List.length_nil, List.length_append, List.length_drop, puts_len] <;> omega
    · have hp := puts_small okA
      simp only [Lt.ln, Lt.words, List.mem_append] at hw
      rcases hw with (hw | hw) | hw
      · split at hw
        · rename_i hd
          simp only [List.mem_cons, List.not_mem_nil, or_false] at hw
          rcases hw with rfl | rfl
          · exact Name_small (I.dstN hd)
          · decide
        · cases hw
      · simp only [List.mem_singleton] at hw
        subst hw
        exact Of_small _
      · split at hw
        · rename_i hc
          have h1 := I.least hc
          simp only [List.mem_cons] at hw
          rcases hw with rfl | rfl | hw
          · exact hp _ (mem_getD _ (by rw [puts_len]; omega))
          · have : (Lt.Of i.Op).1.Named = true := by rcases hc with e | e <;> rw [e] <;> decide
            exact Name_small (I.nmN this)
          · exact hp _ (List.mem_of_mem_drop hw)
        · simp only [List.mem_append] at hw
          rcases hw with hw | hw
          · split at hw
            · rename_i hd
              simp only [List.mem_singleton] at hw
              subst hw
              exact Name_small (I.nmN hd)
            · cases hw
          · exact hp _ hw
  · have V := frame_ok (I.fr f hf)
    refine ⟨?_, fun w hw => ?_⟩
    · have := V.2.2.2.2.1
      simp only [Lt.ln, Lt.frameW, List.length_append, flat2, List.length_cons, List.length_nil]
      omega
    · simp only [Lt.ln, Lt.frameW, List.mem_append, List.mem_cons, List.not_mem_nil, or_false, List.mem_flatMap] at hw
      rcases hw with (rfl | rfl | rfl | rfl) | ⟨b, hb, rfl | rfl⟩
      · decide
      · exact Name_small V.1
      · exact Name_small V.2.1
      · have := V.2.2.1; have := V.2.2.2.1
        exact number_small ⟨by omega, by omega⟩
      · have := V.2.2.2.2.2 b hb
        unfold Lt.bindRight at this
        rw [Bool.and_eq_true] at this
        exact Name_small this.1
      · exact wordPut_small ((okF f hf).2 b hb)
  · have V := virt_ok (I.ob o ho)
    refine ⟨?_, fun w hw => ?_⟩
    · simp only [Lt.ln, Lt.virtW, List.length_append, puts_len, List.length_cons, List.length_nil]
      omega
    · simp only [Lt.ln, Lt.virtW, List.mem_append, List.mem_cons, List.not_mem_nil, or_false] at hw
      rcases hw with (rfl | rfl) | hw
      · decide
      · exact Name_small V.1
      · exact puts_small (okO o ho) _ hw

theorem endW_ok {t : Lt.Term} (h : Lt.showEnd t = true) (hok : t.ok) : lineOk (Lt.ln (Lt.endW t)) := by
  unfold Lt.showEnd at h
  rw [Bool.and_eq_true, List.all_eq_true] at h
  obtain ⟨h1, h2⟩ := h
  refine ⟨?_, fun w hw => ?_⟩
  · simp only [Lt.ln, Lt.endW]
    repeat' split
    all_goals simp
  · simp only [Lt.ln, Lt.endW] at hw
    split at hw
    · rename_i hc
      rw [if_pos hc] at h2
      simp only [Bool.and_eq_true, decide_eq_true_eq] at h2
      simp only [List.mem_cons, List.not_mem_nil, or_false] at hw
      rcases hw with rfl | rfl
      · decide
      · exact Name_small (h1 _ (mem_getD _ (by omega)))
    · rename_i hc
      rw [if_neg hc] at h2
      split at hw
      · rename_i hc
        rw [if_pos hc] at h2
        simp only [Bool.and_eq_true, decide_eq_true_eq] at h2
        simp only [List.mem_cons, List.not_mem_nil, or_false] at hw
        rcases hw with rfl | rfl | rfl | rfl
        · decide
        · exact wordPut_small hok.1
        · exact Name_small (h1 _ (mem_getD _ (by omega)))
        · exact Name_small (h1 _ (mem_getD _ (by omega)))
      · split at hw
        · simp only [List.mem_cons, List.not_mem_nil, or_false] at hw
          rcases hw with rfl | rfl
          · decide
          · exact wordPut_small hok.1
        · simp only [List.mem_cons, List.not_mem_nil, or_false] at hw
          rcases hw with rfl | rfl
          · decide
          · exact number_small hok.2

theorem blockL_ok {b : Lt.Block} (h : Lt.block b = true) (hok : b.ok) : ∀ x ∈ Lt.blockL b, lineOk x := by
  have B := block_ok h
  intro x hx
  simp only [Lt.blockL, List.mem_append, List.mem_singleton, List.mem_map, List.mem_flatMap] at hx
  rcases hx with ((rfl | ⟨y, hy, rfl⟩) | ⟨i, hi, hx⟩) | rfl
  · refine ⟨by simp [Lt.ln], fun w hw => ?_⟩
    simp only [Lt.ln, List.mem_cons, List.not_mem_nil, or_false] at hw
    rcases hw with rfl | rfl
    · decide
    · exact Name_small B.1
  · have P := phi_ok (B.2.2.1 y hy)
    refine ⟨?_, fun w hw => ?_⟩
    · have := P.2.2.1
      simp only [Lt.ln, Lt.phiW, List.length_append, flat2, List.length_cons, List.length_nil]
      omega
    · simp only [Lt.ln, Lt.phiW, List.mem_append, List.mem_cons, List.not_mem_nil, or_false, List.mem_flatMap] at hw
      rcases hw with (rfl | rfl) | ⟨b', hb, rfl | rfl⟩
      · decide
      · exact Name_small P.1
      · have := P.2.2.2 b' hb
        unfold Lt.inRight at this
        rw [Bool.and_eq_true] at this
        exact Name_small this.1
      · exact wordPut_small ((hok.1 y hy).2 b' hb)
  · exact codeL_ok (B.2.2.2 i hi) (hok.2.1 i hi) x hx
  · exact endW_ok B.2.1 hok.2.2

theorem funcL_ok {f : Lt.Func} (h : Lt.showFunction f = true) (hok : f.ok) : ∀ x ∈ Lt.funcL f, lineOk x := by
  have F := func_ok h
  intro x hx
  simp only [Lt.funcL, List.mem_append, List.mem_singleton, List.mem_flatMap] at hx
  rcases hx with ((rfl | hx) | hx) | ⟨b, hb, hx⟩
  · refine ⟨by simp [Lt.ln], fun w hw => ?_⟩
    simp only [Lt.ln, List.mem_cons, List.not_mem_nil, or_false] at hw
    rcases hw with rfl | rfl | rfl
    · decide
    · exact Name_small F.name
    · exact kind_small F.res
  · exact varsL_ok _ (by decide) F.params x hx
  · exact varsL_ok _ (by decide) F.vars x hx
  · exact blockL_ok (F.bl b hb) (hok b hb) x hx

theorem progL_ok {p : Lt.Program} (h : Lt.showRight p = true) (hok : p.ok) : ∀ x ∈ Lt.progL p, lineOk x := by
  have P := prog_ok h
  intro x hx
  simp only [Lt.progL, List.mem_append, List.mem_flatMap, List.mem_map] at hx
  rcases hx with (((hx | ⟨c, hc, hx⟩) | hx) | ⟨e, he, rfl⟩) | ⟨f, hf, hx⟩
  · split at hx
    · simp only [List.mem_singleton] at hx
      subst hx
      refine ⟨by simp [Lt.ln], fun w hw => ?_⟩
      simp only [Lt.ln, List.mem_singleton] at hw
      subst hw
      decide
    · cases hx
  · have C := P.cl c hc
    unfold Lt.classRight at C
    rw [Bool.and_eq_true] at C
    simp only [Lt.classL, List.mem_append, List.mem_singleton] at hx
    rcases hx with rfl | hx
    · refine ⟨by simp [Lt.ln], fun w hw => ?_⟩
      simp only [Lt.ln, List.mem_cons, List.not_mem_nil, or_false] at hw
      rcases hw with rfl | rfl
      · decide
      · exact Name_small C.1
    · exact varsL_ok _ (by decide) C.2 x hx
  · exact varsL_ok _ (by decide) P.glob x hx
  · have E := P.ex e he
    unfold Lt.externRight at E
    simp only [Bool.and_eq_true, decide_eq_true_eq] at E
    refine ⟨by simp [Lt.ln, Lt.externL], fun w hw => ?_⟩
    simp only [Lt.ln, Lt.externL, List.mem_cons, List.not_mem_nil, or_false] at hw
    rcases hw with rfl | rfl | rfl
    · decide
    · exact Name_small E.1.1
    · exact number_small ⟨by omega, by omega⟩
  · exact funcL_ok (P.fn f hf) (hok f hf) x hx

theorem classL_len {c : Lt.Class} (h : Lt.classRight c = true) : (Lt.classL c).length ≤ 9 := by
  unfold Lt.classRight at h
  rw [Bool.and_eq_true] at h
  have := typed_len h.2
  simp only [Lt.classL, Lt.varsL, List.length_append, List.length_map, List.length_cons, List.length_nil]
  omega

theorem progL_len {p : Lt.Program} (h : Lt.showRight p = true) : (Lt.progL p).length ≤ 1050000 := by
  have P := prog_ok h
  have h1 := flatMap_le Lt.classL 9 p.Classes (fun c hc => classL_len (P.cl c hc))
  have h2 := flatMap_le Lt.funcL 130000 p.Funcs (fun f hf => funcL_len (P.fn f hf))
  have h3 := typed_len P.glob
  have := P.nc; have := P.ne; have := P.nf
  have h4 : (if p.SSA = true then [Lt.ln [[115, 115, 97]]] else []).length ≤ 1 := by split <;> simp
  simp only [Lt.progL, Lt.varsL, List.length_append, List.length_map]
  omega

theorem law_showText (p : Lt.Program) (hp : Lt.preText p) (KK : List UInt8 × Int → Prop) (h : KK (Lt.showText p)) : F_showText p KK := by
  unfold Lt.preText at hp
  unfold F_showText
  cases hr : Lt.showRight p
  · rw [Lt.showText, hr] at h
    simpa using h
  · have P := prog_ok hr
    have hnc := P.nc; have hne := P.ne; have hnf := P.nf
    have hglob := typed_len P.glob
    rw [Lt.showText, hr, if_pos rfl] at h
    simp only [Bool.not_true, Bool.false_eq_true, if_false]
    have hjb : (Lt.joinB (Lt.progL p)).length ≤ 140737488355328 := by
      have h1 := joinB_small _ (progL_ok hr hp)
      have h2 := progL_len hr
      omega
    have j4 : F_showText_j4 (Lt.progL p) KK := by
      refine ⟨hjb, fun _ => ?_⟩
      unfold Lt.Join
      split
      · rename_i hc
        have : ¬ (Lt.joinB (Lt.progL p)).length ≤ 4194304 := by simp at hc; omega
        rw [if_neg this] at h; exact h
      · rename_i hc
        have : (Lt.joinB (Lt.progL p)).length ≤ 4194304 := by simp at hc; omega
        rw [if_pos this] at h; exact h
    have j1 : ∀ x, x = (if p.SSA = true then [Lt.ln [[115, 115, 97]]] else []) → F_showText_j1 p x KK := by
      intro x hx hl
      have hxl : x.length ≤ 1 := by rw [hx]; split <;> simp
      have := idx_loop p.Classes.length hl (fun i => x ++ (p.Classes.take i).flatMap Lt.classL) (fun n b i => F_showText_l7 p KK n i b) (fun n i hi ih => ?_) (fun n => ?_)
      · simpa using this
      · simp only [F_showText_l7, lt_t hi, if_true, Int.toNat_natCast]
        have C := getD_list P.cl hi
        have hC := C
        unfold Lt.classRight at C
        rw [Bool.and_eq_true] at C
        have hcl := flatMap_le Lt.classL 9 (p.Classes.take i) (fun c hc => classL_len (P.cl c (mem_take hc)))
        have hct : (p.Classes.take i).length ≤ 8 := by rw [List.length_take]; omega
        have htl := typed_len C.2
        refine ⟨⟨Int.natCast_nonneg i, hi⟩, ?_, ?_, ?_⟩
        · unfold Lt.preLine Lt.room
          simp only [List.length_append]; omega
        · unfold Lt.preVars Lt.room
          simp only [Lt.sheetLine, List.length_append, List.length_cons, List.length_nil]; omega
        · simp only [flat_snoc _ _ hi, ← List.append_assoc, Lt.classL] at ih
          exact ih
      · simp only [F_showText_l7, lt_f, Bool.false_eq_true, if_false, List.take_length]
        have hcl := flatMap_le Lt.classL 9 p.Classes (fun c hc => classL_len (P.cl c hc))
        unfold F_showText_j2
        refine ⟨?_, fun hl2 => ?_⟩
        · unfold Lt.preVars Lt.room
          simp only [List.length_append]; omega
        · generalize hy : (Lt.sheetVars ⟨x ++ p.Classes.flatMap Lt.classL⟩ [103, 108, 111, 98, 97, 108] p.Globals).2.l = y
          have hyl : y.length ≤ 100 := by
            rw [← hy]
            simp only [Lt.sheetVars, Lt.varsL, List.length_append, List.length_map]
            omega
          have := idx_loop p.Externs.length hl2 (fun i => y ++ (p.Externs.take i).map Lt.externL) (fun n b i => F_showText_l6 p KK n i b) (fun n i hi ih => ?_) (fun n => ?_)
          · simpa using this
          · simp only [F_showText_l6, lt_t hi, if_true, Int.toNat_natCast]
            have E := getD_list P.ex hi
            unfold Lt.externRight at E
            simp only [Bool.and_eq_true, decide_eq_true_eq] at E
            refine ⟨⟨Int.natCast_nonneg i, hi⟩, ⟨by omega, by omega⟩, ?_, ?_⟩
            · unfold Lt.preLine Lt.room
              simp only [List.length_append, List.length_map, List.length_take]; omega
            · simp only [map_snoc _ _ hi, ← List.append_assoc] at ih
              exact ih
          · simp only [F_showText_l6, lt_f, Bool.false_eq_true, if_false, List.take_length]
            intro hl3
            have := idx_loop p.Funcs.length hl3 (fun i => y ++ p.Externs.map Lt.externL ++ (p.Funcs.take i).flatMap Lt.funcL) (fun n b i => F_showText_l5 p KK n i b) (fun n i hi ih => ?_) (fun n => ?_)
            · simpa using this
            · simp only [F_showText_l5, lt_t hi, if_true, Int.toNat_natCast]
              have hcl := flatMap_le Lt.funcL 130000 (p.Funcs.take i) (fun f hf => funcL_len (P.fn f (mem_take hf)))
              have hct : (p.Funcs.take i).length ≤ 8 := by rw [List.length_take]; omega
              refine ⟨⟨Int.natCast_nonneg i, hi⟩, ⟨getD_list hp hi, getD_list P.fn hi, ?_⟩, ?_⟩
              · unfold Lt.room
                simp only [List.length_append, List.length_map]; omega
              · simp only [flat_snoc _ _ hi, ← List.append_assoc] at ih
                exact ih
            · simp only [F_showText_l5, lt_f, Bool.false_eq_true, if_false, List.take_length]
              have e : y ++ p.Externs.map Lt.externL ++ p.Funcs.flatMap Lt.funcL = Lt.progL p := by
                rw [← hy, Lt.progL, ← hx]; rfl
              rw [e]
              exact j4
    split
    · rename_i hs
      refine ⟨by unfold Lt.preLine Lt.room; simp, j1 _ ?_⟩
      rw [if_pos hs]; rfl
    · rename_i hs
      exact j1 _ (by rw [if_neg hs])
end Go.Am
end

section
namespace Go.Am
open Go
set_option linter.unusedVariables false
set_option linter.unusedSimpArgs false

/-- a loop over two lists' places that leaves where they differ -/
theorem same_loop {α : Type} [Inhabited α] [DecidableEq α] (a b : List α) (hl : a.length ≤ LEN) (hlen : a.length = b.length) (rest : Bool) (KK : Bool → Prop) (R : Nat → Int → Prop)
    (hs : ∀ n i, i < a.length → (a.getD i default = b.getD i default → R n (IntKind.i64.wrap ((i : Int) + 1))) → (a.getD i default ≠ b.getD i default → KK false) → R (n + 1) i)
    (he : ∀ n, KK rest → R (n + 1) a.length) (h : KK (decide (a = b) && rest)) : ∃ n, R n 0 := by
  have key : ∀ k i, i + k = a.length → KK (decide (a.drop i = b.drop i) && rest) → R (k + 1) (i : Int) := by
    intro k
    induction k with
    | zero =>
      intro i hi h
      have e : i = a.length := by omega
      subst e
      rw [List.drop_length, hlen, List.drop_length] at h
      exact he 0 (by simpa using h)
    | succ k ih =>
      intro i hi h
      have ha : i < a.length := by omega
      have hb : i < b.length := by omega
      rw [List.drop_eq_getElem_cons ha, List.drop_eq_getElem_cons hb] at h
      have ea : a.getD i default = a[i] := by rw [List.getD, List.getElem?_eq_getElem ha]; rfl
      have eb : b.getD i default = b[i] := by rw [List.getD, List.getElem?_eq_getElem hb]; rfl
      refine hs _ i ha (fun e => ?_) (fun e => ?_)
      · rw [wrap_succ (by unfold LEN at hl; omega)]
        refine ih (i + 1) (by omega) ?_
        rw [ea, eb] at e
        simp only [e, List.cons.injEq, true_and] at h
        exact h
      · rw [ea, eb] at e
        simp only [List.cons.injEq, e, false_and, decide_false, Bool.false_and] at h
        exact h
  exact ⟨a.length + 1, key a.length 0 (by omega) (by simpa using h)⟩

theorem eq_var (x y : Lt.Var) : (decide (x.Name = y.Name) && decide (x.Type_ = y.Type_)) = decide (x = y) := by
  obtain ⟨a, b⟩ := x; obtain ⟨c, d⟩ := y
  by_cases h1 : a = c <;> by_cases h2 : b = d <;> simp [h1, h2]
theorem eq_arg (x y : Lt.Arg) : (decide (x.Kind = y.Kind) && (decide (x.S = y.S) && decide (x.N = y.N))) = decide (x = y) := by
  obtain ⟨a, b, c⟩ := x; obtain ⟨d, e, f⟩ := y
  by_cases h1 : a = d <;> by_cases h2 : b = e <;> by_cases h3 : c = f <;> simp [h1, h2, h3]
theorem eq_bind (x y : Lt.Bind) : (decide (x.Name = y.Name) && (decide (x.A.Kind = y.A.Kind) && (decide (x.A.S = y.A.S) && decide (x.A.N = y.A.N)))) = decide (x = y) := by
  rw [eq_arg]
  obtain ⟨a, b⟩ := x; obtain ⟨c, d⟩ := y
  by_cases h1 : a = c <;> by_cases h2 : b = d <;> simp [h1, h2]
theorem eq_in (x y : Lt.In) : (decide (x.Block = y.Block) && (decide (x.A.Kind = y.A.Kind) && (decide (x.A.S = y.A.S) && decide (x.A.N = y.A.N)))) = decide (x = y) := by
  rw [eq_arg]
  obtain ⟨a, b⟩ := x; obtain ⟨c, d⟩ := y
  by_cases h1 : a = c <;> by_cases h2 : b = d <;> simp [h1, h2]
theorem eq_extern (x y : Lt.Extern) : (decide (x.Name = y.Name) && decide (x.N = y.N)) = decide (x = y) := by
  obtain ⟨a, b⟩ := x; obtain ⟨c, d⟩ := y
  by_cases h1 : a = c <;> by_cases h2 : b = d <;> simp [h1, h2]

theorem ob2 {α β : Type} {a : List α} {b : List β} {i : Nat} (h : i < a.length) (e : a.length = b.length) : (0 : Int) ≤ (i : Int) ∧ i < b.length := ⟨Int.natCast_nonneg i, by omega⟩

theorem law_sameVars (a b : List Lt.Var) (KK : Bool → Prop) (h : KK (Lt.sameVars a b)) : F_sameVars a b KK := by
  unfold F_sameVars
  intro hl _
  unfold Lt.sameVars at h
  split
  · rename_i hc
    have : a ≠ b := by rintro rfl; simp at hc
    simpa [this] using h
  · rename_i hc
    have hlen : a.length = b.length := by simp at hc; omega
    refine same_loop a b hl hlen true KK (fun n i => F_sameVars_l2 a b KK n i) (fun n i hi ih hF => ?_) (fun n h => ?_) (by simpa using h)
    · simp only [F_sameVars_l2, lt_t hi, if_true, Int.toNat_natCast]
      refine fun _ => ⟨⟨Int.natCast_nonneg i, hi⟩, ob2 hi hlen, ?_⟩
      rw [eq_var]
      split
      · rename_i hc; exact hF (by simpa using hc)
      · rename_i hc; exact ih (by simpa using hc)
    · simp only [F_sameVars_l2, lt_f, Bool.false_eq_true, if_false, F_sameVars_j1]; exact fun _ => h

theorem law_sameArgs (a b : List Lt.Arg) (KK : Bool → Prop) (h : KK (Lt.sameArgs a b)) : F_sameArgs a b KK := by
  unfold F_sameArgs
  intro hl _
  unfold Lt.sameArgs at h
  split
  · rename_i hc
    have : a ≠ b := by rintro rfl; simp at hc
    simpa [this] using h
  · rename_i hc
    have hlen : a.length = b.length := by simp at hc; omega
    refine same_loop a b hl hlen true KK (fun n i => F_sameArgs_l2 a b KK n i) (fun n i hi ih hF => ?_) (fun n h => ?_) (by simpa using h)
    · simp only [F_sameArgs_l2, lt_t hi, if_true, Int.toNat_natCast]
      refine fun _ => ⟨⟨Int.natCast_nonneg i, hi⟩, ob2 hi hlen, ?_⟩
      rw [eq_arg]
      split
      · rename_i hc; exact hF (by simpa using hc)
      · rename_i hc; exact ih (by simpa using hc)
    · simp only [F_sameArgs_l2, lt_f, Bool.false_eq_true, if_false, F_sameArgs_j1]; exact fun _ => h

theorem law_SameInstr (a b : Lt.Instr) (KK : Bool → Prop) (h : KK (Lt.SameInstr a b)) : F_SameInstr a b KK := by
  unfold F_SameInstr
  unfold Lt.SameInstr at h
  split
  · rename_i hc
    have : a ≠ b := by rintro rfl; simp [Lt.sameArgs] at hc
    simpa [this] using h
  · rename_i hc
    simp only [Bool.or_eq_true, Bool.not_eq_true', decide_eq_false_iff_not, not_or, Bool.not_eq_false, Lt.sameArgs, decide_eq_true_eq, Classical.not_not] at hc
    obtain ⟨⟨⟨⟨⟨h1, h2⟩, h3⟩, h4⟩, h5⟩, h6⟩ := hc
    have e : decide (a = b) = (decide (a.Frames = b.Frames) && (decide (a.Objs = b.Objs) && true)) := by
      obtain ⟨a1, a2, a3, a4, a5, a6⟩ := a; obtain ⟨b1, b2, b3, b4, b5, b6⟩ := b
      dsimp only at h1 h2 h3 h4
      subst h1; subst h2; subst h3; subst h4
      by_cases g1 : a5 = b5 <;> by_cases g2 : a6 = b6 <;> simp [g1, g2]
    rw [e] at h
    have hlF : a.Frames.length = b.Frames.length := by omega
    have hlO : a.Objs.length = b.Objs.length := by omega
    by_cases hl : a.Frames.length ≤ LEN
    rotate_left
    · exact ⟨1, fun h => absurd h hl⟩
    refine same_loop a.Frames b.Frames hl hlF _ KK (fun n i => F_SameInstr_l4 a b KK n i) (fun n i hi ih hF => ?_) (fun n h => ?_) h
    · simp only [F_SameInstr_l4, lt_t hi, if_true, Int.toNat_natCast]
      refine fun _ => ⟨⟨Int.natCast_nonneg i, hi⟩, ob2 hi hlF, ?_⟩
      dsimp +instances only [Int.toNat_natCast]
      generalize hx : a.Frames.getD i default = x at ih hF ⊢
      generalize hy : b.Frames.getD i default = y at ih hF ⊢
      split
      · rename_i hc
        refine hF ?_
        intro e
        rw [e] at hc
        simp at hc
      · rename_i hc
        simp only [Bool.or_eq_true, Bool.not_eq_true', decide_eq_false_iff_not, not_or, Classical.not_not] at hc
        obtain ⟨⟨⟨g1, g2⟩, g3⟩, g4⟩ := hc
        have ev : decide (x = y) = (decide (x.Vars = y.Vars) && true) := by
          obtain ⟨x1, x2, x3, x4⟩ := x; obtain ⟨y1, y2, y3, y4⟩ := y
          dsimp only at g1 g2 g3
          subst g1; subst g2; subst g3
          by_cases g : x4 = y4 <;> simp [g]
        have hlV : x.Vars.length = y.Vars.length := by omega
        by_cases hl2 : x.Vars.length ≤ LEN
        rotate_left
        · refine ⟨1, ?_⟩
          simp only [F_SameInstr_l6, Int.toNat_natCast, hx]
          exact fun h => absurd h hl2
        refine same_loop x.Vars y.Vars hl2 hlV true (fun r => (r = true → F_SameInstr_l4 a b KK n (IntKind.i64.wrap ((i : Int) + 1))) ∧ (r = false → KK false)) (fun m j => F_SameInstr_l6 a b (i : Int) (fun y1 => F_SameInstr_l4 a b KK n y1) KK m j) (fun m j hj ih2 hF2 => ?_) (fun m h => ?_) ?_
        · simp only [F_SameInstr_l6, Int.toNat_natCast, hx, hy]
          rw [if_pos (lt_t hj)]
          refine fun _ => ⟨⟨Int.natCast_nonneg j, hj⟩, ob2 hj hlV, ?_⟩
          rw [eq_bind]
          split
          · rename_i hc; exact (hF2 (by simpa using hc)).2 rfl
          · rename_i hc; exact ih2 (by simpa using hc)
        · simp only [F_SameInstr_l6, Int.toNat_natCast, hx, hy]
          rw [if_neg (by rw [lt_f]; exact Bool.false_ne_true)]
          exact fun _ => h.1 rfl
        · rw [← ev]
          exact ⟨fun h => ih (by simpa using h), fun h => hF (by simpa using h)⟩
    · simp only [F_SameInstr_l4, lt_f, Bool.false_eq_true, if_false, F_SameInstr_j1]
      intro _
      by_cases hl : a.Objs.length ≤ LEN
      rotate_left
      · exact ⟨1, fun h => absurd h hl⟩
      refine same_loop a.Objs b.Objs hl hlO _ KK (fun n i => F_SameInstr_l3 a b KK n i) (fun n i hi ih hF => ?_) (fun n h => ?_) h
      · simp only [F_SameInstr_l3, lt_t hi, if_true, Int.toNat_natCast]
        refine fun _ => ⟨⟨Int.natCast_nonneg i, hi⟩, ob2 hi hlO, fun _ => ⟨Int.natCast_nonneg i, hi⟩, fun _ => ob2 hi hlO, ?_⟩
        dsimp +instances only [Int.toNat_natCast]
        generalize hx : a.Objs.getD i default = x at ih hF ⊢
        generalize hy : b.Objs.getD i default = y at ih hF ⊢
        split
        · rename_i hc
          refine hF ?_
          intro e
          rw [e] at hc
          simp [Lt.sameArgs] at hc
        · rename_i hc
          simp only [Bool.or_eq_true, Bool.not_eq_true', decide_eq_false_iff_not, not_or, Bool.not_eq_false, Classical.not_not, Lt.sameArgs, decide_eq_true_eq] at hc
          refine ih ?_
          obtain ⟨x1, x2⟩ := x; obtain ⟨y1, y2⟩ := y
          rw [Lt.Virt.mk.injEq]
          exact hc
      · simp only [F_SameInstr_l3, lt_f, Bool.false_eq_true, if_false, F_SameInstr_j2]; exact fun _ => h

theorem law_sameBlock (a b : Lt.Block) (KK : Bool → Prop) (h : KK (Lt.sameBlock a b)) : F_sameBlock a b KK := by
  unfold F_sameBlock
  unfold Lt.sameBlock at h
  rw [eq_arg]
  split
  · rename_i hc
    have : a ≠ b := by rintro rfl; simp at hc
    simpa [this] using h
  · rename_i hc
    simp only [Bool.or_eq_true, Bool.not_eq_true', decide_eq_false_iff_not, not_or, Classical.not_not] at hc
    obtain ⟨⟨⟨⟨⟨⟨h1, h2⟩, h3⟩, h4⟩, h5⟩, h6⟩, h7⟩ := hc
    have e : decide (a = b) = (decide (a.End.To = b.End.To) && (decide (a.Phis = b.Phis) && (decide (a.Code = b.Code) && true))) := by
      obtain ⟨a1, a2, a3, ⟨a4, a5, a6, a7⟩⟩ := a; obtain ⟨b1, b2, b3, ⟨b4, b5, b6, b7⟩⟩ := b
      dsimp only at h1 h4 h5 h6
      subst h1; subst h4; subst h5; subst h6
      by_cases g1 : a2 = b2 <;> by_cases g2 : a3 = b3 <;> by_cases g3 : a6 = b6 <;> simp [g1, g2, g3]
    rw [e] at h
    have hlP : a.Phis.length = b.Phis.length := by omega
    have hlC : a.Code.length = b.Code.length := by omega
    have hlT : a.End.To.length = b.End.To.length := by omega
    by_cases hl : a.End.To.length ≤ LEN
    rotate_left
    · exact ⟨1, fun h => absurd h hl⟩
    refine same_loop a.End.To b.End.To hl hlT _ KK (fun n i => F_sameBlock_l8 a b KK n i) (fun n i hi ih hF => ?_) (fun n h => ?_) h
    · simp only [F_sameBlock_l8, lt_t hi, if_true, Int.toNat_natCast]
      refine fun _ => ⟨⟨Int.natCast_nonneg i, hi⟩, ob2 hi hlT, ?_⟩
      split
      · rename_i hc; exact hF (by simpa only [Bool.not_eq_true', decide_eq_false_iff_not] using hc)
      · rename_i hc; exact ih (by simpa only [Bool.not_eq_true', decide_eq_false_iff_not, Classical.not_not] using hc)
    · simp only [F_sameBlock_l8, lt_f, Bool.false_eq_true, if_false, F_sameBlock_j1]
      intro _
      by_cases hl : a.Phis.length ≤ LEN
      rotate_left
      · exact ⟨1, fun h => absurd h hl⟩
      refine same_loop a.Phis b.Phis hl hlP _ KK (fun n i => F_sameBlock_l5 a b KK n i) (fun n i hi ih hF => ?_) (fun n h => ?_) h
      · simp only [F_sameBlock_l5, lt_t hi, if_true, Int.toNat_natCast]
        refine fun _ => ⟨⟨Int.natCast_nonneg i, hi⟩, ob2 hi hlP, fun _ => ⟨Int.natCast_nonneg i, hi⟩, fun _ => ob2 hi hlP, ?_⟩
        dsimp +instances only [Int.toNat_natCast]
        generalize hx : a.Phis.getD i default = x at ih hF ⊢
        generalize hy : b.Phis.getD i default = y at ih hF ⊢
        split
        · rename_i hc
          refine hF ?_
          intro e
          rw [e] at hc
          simp at hc
        · rename_i hc
          simp only [Bool.or_eq_true, Bool.not_eq_true', decide_eq_false_iff_not, not_or, Classical.not_not] at hc
          obtain ⟨g1, g2⟩ := hc
          have ev : decide (x = y) = (decide (x.Ins = y.Ins) && true) := by
            obtain ⟨x1, x2⟩ := x; obtain ⟨y1, y2⟩ := y
            dsimp only at g1
            subst g1
            by_cases g : x2 = y2 <;> simp [g]
          have hlV : x.Ins.length = y.Ins.length := by omega
          by_cases hl2 : x.Ins.length ≤ LEN
          rotate_left
          · refine ⟨1, ?_⟩
            simp only [F_sameBlock_l7, Int.toNat_natCast, hx]
            exact ⟨⟨Int.natCast_nonneg i, hi⟩, fun h => absurd h hl2⟩
          refine same_loop x.Ins y.Ins hl2 hlV true (fun r => (r = true → F_sameBlock_l5 a b KK n (IntKind.i64.wrap ((i : Int) + 1))) ∧ (r = false → KK false)) (fun m j => F_sameBlock_l7 a b (i : Int) (fun y1 => F_sameBlock_l5 a b KK n y1) KK m j) (fun m j hj ih2 hF2 => ?_) (fun m h => ?_) ?_
          · simp only [F_sameBlock_l7, Int.toNat_natCast, hx, hy]
            rw [if_pos (lt_t hj)]
            refine ⟨⟨Int.natCast_nonneg i, hi⟩, fun _ => ⟨⟨Int.natCast_nonneg i, hi⟩, ⟨Int.natCast_nonneg j, hj⟩, ob2 hi hlP, ob2 hj hlV, ?_⟩⟩
            rw [eq_in]
            split
            · rename_i hc; exact (hF2 (by simpa using hc)).2 rfl
            · rename_i hc; exact ih2 (by simpa using hc)
          · simp only [F_sameBlock_l7, Int.toNat_natCast, hx, hy]
            rw [if_neg (by rw [lt_f]; exact Bool.false_ne_true)]
            exact ⟨⟨Int.natCast_nonneg i, hi⟩, fun _ => h.1 rfl⟩
          · rw [← ev]
            exact ⟨fun h => ih (by simpa using h), fun h => hF (by simpa using h)⟩
      · simp only [F_sameBlock_l5, lt_f, Bool.false_eq_true, if_false, F_sameBlock_j2]
        intro _
        by_cases hl : a.Code.length ≤ LEN
        rotate_left
        · exact ⟨1, fun h => absurd h hl⟩
        refine same_loop a.Code b.Code hl hlC _ KK (fun n i => F_sameBlock_l4 a b KK n i) (fun n i hi ih hF => ?_) (fun n h => ?_) h
        · simp only [F_sameBlock_l4, lt_t hi, if_true, Int.toNat_natCast]
          refine fun _ => ⟨⟨Int.natCast_nonneg i, hi⟩, ob2 hi hlC, ?_⟩
          unfold Lt.SameInstr
          split
          · rename_i hc; exact hF (by simpa only [Bool.not_eq_true', decide_eq_false_iff_not] using hc)
          · rename_i hc; exact ih (by simpa only [Bool.not_eq_true', decide_eq_false_iff_not, Classical.not_not] using hc)
        · simp only [F_sameBlock_l4, lt_f, Bool.false_eq_true, if_false, F_sameBlock_j3]; exact fun _ => h

theorem law_SameFunc (a b : Lt.Func) (KK : Bool → Prop) (h : KK (Lt.SameFunc a b)) : F_SameFunc a b KK := by
  unfold F_SameFunc
  unfold Lt.SameFunc at h
  split
  · rename_i hc
    have : a ≠ b := by rintro rfl; simp [Lt.sameVars] at hc
    simpa [this] using h
  · rename_i hc
    simp only [Bool.or_eq_true, Bool.not_eq_true', decide_eq_false_iff_not, not_or, Classical.not_not, Lt.sameVars] at hc
    obtain ⟨⟨⟨⟨h1, h2⟩, h3⟩, h4⟩, h5⟩ := hc
    have e : decide (a = b) = (decide (a.Blocks = b.Blocks) && true) := by
      obtain ⟨a1, a2, a3, a4, a5⟩ := a; obtain ⟨b1, b2, b3, b4, b5⟩ := b
      dsimp only at h1 h2 h3 h4
      subst h1; subst h2; subst h3; subst h4
      by_cases g1 : a5 = b5 <;> simp [g1]
    rw [e] at h
    have hlB : a.Blocks.length = b.Blocks.length := by omega
    by_cases hl : a.Blocks.length ≤ LEN
    rotate_left
    · exact ⟨1, fun h => absurd h hl⟩
    refine same_loop a.Blocks b.Blocks hl hlB _ KK (fun n i => F_SameFunc_l2 a b KK n i) (fun n i hi ih hF => ?_) (fun n h => ?_) h
    · simp only [F_SameFunc_l2, lt_t hi, if_true, Int.toNat_natCast]
      refine fun _ => ⟨⟨Int.natCast_nonneg i, hi⟩, ob2 hi hlB, ?_⟩
      unfold Lt.sameBlock
      split
      · rename_i hc; exact hF (by simpa only [Bool.not_eq_true', decide_eq_false_iff_not] using hc)
      · rename_i hc; exact ih (by simpa only [Bool.not_eq_true', decide_eq_false_iff_not, Classical.not_not] using hc)
    · simp only [F_SameFunc_l2, lt_f, Bool.false_eq_true, if_false, F_SameFunc_j1]; exact fun _ => h

theorem law_Same (a b : Lt.Program) (KK : Bool → Prop) (h : KK (Lt.Same a b)) : F_Same a b KK := by
  unfold F_Same
  unfold Lt.Same at h
  split
  · rename_i hc
    have : a ≠ b := by rintro rfl; simp [Lt.sameVars] at hc
    simpa [this] using h
  · rename_i hc
    simp only [Bool.or_eq_true, Bool.not_eq_true', decide_eq_false_iff_not, not_or, Classical.not_not, Lt.sameVars, Bool.not_eq_false, beq_iff_eq] at hc
    obtain ⟨⟨⟨⟨h1, h2⟩, h3⟩, h4⟩, h5⟩ := hc
    have e : decide (a = b) = (decide (a.Classes = b.Classes) && (decide (a.Externs = b.Externs) && (decide (a.Funcs = b.Funcs) && true))) := by
      obtain ⟨a1, a2, a3, a4, a5⟩ := a; obtain ⟨b1, b2, b3, b4, b5⟩ := b
      dsimp only at h1 h3
      subst h1; subst h3
      by_cases g1 : a2 = b2 <;> by_cases g2 : a4 = b4 <;> by_cases g3 : a5 = b5 <;> simp [g1, g2, g3]
    rw [e] at h
    have hlC : a.Classes.length = b.Classes.length := by omega
    have hlE : a.Externs.length = b.Externs.length := by omega
    have hlF : a.Funcs.length = b.Funcs.length := by omega
    by_cases hl : a.Classes.length ≤ LEN
    rotate_left
    · exact ⟨1, fun h => absurd h hl⟩
    refine same_loop a.Classes b.Classes hl hlC _ KK (fun n i => F_Same_l6 a b KK n i) (fun n i hi ih hF => ?_) (fun n h => ?_) h
    · simp only [F_Same_l6, lt_t hi, if_true, Int.toNat_natCast]
      refine fun _ => ⟨⟨Int.natCast_nonneg i, hi⟩, ob2 hi hlC, fun _ => ⟨Int.natCast_nonneg i, hi⟩, fun _ => ob2 hi hlC, ?_⟩
      dsimp +instances only [Int.toNat_natCast]
      generalize hx : a.Classes.getD i default = x at ih hF ⊢
      generalize hy : b.Classes.getD i default = y at ih hF ⊢
      split
      · rename_i hc
        refine hF ?_
        intro e
        rw [e] at hc
        simp [Lt.sameVars] at hc
      · rename_i hc
        simp only [Bool.or_eq_true, Bool.not_eq_true', decide_eq_false_iff_not, not_or, Classical.not_not, Lt.sameVars] at hc
        refine ih ?_
        obtain ⟨x1, x2⟩ := x; obtain ⟨y1, y2⟩ := y
        rw [Lt.Class.mk.injEq]
        exact hc
    · simp only [F_Same_l6, lt_f, Bool.false_eq_true, if_false, F_Same_j1]
      intro _
      by_cases hl : a.Externs.length ≤ LEN
      rotate_left
      · exact ⟨1, fun h => absurd h hl⟩
      refine same_loop a.Externs b.Externs hl hlE _ KK (fun n i => F_Same_l5 a b KK n i) (fun n i hi ih hF => ?_) (fun n h => ?_) h
      · simp only [F_Same_l5, lt_t hi, if_true, Int.toNat_natCast]
        refine fun _ => ⟨⟨Int.natCast_nonneg i, hi⟩, ob2 hi hlE, ?_⟩
        rw [eq_extern]
        split
        · rename_i hc; exact hF (by simpa only [Bool.not_eq_true', decide_eq_false_iff_not] using hc)
        · rename_i hc; exact ih (by simpa only [Bool.not_eq_true', decide_eq_false_iff_not, Classical.not_not] using hc)
      · simp only [F_Same_l5, lt_f, Bool.false_eq_true, if_false, F_Same_j2]
        intro _
        by_cases hl : a.Funcs.length ≤ LEN
        rotate_left
        · exact ⟨1, fun h => absurd h hl⟩
        refine same_loop a.Funcs b.Funcs hl hlF _ KK (fun n i => F_Same_l4 a b KK n i) (fun n i hi ih hF => ?_) (fun n h => ?_) h
        · simp only [F_Same_l4, lt_t hi, if_true, Int.toNat_natCast]
          refine fun _ => ⟨⟨Int.natCast_nonneg i, hi⟩, ob2 hi hlF, ?_⟩
          unfold Lt.SameFunc
          split
          · rename_i hc; exact hF (by simpa only [Bool.not_eq_true', decide_eq_false_iff_not] using hc)
          · rename_i hc; exact ih (by simpa only [Bool.not_eq_true', decide_eq_false_iff_not, Classical.not_not] using hc)
        · simp only [F_Same_l4, lt_f, Bool.false_eq_true, if_false, F_Same_j3]; exact fun _ => h
end Go.Am
end

section
namespace Go.Am
open Go
set_option linter.unusedVariables false
set_option linter.unusedSimpArgs false

theorem upto_if {most n k : Int} {F : Int → Prop} (h : F (Lt.upto most n k)) : if decide (n ≤ most) = true then F (IntKind.i64.wrap (n + k)) else F n := by
  unfold Lt.upto at h
  by_cases hn : n ≤ most <;> simp only [hn, decide_true, decide_false, Bool.false_eq_true, if_true, if_false] at h ⊢ <;> exact h

theorem upto_ifp {most n k : Int} {F : Int → Prop} {p : Prop} (h : F (Lt.upto most n k)) : if decide (n ≤ most) = true then (p → F (IntKind.i64.wrap (n + k))) else F n := by
  unfold Lt.upto at h
  by_cases hn : n ≤ most
  · simp only [hn, decide_true, if_true] at h ⊢; exact fun _ => h
  · simp only [hn, decide_false, Bool.false_eq_true, if_false] at h ⊢; exact h

theorem law_countVars (l : List Lt.Var) (most : Int) (KK : Int → Prop) (h : KK (Lt.countVars l most)) : F_countVars l most KK := by
  unfold F_countVars; unfold Lt.countVars at h
  intro hl
  split
  · rename_i hc
    rw [if_pos (by simpa only [decide_eq_true_eq] using hc)] at h; exact h
  · rename_i hc
    rw [if_neg (by simpa only [decide_eq_true_eq] using hc)] at h
    intro _
    refine drop_loop l hl (Lt.cVars most) KK (fun n b i => F_countVars_l2 l most KK n b i) (fun n b i hi ih h => ?_) (fun n b h => ?_) _ h
    · simp only [F_countVars_l2, lt_t hi, Bool.true_and, Int.toNat_natCast]
      simp only [Lt.cVars, Lt.plus] at h
      split
      · rename_i hb
        rw [if_pos (by simpa only [decide_eq_true_eq] using hb)] at h
        refine ⟨⟨Int.natCast_nonneg i, hi⟩, fun _ => ?_⟩
        split
        · rename_i hm
          rw [if_pos (by simpa only [decide_eq_true_eq] using hm)] at h
          exact ⟨⟨Int.natCast_nonneg i, hi⟩, fun _ => ih _ h⟩
        · rename_i hm
          rw [if_neg (by simpa only [decide_eq_true_eq] using hm)] at h
          exact ih _ h
      · rename_i hb
        rw [if_neg (by simpa only [decide_eq_true_eq] using hb)] at h
        exact h
    · simp only [F_countVars_l2, lt_f, Bool.false_and, Bool.false_eq_true, if_false]; exact h

theorem law_countArgs (l : List Lt.Arg) (most : Int) (KK : Int → Prop) (h : KK (Lt.countArgs l most)) : F_countArgs l most KK := by
  unfold F_countArgs; unfold Lt.countArgs at h
  intro hl
  split
  · rename_i hc
    rw [if_pos (by simpa only [decide_eq_true_eq] using hc)] at h; exact h
  · rename_i hc
    rw [if_neg (by simpa only [decide_eq_true_eq] using hc)] at h
    intro _
    refine drop_loop l hl (Lt.cArgs most) KK (fun n b i => F_countArgs_l2 l most KK n b i) (fun n b i hi ih h => ?_) (fun n b h => ?_) _ h
    · simp only [F_countArgs_l2, lt_t hi, Bool.true_and, Int.toNat_natCast]
      simp only [Lt.cArgs, Lt.plus] at h
      split
      · rename_i hb
        rw [if_pos (by simpa only [decide_eq_true_eq] using hb)] at h
        exact ⟨⟨Int.natCast_nonneg i, hi⟩, fun _ => ih _ h⟩
      · rename_i hb
        rw [if_neg (by simpa only [decide_eq_true_eq] using hb)] at h
        exact h
    · simp only [F_countArgs_l2, lt_f, Bool.false_and, Bool.false_eq_true, if_false]; exact h

theorem law_countInstr (x : Lt.Instr) (most : Int) (hp : Lt.preCI x most) (KK : Int → Prop) (h : KK (Lt.countInstr x most)) : F_countInstr x most KK := by
  obtain ⟨⟨_, okF, _⟩, hm⟩ := hp
  unfold F_countInstr; unfold Lt.countInstr at h
  split
  · rename_i hc
    rw [if_pos hc] at h; exact h
  · rename_i hc
    rw [if_neg hc] at h
    simp only [Bool.or_eq_true, decide_eq_true_eq, not_or] at hc
    have hlF : x.Frames.length ≤ LEN := by unfold LEN; omega
    have hlO : x.Objs.length ≤ LEN := by unfold LEN; omega
    intro _ _ _
    have j2 : ∀ n, KK (Lt.cObjs most x.Objs (Lt.cFrames most x.Frames n)) → F_countInstr_j2 x most n KK := by
      intro n h
      refine drop_loop x.Frames hlF (Lt.cFrames most) (fun m => KK (Lt.cObjs most x.Objs m)) (fun n b i => F_countInstr_l7 x most KK n b i) (fun n b i hi ih h => ?_) (fun n b h => ?_) _ h
      · simp only [F_countInstr_l7, lt_t hi, Bool.true_and, Int.toNat_natCast]
        simp only [Lt.cFrames, Lt.plus] at h
        have okf := getD_list okF hi
        have j9 : ∀ b, KK (Lt.cObjs most x.Objs (Lt.cFrames most (x.Frames.drop (i + 1)) (Lt.cBinds most (x.Frames.getD i default).Vars b))) → F_countInstr_j9 x most (i : Int) (fun y1 y2 => F_countInstr_l7 x most KK n y1 y2) b KK := by
          intro b h
          refine drop_loop (x.Frames.getD i default).Vars okf.1 (Lt.cBinds most) (fun m => KK (Lt.cObjs most x.Objs (Lt.cFrames most (x.Frames.drop (i + 1)) m))) (fun q b j => F_countInstr_l10 x most (i : Int) (fun y1 y2 => F_countInstr_l7 x most KK n y1 y2) KK q b j) (fun q b j hj ih2 h => ?_) (fun q b h => ?_) _ h
          · simp only [F_countInstr_l10, Int.toNat_natCast]
            rw [lt_t hj]
            simp only [Lt.cBinds, Lt.plus, Bool.true_and] at h ⊢
            refine ⟨⟨Int.natCast_nonneg i, hi⟩, ?_⟩
            split
            · rename_i hb
              rw [if_pos (by simpa only [decide_eq_true_eq] using hb)] at h
              refine ⟨⟨Int.natCast_nonneg i, hi⟩, ⟨Int.natCast_nonneg j, hj⟩, fun _ => ?_⟩
              split
              · rename_i hm
                rw [if_pos (by simpa only [decide_eq_true_eq] using hm)] at h
                exact ⟨⟨Int.natCast_nonneg i, hi⟩, ⟨Int.natCast_nonneg j, hj⟩, fun _ => ih2 _ h⟩
              · rename_i hm
                rw [if_neg (by simpa only [decide_eq_true_eq] using hm)] at h
                exact ih2 _ h
            · rename_i hb
              rw [if_neg (by simpa only [decide_eq_true_eq] using hb)] at h
              exact ih _ h
          · simp only [F_countInstr_l10, Int.toNat_natCast]
            rw [lt_f]
            simp only [Bool.false_and, Bool.false_eq_true, if_false]
            exact ⟨⟨Int.natCast_nonneg i, hi⟩, ih _ h⟩
        split
        · rename_i hb
          rw [if_pos (by simpa only [decide_eq_true_eq] using hb)] at h
          refine ⟨⟨Int.natCast_nonneg i, hi⟩, fun _ => ?_⟩
          split
          · rename_i hm
            rw [if_pos (by simpa only [decide_eq_true_eq] using hm)] at h
            exact ⟨⟨Int.natCast_nonneg i, hi⟩, fun _ => j9 _ h⟩
          · rename_i hm
            rw [if_neg (by simpa only [decide_eq_true_eq] using hm)] at h
            exact j9 _ h
        · rename_i hb
          rw [if_neg (by simpa only [decide_eq_true_eq] using hb)] at h
          unfold F_countInstr_j3
          exact drop_loop x.Objs hlO (Lt.cObjs most) KK (fun n b i => F_countInstr_l5 x most KK n b i) (fun n b i hi ih h => by
            simp only [F_countInstr_l5, lt_t hi, Bool.true_and, Int.toNat_natCast]
            simp only [Lt.cObjs, Lt.plus] at h
            split
            · rename_i hb
              rw [if_pos (by simpa only [decide_eq_true_eq] using hb)] at h
              refine ⟨⟨Int.natCast_nonneg i, hi⟩, fun _ => ?_⟩
              split
              · rename_i hm
                rw [if_pos (by simpa only [decide_eq_true_eq] using hm)] at h
                exact ⟨⟨Int.natCast_nonneg i, hi⟩, ih _ h⟩
              · rename_i hm
                rw [if_neg (by simpa only [decide_eq_true_eq] using hm)] at h
                exact ih _ h
            · rename_i hb
              rw [if_neg (by simpa only [decide_eq_true_eq] using hb)] at h
              exact h) (fun n b h => by
            simp only [F_countInstr_l5, lt_f, Bool.false_and, Bool.false_eq_true, if_false]; exact h) _ h
      · simp only [F_countInstr_l7, lt_f, Bool.false_and, Bool.false_eq_true, if_false]
        unfold F_countInstr_j3
        exact drop_loop x.Objs hlO (Lt.cObjs most) KK (fun n b i => F_countInstr_l5 x most KK n b i) (fun n b i hi ih h => by
            simp only [F_countInstr_l5, lt_t hi, Bool.true_and, Int.toNat_natCast]
            simp only [Lt.cObjs, Lt.plus] at h
            split
            · rename_i hb
              rw [if_pos (by simpa only [decide_eq_true_eq] using hb)] at h
              refine ⟨⟨Int.natCast_nonneg i, hi⟩, fun _ => ?_⟩
              split
              · rename_i hm
                rw [if_pos (by simpa only [decide_eq_true_eq] using hm)] at h
                exact ⟨⟨Int.natCast_nonneg i, hi⟩, ih _ h⟩
              · rename_i hm
                rw [if_neg (by simpa only [decide_eq_true_eq] using hm)] at h
                exact ih _ h
            · rename_i hb
              rw [if_neg (by simpa only [decide_eq_true_eq] using hb)] at h
              exact h) (fun n b h => by
            simp only [F_countInstr_l5, lt_f, Bool.false_and, Bool.false_eq_true, if_false]; exact h) _ h
    have j1 : ∀ n, KK (Lt.cObjs most x.Objs (Lt.cFrames most x.Frames (Lt.upto most n (Lt.countArgs x.Args most)))) → F_countInstr_j1 x most n KK := by
      intro n h
      exact upto_if (F := fun n => F_countInstr_j2 x most n KK) (j2 _ h)
    exact upto_ifp (F := fun n => F_countInstr_j1 x most n KK) (j1 _ h)

theorem law_countBlock (b : Lt.Block) (most : Int) (hp : Lt.preCB b most) (KK : Int → Prop) (h : KK (Lt.countBlock b most)) : F_countBlock b most KK := by
  obtain ⟨⟨okP, okC, _⟩, hm⟩ := hp
  unfold F_countBlock; unfold Lt.countBlock at h
  split
  · rename_i hc
    rw [if_pos hc] at h; exact h
  · rename_i hc
    rw [if_neg hc] at h
    simp only [Bool.or_eq_true, decide_eq_true_eq, not_or] at hc
    have hlP : b.Phis.length ≤ LEN := by unfold LEN; omega
    have hlC : b.Code.length ≤ LEN := by unfold LEN; omega
    have hlT : b.End.To.length ≤ LEN := by unfold LEN; omega
    intro _
    have j3 : ∀ n, KK (Lt.cCode most b.Code n) → F_countBlock_j3 b most n KK := by
      intro n h
      refine drop_loop b.Code hlC (Lt.cCode most) KK (fun n m i => F_countBlock_l5 b most KK n m i) (fun n m i hi ih h => ?_) (fun n m h => ?_) _ h
      · simp only [F_countBlock_l5, lt_t hi, Bool.true_and, Int.toNat_natCast]
        simp only [Lt.cCode] at h
        split
        · rename_i hb
          rw [if_pos (by simpa only [decide_eq_true_eq] using hb)] at h
          exact ⟨⟨Int.natCast_nonneg i, hi⟩, ⟨getD_list okC hi, hm⟩, ih _ h⟩
        · rename_i hb
          rw [if_neg (by simpa only [decide_eq_true_eq] using hb)] at h
          exact h
      · simp only [F_countBlock_l5, lt_f, Bool.false_and, Bool.false_eq_true, if_false]; exact h
    have j2 : ∀ n, KK (Lt.cCode most b.Code (Lt.cPhis most b.Phis n)) → F_countBlock_j2 b most n KK := by
      intro n h
      refine drop_loop b.Phis hlP (Lt.cPhis most) (fun m => KK (Lt.cCode most b.Code m)) (fun n m i => F_countBlock_l6 b most KK n m i) (fun n m i hi ih h => ?_) (fun n m h => ?_) _ h
      · simp only [F_countBlock_l6, lt_t hi, Bool.true_and, Int.toNat_natCast]
        simp only [Lt.cPhis, Lt.plus] at h
        have okx := getD_list okP hi
        split
        · rename_i hb
          rw [if_pos (by simpa only [decide_eq_true_eq] using hb)] at h
          refine ⟨⟨Int.natCast_nonneg i, hi⟩, fun _ => ?_⟩
          refine drop_loop (b.Phis.getD i default).Ins okx.1 (Lt.cIns most) (fun m => KK (Lt.cCode most b.Code (Lt.cPhis most (b.Phis.drop (i + 1)) m))) (fun q m j => F_countBlock_l8 b most (i : Int) (fun y1 y2 => F_countBlock_l6 b most KK n y1 y2) KK q m j) (fun q m j hj ih2 h => ?_) (fun q m h => ?_) _ h
          · simp only [F_countBlock_l8, Int.toNat_natCast]
            rw [lt_t hj]
            simp only [Lt.cIns, Lt.plus, Bool.true_and] at h ⊢
            refine ⟨⟨Int.natCast_nonneg i, hi⟩, ?_⟩
            split
            · rename_i hb
              rw [if_pos (by simpa only [decide_eq_true_eq] using hb)] at h
              refine ⟨⟨Int.natCast_nonneg i, hi⟩, ⟨Int.natCast_nonneg j, hj⟩, fun _ => ?_⟩
              split
              · rename_i hm
                rw [if_pos (by simpa only [decide_eq_true_eq] using hm)] at h
                exact ⟨⟨Int.natCast_nonneg i, hi⟩, ⟨Int.natCast_nonneg j, hj⟩, fun _ => ih2 _ h⟩
              · rename_i hm
                rw [if_neg (by simpa only [decide_eq_true_eq] using hm)] at h
                exact ih2 _ h
            · rename_i hb
              rw [if_neg (by simpa only [decide_eq_true_eq] using hb)] at h
              exact ih _ h
          · simp only [F_countBlock_l8, Int.toNat_natCast]
            rw [lt_f]
            simp only [Bool.false_and, Bool.false_eq_true, if_false]
            exact ⟨⟨Int.natCast_nonneg i, hi⟩, ih _ h⟩
        · rename_i hb
          rw [if_neg (by simpa only [decide_eq_true_eq] using hb)] at h
          exact j3 _ h
      · simp only [F_countBlock_l6, lt_f, Bool.false_and, Bool.false_eq_true, if_false]
        exact j3 _ h
    have j1 : ∀ n, KK (Lt.cCode most b.Code (Lt.cPhis most b.Phis (Lt.cTo most b.End.To n))) → F_countBlock_j1 b most n KK := by
      intro n h
      refine drop_loop b.End.To hlT (Lt.cTo most) (fun m => KK (Lt.cCode most b.Code (Lt.cPhis most b.Phis m))) (fun n m i => F_countBlock_l10 b most KK n m i) (fun n m i hi ih h => ?_) (fun n m h => ?_) _ h
      · simp only [F_countBlock_l10, lt_t hi, Bool.true_and, Int.toNat_natCast]
        simp only [Lt.cTo, Lt.plus] at h
        split
        · rename_i hb
          rw [if_pos (by simpa only [decide_eq_true_eq] using hb)] at h
          exact ⟨⟨Int.natCast_nonneg i, hi⟩, fun _ => ih _ h⟩
        · rename_i hb
          rw [if_neg (by simpa only [decide_eq_true_eq] using hb)] at h
          exact j2 _ h
      · simp only [F_countBlock_l10, lt_f, Bool.false_and, Bool.false_eq_true, if_false]
        exact j2 _ h
    exact upto_ifp (F := fun n => F_countBlock_j1 b most n KK) (j1 _ h)

theorem law_FewFunc (f : Lt.Func) (most : Int) (hp : Lt.preFF f most) (KK : Int → Prop) (h : KK (Lt.FewFunc f most)) : F_FewFunc f most KK := by
  obtain ⟨okB, hm⟩ := hp
  unfold F_FewFunc; unfold Lt.FewFunc at h
  intro hl
  split
  · rename_i hc
    rw [if_pos (by simpa only [decide_eq_true_eq] using hc)] at h; exact h
  · rename_i hc
    rw [if_neg (by simpa only [decide_eq_true_eq] using hc)] at h
    intro _
    have j3 : ∀ n, KK (Lt.cBlocks most f.Blocks n) → F_FewFunc_j3 f most n KK := by
      intro n h
      refine drop_loop f.Blocks hl (Lt.cBlocks most) KK (fun n m i => F_FewFunc_l5 f most KK n m i) (fun n m i hi ih h => ?_) (fun n m h => ?_) _ h
      · simp only [F_FewFunc_l5, lt_t hi, Bool.true_and, Int.toNat_natCast]
        simp only [Lt.cBlocks] at h
        split
        · rename_i hb
          rw [if_pos (by simpa only [decide_eq_true_eq] using hb)] at h
          exact ⟨⟨Int.natCast_nonneg i, hi⟩, ⟨getD_list okB hi, hm⟩, ih _ h⟩
        · rename_i hb
          rw [if_neg (by simpa only [decide_eq_true_eq] using hb)] at h
          exact h
      · simp only [F_FewFunc_l5, lt_f, Bool.false_and, Bool.false_eq_true, if_false]; exact h
    have j2 : ∀ n, KK (Lt.cBlocks most f.Blocks (Lt.upto most n (Lt.countVars f.Vars most))) → F_FewFunc_j2 f most n KK := by
      intro n h
      exact upto_if (F := fun n => F_FewFunc_j3 f most n KK) (j3 _ h)
    have j1 : ∀ n, KK (Lt.cBlocks most f.Blocks (Lt.upto most (Lt.upto most n (Lt.countVars f.Params most)) (Lt.countVars f.Vars most))) → F_FewFunc_j1 f most n KK := by
      intro n h
      exact upto_if (F := fun n => F_FewFunc_j2 f most n KK) (j2 _ h)
    exact upto_ifp (F := fun n => F_FewFunc_j1 f most n KK) (j1 _ h)

theorem law_Few (p : Lt.Program) (most : Int) (hp : Lt.preFew p most) (KK : Bool → Prop) (h : KK (Lt.Few p most)) : F_Few p most KK := by
  obtain ⟨okF, hm⟩ := hp
  unfold F_Few; unfold Lt.Few at h
  split
  · rename_i hc
    rw [if_pos hc] at h; exact h
  · rename_i hc
    rw [if_neg hc] at h
    simp only [Bool.or_eq_true, decide_eq_true_eq, not_or] at hc
    obtain ⟨K2, hK2⟩ : ∃ K2 : Int → Prop, ∀ m, K2 m = KK (decide (m ≤ most)) := ⟨fun m => KK (decide (m ≤ most)), fun _ => rfl⟩
    rw [← hK2] at h
    have hlC : p.Classes.length ≤ LEN := by unfold LEN; omega
    have hlE : p.Externs.length ≤ LEN := by unfold LEN; omega
    have hlF : p.Funcs.length ≤ LEN := by unfold LEN; omega
    have j2 : ∀ n, K2 (Lt.cFuncs most p.Funcs n) → F_Few_j2 p most n KK := by
      intro n h
      refine drop_loop p.Funcs hlF (Lt.cFuncs most) K2 (fun n m i => F_Few_l4 p most KK n m i) (fun n m i hi ih h => ?_) (fun n m h => ?_) _ h
      · simp only [F_Few_l4, lt_t hi, Bool.true_and, Int.toNat_natCast]
        simp only [Lt.cFuncs] at h
        split
        · rename_i hb
          rw [if_pos (by simpa only [decide_eq_true_eq] using hb)] at h
          exact ⟨⟨Int.natCast_nonneg i, hi⟩, ⟨getD_list okF hi, hm⟩, ih _ h⟩
        · rename_i hb
          rw [if_neg (by simpa only [decide_eq_true_eq] using hb)] at h
          rw [hK2] at h
          exact h
      · simp only [F_Few_l4, lt_f, Bool.false_and, Bool.false_eq_true, if_false]; rw [hK2] at h; exact h
    have j1 : ∀ n, K2 (Lt.cFuncs most p.Funcs (Lt.cExterns most p.Externs n)) → F_Few_j1 p most n KK := by
      intro n h
      refine drop_loop p.Externs hlE (Lt.cExterns most) (fun m => K2 (Lt.cFuncs most p.Funcs m)) (fun n m i => F_Few_l5 p most KK n m i) (fun n m i hi ih h => ?_) (fun n m h => ?_) _ h
      · simp only [F_Few_l5, lt_t hi, Bool.true_and, Int.toNat_natCast]
        simp only [Lt.cExterns, Lt.plus] at h
        split
        · rename_i hb
          rw [if_pos (by simpa only [decide_eq_true_eq] using hb)] at h
          exact ⟨⟨Int.natCast_nonneg i, hi⟩, fun _ => ih _ h⟩
        · rename_i hb
          rw [if_neg (by simpa only [decide_eq_true_eq] using hb)] at h
          exact j2 _ h
      · simp only [F_Few_l5, lt_f, Bool.false_and, Bool.false_eq_true, if_false]
        exact j2 _ h
    refine drop_loop p.Classes hlC (Lt.cClasses most) (fun m => K2 (Lt.cFuncs most p.Funcs (Lt.cExterns most p.Externs m))) (fun n m i => F_Few_l6 p most KK n m i) (fun n m i hi ih h => ?_) (fun n m h => ?_) _ h
    · simp only [F_Few_l6, lt_t hi, Bool.true_and, Int.toNat_natCast]
      simp only [Lt.cClasses, Lt.plus] at h
      split
      · rename_i hb
        rw [if_pos (by simpa only [decide_eq_true_eq] using hb)] at h
        refine ⟨⟨Int.natCast_nonneg i, hi⟩, fun _ => ?_⟩
        split
        · rename_i hm
          rw [if_pos (by simpa only [decide_eq_true_eq] using hm)] at h
          exact ⟨⟨Int.natCast_nonneg i, hi⟩, ih _ h⟩
        · rename_i hm
          rw [if_neg (by simpa only [decide_eq_true_eq] using hm)] at h
          exact ih _ h
      · rename_i hb
        rw [if_neg (by simpa only [decide_eq_true_eq] using hb)] at h
        exact j1 _ h
    · simp only [F_Few_l6, lt_f, Bool.false_and, Bool.false_eq_true, if_false]
      exact j1 _ h
end Go.Am
end

section
namespace Go.Am
open Go
set_option linter.unusedVariables false
set_option linter.unusedSimpArgs false

theorem text5 : Lt.showText (Lt.example6 (Lt.Term.mk 3 (Lt.Arg.mk 2 [] 5) [] 0)) = ([102, 117, 110, 99, 32, 102, 32, 105, 110, 116, 10, 98, 108, 111, 99, 107, 32, 98, 10, 114, 101, 116, 32, 53, 10], 0) := by
  have hr : Lt.showRight (Lt.example6 (Lt.Term.mk 3 (Lt.Arg.mk 2 [] 5) [] 0)) = true := by decide
  have h5 : Lt.numPut 5 = [53] := by
    unfold Lt.numPut
    rw [digs_small (by decide)]
    rfl
  have hw : Lt.wordPut (Lt.Arg.mk 2 [] 5) = [53] := by
    have : Lt.wordRight (Lt.Arg.mk 2 [] 5) = true := by decide
    rw [Lt.wordPut, if_pos this, if_pos rfl]
    exact h5
  have hj : Lt.joinB (Lt.progL (Lt.example6 (Lt.Term.mk 3 (Lt.Arg.mk 2 [] 5) [] 0))) = [102, 117, 110, 99, 32, 102, 32, 105, 110, 116, 10, 98, 108, 111, 99, 107, 32, 98, 10, 114, 101, 116, 32, 53, 10] := by
    have he : Lt.endW (Lt.Term.mk 3 (Lt.Arg.mk 2 [] 5) [] 0) = [[114, 101, 116], [53]] := by
      rw [Lt.endW, if_neg (by decide), if_neg (by decide), if_pos rfl, hw]
    simp only [Lt.progL, Lt.example6, Lt.funcL, Lt.blockL, Lt.varsL, he, List.map_nil, List.flatMap_nil, List.flatMap_cons, List.append_nil, List.nil_append, List.cons_append, List.map_cons]
    decide
  rw [Lt.showText, if_pos hr, hj]
  rfl

theorem text0 : Lt.showText (Lt.example6 (Lt.Term.mk 0 (Lt.Arg.mk 0 [] 0) [] 0)) = ([], 1) := by
  have hr : Lt.showRight (Lt.example6 (Lt.Term.mk 0 (Lt.Arg.mk 0 [] 0) [] 0)) = false := by decide
  rw [Lt.showText, hr]
  rfl

theorem ok_example {t : Lt.Term} (h : t.ok) : (Lt.example6 t).ok := by
  intro f hf
  simp only [Lt.example6, List.mem_singleton] at hf
  subst hf
  intro b hb
  simp only [List.mem_singleton] at hb
  subst hb
  exact ⟨by simp, by simp, h⟩

theorem law_awake (KK : Bool → Prop) (h : KK Lt.awake) : F_awake KK := by
  unfold F_awake
  rw [text5, text0]
  refine ⟨ok_example ⟨⟨by decide, by decide⟩, by decide, by decide⟩, ok_example ⟨⟨by decide, by decide⟩, by decide, by decide⟩, ?_⟩
  exact h

theorem right_funcs {s : Bool} {c : List Lt.Class} {g : List Lt.Var} {e : List Lt.Extern} {f : Lt.Func} {r : List Lt.Func} (h : Lt.showFunction f = false) : Lt.showRight ⟨s, c, g, e, f :: r⟩ = false := by
  cases hr : Lt.showRight ⟨s, c, g, e, f :: r⟩
  · rfl
  · have := (prog_ok hr).fn f (by simp)
    rw [h] at this
    cases this

theorem end_spoilt {t : Lt.Term} (h : Lt.showEnd t = true) : Lt.showEnd ⟨t.Kind, t.A, [120] :: t.To, t.N⟩ = false := by
  cases hr : Lt.showEnd ⟨t.Kind, t.A, [120] :: t.To, t.N⟩
  · rfl
  · unfold Lt.showEnd at h hr
    rw [Bool.and_eq_true] at h hr
    replace h := h.2; replace hr := hr.2
    dsimp only at hr
    split at h
    · rename_i hk; rw [if_pos hk] at hr
      simp only [Bool.and_eq_true, decide_eq_true_eq, List.length_cons] at h hr
      omega
    · rename_i hk; rw [if_neg hk] at hr
      split at h
      · rename_i hk; rw [if_pos hk] at hr
        simp only [Bool.and_eq_true, decide_eq_true_eq, List.length_cons] at h hr
        omega
      · rename_i hk; rw [if_neg hk] at hr
        split at h
        · rename_i hk; rw [if_pos hk] at hr
          simp only [Bool.and_eq_true, decide_eq_true_eq, List.length_cons] at h hr
          omega
        · rename_i hk; rw [if_neg hk] at hr
          split at h
          · rename_i hk; rw [if_pos hk] at hr
            simp only [Bool.and_eq_true, decide_eq_true_eq, List.length_cons] at h hr
            omega
          · cases h

theorem Name_spoilt (s : List UInt8) : Lt.Name (s ++ [32]) = false := by
  have : (s ++ [32]).all Lt.nameByte = false := by
    rw [List.all_append]
    have : ([32] : List UInt8).all Lt.nameByte = false := by decide
    rw [this, Bool.and_false]
  unfold Lt.Name
  rw [this, Bool.and_false]

theorem law_ShowSpoilt (p : Lt.Program) (s : List UInt8) (hp : Lt.preSpoilt p s) (KK : Bool → Prop) (h : KK (Lt.ShowSpoilt p s)) : F_ShowSpoilt p s KK := by
  obtain ⟨hok, hs⟩ := hp
  unfold F_ShowSpoilt
  refine ⟨fun _ => ⟨hok, by decide⟩, ?_⟩
  split
  · exact h
  · rename_i hc
    simp only [Bool.or_eq_true, decide_eq_true_eq, Bool.not_eq_true', not_or, Bool.not_eq_false] at hc
    obtain ⟨⟨_, hr⟩, hne⟩ := hc
    have P := prog_ok hr
    have h0 : 0 < p.Funcs.length := by omega
    have h8 := P.nf
    have F := func_ok (getD_list P.fn h0)
    have hb : 0 < (p.Funcs.getD 0 default).Blocks.length := List.length_pos_iff.2 F.ne
    have h256 := F.len
    have B := block_ok (getD_list F.bl hb)
    have hT : (((p.Funcs.getD 0 default).Blocks.getD 0 default).End).To.length ≤ 2 := by
      have := B.2.1
      unfold Lt.showEnd at this
      rw [Bool.and_eq_true] at this
      replace this := this.2
      repeat' split at this
      all_goals simp only [Bool.and_eq_true, decide_eq_true_eq, Bool.false_eq_true] at this
      all_goals omega
    have hd : ((p.Funcs.drop 1).take (p.Funcs.length - 1)).length ≤ 8 := by rw [List.length_take, List.length_drop]; omega
    have hA : Lt.showFunction ⟨(p.Funcs.getD 0 default).Name, (p.Funcs.getD 0 default).Result, (p.Funcs.getD 0 default).Params, (p.Funcs.getD 0 default).Vars, (p.Funcs.getD 0 default).Blocks.set 0 ⟨((p.Funcs.getD 0 default).Blocks.getD 0 default).Name, ((p.Funcs.getD 0 default).Blocks.getD 0 default).Phis, ((p.Funcs.getD 0 default).Blocks.getD 0 default).Code, ⟨((p.Funcs.getD 0 default).Blocks.getD 0 default).End.Kind, ((p.Funcs.getD 0 default).Blocks.getD 0 default).End.A, [120] :: ((p.Funcs.getD 0 default).Blocks.getD 0 default).End.To, ((p.Funcs.getD 0 default).Blocks.getD 0 default).End.N⟩⟩⟩ = false := by
      generalize hg : Lt.Block.mk _ _ _ _ = b'
      have he : Lt.showEnd b'.End = false := by rw [← hg]; exact end_spoilt B.2.1
      cases hx : Lt.showFunction ⟨(p.Funcs.getD 0 default).Name, (p.Funcs.getD 0 default).Result, (p.Funcs.getD 0 default).Params, (p.Funcs.getD 0 default).Vars, (p.Funcs.getD 0 default).Blocks.set 0 b'⟩
      · rfl
      · have hm : b' ∈ (p.Funcs.getD 0 default).Blocks.set 0 b' := by
          cases hB : (p.Funcs.getD 0 default).Blocks with
          | nil => rw [hB] at hb; simp at hb
          | cons a r => simp
        have := (block_ok ((func_ok hx).bl b' hm)).2.1
        rw [he] at this
        cases this
    have hB : Lt.showFunction ⟨s ++ [32], (p.Funcs.getD 0 default).Result, (p.Funcs.getD 0 default).Params, (p.Funcs.getD 0 default).Vars, (p.Funcs.getD 0 default).Blocks⟩ = false := by
      cases hx : Lt.showFunction ⟨s ++ [32], (p.Funcs.getD 0 default).Result, (p.Funcs.getD 0 default).Params, (p.Funcs.getD 0 default).Vars, (p.Funcs.getD 0 default).Blocks⟩
      · rfl
      · have := (func_ok hx).name
        dsimp only at this
        rw [Name_spoilt] at this
        cases this
    have hC : Lt.showFunction ⟨(p.Funcs.getD 0 default).Name, (p.Funcs.getD 0 default).Result, (p.Funcs.getD 0 default).Params, (p.Funcs.getD 0 default).Vars, []⟩ = false := by
      cases hx : Lt.showFunction ⟨(p.Funcs.getD 0 default).Name, (p.Funcs.getD 0 default).Result, (p.Funcs.getD 0 default).Params, (p.Funcs.getD 0 default).Vars, []⟩
      · rfl
      · exact absurd rfl (func_ok hx).ne
    refine ⟨⟨Int.le_refl _, h0⟩, ⟨by omega, by omega⟩, ⟨Int.le_refl _, by omega⟩, ⟨by omega, by omega⟩, ⟨Int.le_refl _, by omega⟩, trivial, by omega, ⟨by omega, by omega⟩, ?_, by omega, ⟨by omega, by omega⟩, by omega, ⟨by omega, by omega⟩, ?_⟩
    · simp only [List.length_cons, List.length_nil]; omega
    · rw [right_funcs hA, right_funcs hB, right_funcs hC]
      exact h
end Go.Am
end

section
namespace Go.Am
open Go.RowKit Go.Proofs
set_option linter.unusedSimpArgs false
set_option linter.unusedVariables false

abbrev bp (b : Nat) : AV := .one (.c (.d (.v (.pointer (some ⟨b, 0, none⟩)))))
def ii (n : Nat) : AV := .one (.c (.d (.int .i64 (n : Int))))
def jst (b : Nat) (ls : List Lt.Line) (i : Nat) : S := ⟨[(3, bp b), (8, .one (.c (.d (.li (ls.map Lt.Line.enc))))), (9, ii ls.length), (10, ii i)], []⟩
def jst2 (b : Nat) (ls : List Lt.Line) (i : Nat) (ws : List (List UInt8)) (j : Nat) : S := ⟨[(3, bp b), (8, .one (.c (.d (.li (ls.map Lt.Line.enc))))), (9, ii ls.length), (10, ii i), (15, .one (.c (.d (.li (ws.map rS.enc))))), (16, ii ws.length), (17, ii j)], []⟩

attribute [push_cast] bp ii jst jst2

theorem bp_val {w : World} {H : FH} {γ : Gam} {m : Mm} {b : Nat} {y : Value} (h : AR w H γ m (bp b) y) : y = .pointer (some ⟨b, 0, none⟩) := by
  obtain ⟨_, m, h⟩ := h
  cases m <;> exact h.1


theorem wb_call {g : G} {H : FH} {b : Nat} {s : S} {l l' : List UInt8} {c : Int} {o : Oper} {cl : Call} (ho : o.op = .call cl) (hf : cl.callee = .value (.func 33)) (ha : cl.args = #[.tmp 3, .const (.int .u8 c)]) (h3 : getT s.t 3 = bp b) (hl' : Lib.byteCells l' = Lib.byteCells l ++ [.int .u8 c]) (hlen : l.length + 1 ≤ 140737488355328)
    (a : Act) (w : World) (γ : Gam) (F : Nm → Fp) (hX : RX g s a w H γ F) (hB : Lib.IsBuilder 93 5 g.w0.heap.size b (Lib.byteCells l) w) (hs : g.w0.heap.size ≤ w.heap.size) :
    o.wp Try.prog a w (fun a' w' => (∃ y, a' = a.put o.dst y) ∧ Lib.IsBuilder 93 5 g.w0.heap.size b (Lib.byteCells l') w' ∧ Below g.w0.heap.size w w') (fun _ _ _ => False) := by
  refine wp_callf ho hf (run_of_func (c := Try.f33.body.getD .skip) Try.func33 (by kernel_rfl) (by kernel_rfl)) ?_
  have e3 : a.tmps.getD 3 undef = .pointer (some ⟨b, 0, none⟩) := bp_val (by have := hX.t 3; rw [h3] at this; exact this)
  have e : cl.args.map a.eval = #[.pointer (some ⟨b, 0, none⟩), .int .u8 c] := by
    rw [ha, ← e3]; simp [Act.eval]
  rw [e]
  refine (Try.bldWriteByte _ b _ c w hB (by rw [Lib.byteCells_length]; exact hlen) hs).mono ?_
  rintro e w' ⟨rfl, h1, h2⟩
  exact ⟨_, rfl, ⟨_, rfl⟩, .inr (by rw [hl']; exact h1), h2⟩

theorem ws_call {g : G} {H : FH} {b : Nat} {s : S} {l v : List UInt8} {o : Oper} {cl : Call} (ho : o.op = .call cl) (hf : cl.callee = .value (.func 34)) (ha : cl.args = #[.tmp 3, .tmp 25]) (h3 : getT s.t 3 = bp b) (hv : getT s.t 25 = .one (.c (.d (.str v)))) (hlen : l.length + v.length ≤ 140737488355328)
    (a : Act) (w : World) (γ : Gam) (F : Nm → Fp) (hX : RX g s a w H γ F) (hB : Lib.IsBuilder 93 5 g.w0.heap.size b (Lib.byteCells l) w) (hs : g.w0.heap.size ≤ w.heap.size) :
    o.wp Try.prog a w (fun a' w' => (∃ y, a' = a.put o.dst y) ∧ Lib.IsBuilder 93 5 g.w0.heap.size b (Lib.byteCells (l ++ v)) w' ∧ Below g.w0.heap.size w w') (fun _ _ _ => False) := by
  refine wp_callf ho hf (run_of_func (c := Try.f34.body.getD .skip) Try.func34 (by kernel_rfl) (by kernel_rfl)) ?_
  have e3 : a.tmps.getD 3 undef = .pointer (some ⟨b, 0, none⟩) := bp_val (by have := hX.t 3; rw [h3] at this; exact this)
  have e4 : a.tmps.getD 25 undef = .string ⟨v.toArray⟩ := (AR_str (by have := hX.t 25; rw [hv] at this; exact this)).1
  have e : cl.args.map a.eval = #[.pointer (some ⟨b, 0, none⟩), .string ⟨v.toArray⟩] := by
    rw [ha, ← e3, ← e4]; simp [Act.eval]
  rw [e]
  refine (Try.bldWriteString _ b _ ⟨v.toArray⟩ w hB (by rw [Lib.byteCells_length]; exact hlen) hs).mono ?_
  rintro e w' ⟨rfl, h1, h2⟩
  exact ⟨_, rfl, ⟨_, rfl⟩, .inr (by rw [Lib.byteCells_append]; exact h1), h2⟩

set_option maxRecDepth 100000 in
set_option maxHeartbeats 4000000 in
theorem walk_Join (g : G) (hg : g.nt = Try.f20.ntmps) (ls : List Lt.Line) (hp : (Lt.joinB ls).length ≤ 140737488355328) (K : AV → Prop) (hK : K (o1 cS (Lt.joinB ls))) :
    AW Try.prog g (Try.f20.body.getD .skip) (retQ Try.prog [.tmp 2] K) ⟨entryT 0 [.one ((cL Lt.Line.rw).enc ls)], []⟩ := by
  have hcs : CT.Ok Try.prog [] := CT.ok0
  have hn : g.nt = 31 := hg
  have hx := True.intro
  intro a w ⟨H, γ, F, hX⟩
  let g2 : G := ⟨g.nt, w, H, fun _ => 0, g.out⟩
  have hn2 : g2.nt = 31 := hn
  have hX2 : RX g2 ⟨entryT 0 [.one ((cL Lt.Line.rw).enc ls)], []⟩ a w H γ F := ⟨hX.mem, ⟨Nat.le_refl _, rfl, rfl, rfl, fun _ _ _ => rfl, fun _ _ _ h => h, fun _ _ h1 h2 => absurd h2 h1, fun c hc => absurd rfl hc⟩, hX.nt, hX.df, hX.t⟩
  have hH : ∀ b' o', H b' o' ≠ none → b' < g2.w0.heap.size := by
    intro b' o' h
    cases hc : H b' o' with
    | none => exact absurd hc h
    | some y => exact World.block_lt_of_cell? _ _ (hX.mem.agree _ _ _ hc)
  unfold Try.f20
  dsimp only [Option.getD_some]
  refine wp_seq (Code.wp_mono (fun e a1 w1 ⟨he, s1, γ1, F1, h1, hX1⟩ => ?_) (reg_wp (g := g2) (cs := []) (k := fun s' => s' = ⟨[(0, .one (.c (.d (.li (ls.map Lt.Line.enc))))), (2, .one (.c (.d (.str []))))], []⟩) rfl (by rw [hn2]; rfl) (RK.out ?_) hX2))
  · refine stA ?_
    exact lfA
  subst he; subst h1
  refine wp_seq (Code.wp_mono (fun e a2 w2 ⟨he, s2, γ2, F2, h2, hX3⟩ => ?_) (reg_wp (g := g2) (cs := []) (k := fun s' => s' = ⟨[(0, .one (.c (.d (.li (ls.map Lt.Line.enc))))), (2, .one (.c (.d (.str [])))), (3, .one (.c (.pl ⟨.loc (93 * 1000000 + 3), 0, []⟩)))], [(.loc (93 * 1000000 + 3), ⟨true, [.d (.v (.pointer none)), .nil]⟩)]⟩) rfl (by rw [hn2]; rfl) (RK.out ?_) hX1))
  · refine stA ?_
    exact lfA
  subst he; subst h2
  obtain ⟨b, hB, hb3, hX4⟩ := to_bld (g := g2) hX3 rfl (fun _ => rfl) (i := 3) rfl
  have hRB : RB g2 H b (⟨[(0, .one (.c (.d (.li (ls.map Lt.Line.enc))))), (3, bp b)], []⟩, []) a2 w2 := by
    refine ⟨rfl, ⟨γ2, F2, hX4.mem, hX4.fr, hX4.nt, hX4.df, fun i => ?_⟩, hB⟩
    simp only [getT]
    split
    · rename_i hi; subst hi
      exact hX4.t 0
    · split
      · rename_i hi; subst hi
        rw [hb3]
        exact ⟨fun _ => rfl, 0, rfl, rfl⟩
      · trivial
  refine wp_seq (Code.wp_mono (fun e a3 w3 hl => ?_) ((?_ : BW Try.prog g2 H b _ (fun e y => e = .normal ∧ getT y.1.t 3 = bp b ∧ y.2 = Lt.joinB ls) (⟨[(0, .one (.c (.d (.li (ls.map Lt.Line.enc))))), (3, bp b)], []⟩, [])) a2 w2 hRB))
  rotate_left
  · clear hRB hX4 hX3 hX1 hX2 hB hb3
    refine BW_seq (fun K hK => ?_)
    refine BW_reg (cs := []) [3, 8, 9, 10] [] rfl (by rw [hn2]; rfl) (jst b ls 0) rfl (hK _ ?_) ?_
    rotate_left
    · iterate 3 refine stA ?_
      exact lfA
    clear hK K
    refine BW_block ?_
    refine BW_loop (fun i => (jst b ls i, Lt.joinB (ls.take i))) ls.length 0 rfl (Nat.zero_le _) (fun i hi => ?_)
    refine BW_seq (fun K hK => ?_)
    refine BW_reg (cs := []) [3, 8, 9, 10, 11] [] rfl (by rw [hn2]; rfl) ⟨(jst b ls i).t ++ [(11, .one (.c (.d (.bool (decide ((i : Int) < (ls.length : Int)))))))], []⟩ rfl (hK _ ?_) ?_
    rotate_left
    · iterate 1 refine stA ?_
      exact lfA
    clear hK K
    refine BW_seq (fun K hK => ?_)
    refine BW_cond rfl (fun hb => BW_skip (hK _ ?_)) (fun hb => BW_exit ?_)
    rotate_left
    · have : i = ls.length := by simp at hb; omega
      subst this
      show (if (0 : Nat) = 0 then _ else _)
      rw [if_pos rfl]
      exact ⟨rfl, rfl, by dsimp only; rw [List.take_length]⟩
    clear hK K
    have hil : i < ls.length := by simp at hb; omega
    refine BW_seq (fun K hK => ?_)
    refine BW_block ?_
    have hx := And.intro (show (ls.map Lt.Line.enc)[((i : Int)).toNat]? = some (Lt.Line.enc (ls.getD i default)) by rw [Int.toNat_natCast]; exact get_map _ _ hil) (And.intro (Int.natCast_nonneg i) hx)
    refine BW_reg2 (cs := []) [3, 8, 9, 10, 15, 16, 17] [.loc 5] (fun x' => x' = (jst2 b ls i (ls.getD i default).Words 0, Lt.joinB (ls.take i))) rfl rfl (by rw [hn2]; rfl) (by rw [hn2]; rfl)
      ⟨(jst b ls i).t ++ [(11, .one (.c (.d (.bool (decide ((i : Int) < (ls.length : Int))))))), (12, .one (.c (.el [.int .i64 (ls.getD i default).N, .li ((ls.getD i default).Words.map rS.enc)] 0))), (13, .one (.agg [.d (.int .i64 (ls.getD i default).N), .d (.li ((ls.getD i default).Words.map rS.enc))])), (5, .one (.c (.pl ⟨.loc 5, 0, []⟩)))], [(.loc 5, ⟨true, [.d (.int .i64 (ls.getD i default).N), .d (.li ((ls.getD i default).Words.map rS.enc))]⟩)]⟩
      (jst2 b ls i (ls.getD i default).Words 0) rfl rfl ?_ ?_ (fun x' e => ?_)
    · iterate 4 refine stA ?_
      exact lfA
    · iterate 4 refine stA ?_
      exact lfA
    subst e
    generalize hws : (ls.getD i default).Words = ws
    have hle := fun j => Lt.joinB_le ls i j hil
    rw [hws] at hle
    have hlw := Lt.jw_len ws false
    have hlw2 := hle ws.length
    rw [List.take_length] at hlw2
    have hll := Lt.joinB_len ls
    refine BW_block ?_
    refine BW_loop (fun j => (jst2 b ls i ws j, Lt.joinB (ls.take i) ++ Lt.jw false (ws.take j))) ws.length 0 (by simp [Lt.jw]) (Nat.zero_le _) (fun j hj => ?_)
    refine BW_seq (fun K2 hK2 => ?_)
    refine BW_reg (cs := []) [3, 8, 9, 10, 15, 16, 17, 18] [] rfl (by rw [hn2]; rfl) ⟨(jst2 b ls i ws j).t ++ [(18, .one (.c (.d (.bool (decide ((j : Int) < (ws.length : Int)))))))], []⟩ rfl (hK2 _ ?_) ?_
    rotate_left
    · iterate 1 refine stA ?_
      exact lfA
    clear hK2 K2
    refine BW_seq (fun K2 hK2 => ?_)
    refine BW_cond rfl (fun hb => BW_skip (hK2 _ ?_)) (fun hb => BW_exit ?_)
    rotate_left
    · have : j = ws.length := by simp at hb; omega
      subst this
      show (if (2 : Nat) = 2 then _ else _)
      rw [if_pos rfl]
      dsimp only
      refine BW_call (cs := []) [3, 8, 9, 10] [] _ (Lt.joinB (ls.take (i + 1))) rfl rfl rfl (by rw [hn2]; rfl) hH ⟨(jst2 b ls i ws ws.length).t ++ [(18, .one (.c (.d (.bool (decide ((ws.length : Int) < (ws.length : Int)))))))], []⟩ rfl
        (wb_call (c := 10) (l := Lt.joinB (ls.take i) ++ Lt.jw false (ws.take ws.length)) rfl rfl rfl rfl (by rw [Lt.joinB_take ls i hil, hws, List.take_length, Lib.byteCells_append]; rfl) (by rw [List.take_length]; simp; omega)) ?_ ⟨opsK_end rfl⟩
      refine hK _ ?_
      have hw := wrap_succ (i := i) (by omega)
      have hx := And.intro hw hx
      refine BW_reg (cs := []) [3, 8, 9, 10] [] rfl (by rw [hn2]; rfl) (jst b ls (i + 1)) rfl ⟨hil, rfl⟩ ?_
      iterate 2 refine stA ?_
      exact lfA
    clear hK2 K2
    have hjl : j < ws.length := by simp at hb; omega
    refine BW_seq (fun K2 hK2 => ?_)
    refine BW_block ?_
    refine BW_seq (fun K3 hK3 => ?_)
    have hx := And.intro (show (ws.map rS.enc)[((j : Int)).toNat]? = some (rS.enc (ws.getD j [])) by rw [Int.toNat_natCast]; exact get_map rS.enc ws hjl) (And.intro (Int.natCast_nonneg j) hx)
    refine BW_reg (cs := []) [3, 8, 9, 10, 15, 16, 17, 6, 7] [] rfl (by rw [hn2]; rfl) ⟨(jst2 b ls i ws j).t ++ [(6, ii j), (7, .one (.c (.d (.str (ws.getD j [])))))], []⟩ rfl (hK3 _ ?_) ?_
    rotate_left
    · iterate 5 refine stA ?_
      exact lfA
    clear hK3 K3
    refine BW_seq (fun K3 hK3 => ?_)
    refine BW_seq (fun K4 hK4 => ?_)
    refine BW_reg (cs := []) [3, 8, 9, 10, 15, 16, 17, 7, 23] [] rfl (by rw [hn2]; rfl) ⟨(jst2 b ls i ws j).t ++ [(7, .one (.c (.d (.str (ws.getD j []))))), (23, .one (.c (.d (.bool (decide ((0 : Int) < (j : Int)))))))], []⟩ rfl (hK4 _ ?_) ?_
    rotate_left
    · iterate 2 refine stA ?_
      exact lfA
    clear hK4 K4
    have hlj := hle (j + 1)
    rw [Lt.jw_take ws false j hjl] at hlj
    have fin : K3 (⟨(jst2 b ls i ws j).t ++ [(7, .one (.c (.d (.str (ws.getD j [])))))], []⟩, Lt.joinB (ls.take i) ++ Lt.jw false (ws.take j) ++ (if false || decide (0 < j) then [32] else [])) := by
      refine hK3 _ ?_
      refine BW_call (cs := []) [3, 8, 9, 10, 15, 16, 17] [_] _ (Lt.joinB (ls.take i) ++ Lt.jw false (ws.take (j + 1))) rfl (by rw [hn2]; rfl) rfl (by rw [hn2]; rfl) hH ⟨(jst2 b ls i ws j).t ++ [(7, .one (.c (.d (.str (ws.getD j []))))), (25, .one (.c (.d (.str (ws.getD j [])))))], []⟩ rfl
        (fun a w γ F hX hB hs => ?_) ?_ ?_
      · rw [Lt.jw_take ws false j hjl]
        simp only [← List.append_assoc]
        exact ws_call rfl rfl rfl rfl rfl (by simp only [List.length_append] at hlj ⊢; omega) a w γ F hX hB hs
      · refine hK2 _ ?_
        have hw := wrap_succ (i := j) (by omega)
        have hx := And.intro hw hx
        refine BW_reg (cs := []) [3, 8, 9, 10, 15, 16, 17] [] rfl (by rw [hn2]; rfl) (jst2 b ls i ws (j + 1)) rfl ⟨hjl, rfl⟩ ?_
        iterate 2 refine stA ?_
        exact lfA
      · refine stA ?_
        exact lfA
    refine BW_cond rfl (fun hb => ?_) (fun hb => ?_)
    · have h0 : 0 < j := by simp at hb; omega
      rw [show (false || decide (0 < j)) = true by simp [h0], if_pos rfl] at fin
      refine BW_call (cs := []) [3, 8, 9, 10, 15, 16, 17, 7] [] _ (Lt.joinB (ls.take i) ++ Lt.jw false (ws.take j) ++ [32]) rfl rfl rfl (by rw [hn2]; rfl) hH ⟨(jst2 b ls i ws j).t ++ [(7, .one (.c (.d (.str (ws.getD j []))))), (23, .one (.c (.d (.bool (decide ((0 : Int) < (j : Int)))))))], []⟩ rfl
        (wb_call (c := 32) (l := Lt.joinB (ls.take i) ++ Lt.jw false (ws.take j)) rfl rfl rfl rfl (by rw [Lib.byteCells_append]; rfl) (by have := hle j; simp only [List.length_append]; omega)) ?_ ⟨opsK_end rfl⟩
      exact fin
    · have h0 : ¬ 0 < j := by simp at hb; omega
      rw [show (false || decide (0 < j)) = false by simp [h0]] at fin
      rw [if_neg Bool.false_ne_true, List.append_nil] at fin
      refine BW_keep [3, 8, 9, 10, 15, 16, 17, 7] (BW_skip ?_)
      exact fin
  obtain ⟨y, ⟨he, h3, h4⟩, hm, ⟨γ3, F3, hX5⟩, hB5⟩ := hl
  subst he
  rw [h4] at hB5
  have e3 : a3.tmps.getD 3 undef = .pointer (some ⟨b, 0, none⟩) := bp_val (by have := hX5.t 3; rw [h3] at this; exact this)
  refine wp_seq (wp_region_lit (wpList_plain rfl (fun K' hK' => wp_callf rfl rfl (run_of_func (c := Try.f35.body.getD .skip) Try.func35 (by kernel_rfl) (by kernel_rfl)) ?_)))
  have e : (#[Operand.tmp 3] : Array Operand).map a3.eval = #[.pointer (some ⟨b, 0, none⟩)] := by
    rw [← e3]; simp [Act.eval]
  rw [e]
  refine (Try.Builder_String_any _ b (Lt.joinB ls) w3 hB5 hX5.fr.size).mono ?_
  rintro e w4 ⟨rfl, hbel⟩
  refine ⟨_, rfl, hK' _ _ ?_⟩
  have hX6 := (RX_below hX5 hm hH hbel).put (d := some 30) (by rw [hn2]; rfl) (v := .one (.c (.d (.str (Lt.joinB ls))))) (y := .string ⟨(Lt.joinB ls).toArray⟩) (AR_mk_str (by unfold BIG; omega))
  have hX7 := RX_keepT [30] hX6
  have hX8 : RX g ⟨[(30, .one (.c (.d (.str (Lt.joinB ls)))))], []⟩ (a3.put (some 30) (.string ⟨(Lt.joinB ls).toArray⟩)) w4 H γ3 F3 := by
    have hm7 : (S.put y.1 (some 30) (.one (.c (.d (.str (Lt.joinB ls)))))).m = [] := hm
    refine ⟨by have := hX7.mem; dsimp only at this; rw [hm7] at this; exact this, ?_, hX7.nt, hX7.df, fun i => ?_⟩
    · have := hX7.fr
      dsimp only at this
      rw [hm7] at this
      exact hX.fr.trans this
    · have := hX7.t i
      dsimp only at this
      rw [hm7] at this
      have e : getT (keepT [30] (S.put y.1 (some 30) (.one (.c (.d (.str (Lt.joinB ls)))))).t) i = getT [(30, .one (.c (.d (.str (Lt.joinB ls)))))] i := by
        simp only [keepT, List.map_cons, List.map_nil, S.put, getT_setT, if_true]
      rw [e] at this
      exact this
  refine wp_opsKH (g := g) (cs := []) (H := H) (k := fun s' => s' = ⟨[(30, .one (.c (.d (.str (Lt.joinB ls))))), (2, .one (.c (.d (.str (Lt.joinB ls)))))], []⟩) (fun s' a' w' γ' F' e hX9 => ?_) [_] _ _ _ γ3 F3 rfl (by rw [hn]; rfl) (RK.out ?_) hX8
  rotate_left
  · refine stA ?_
    exact lfA
  subst e
  refine wp_ret ⟨_, ?_, H, γ', F', hX9⟩
  exact fiA hK

def C_join : CK1 := pureC (fn1 (cL Lt.Line.rw) (o1 cS) (fun ls => (Lt.joinB ls).length ≤ 140737488355328) Lt.joinB)
theorem c_join : Con Try.prog 20 C_join :=
  Con_fn1 (fn := Try.f20) (c := Try.f20.body.getD .skip) (by kernel_rfl) (by kernel_rfl) (by kernel_rfl) (by decide +kernel) (fun g ls K hg hp hK => walk_Join g hg ls hp K hK)
attribute [push_cast] C_join

end Go.Am
end
