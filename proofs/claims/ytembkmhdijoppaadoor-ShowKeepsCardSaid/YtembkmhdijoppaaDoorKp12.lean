/-
  Part 12: AmN6 · AmN7 · AmN8 · AmN9 · AmJoinW · AmE3 · AmE3b · AmE3c · AmE3d · AmE3e · AmE5.
-/
import Derived.Test.YtembkmhdijoppaaDoorKp11
set_option linter.unusedSimpArgs false
set_option linter.unusedVariables false
set_option linter.unusedSectionVars false
set_option linter.unnecessarySimpa false
section
namespace Go.Am
open Go
set_option linter.unusedVariables false
set_option linter.unusedSimpArgs false

/-- a loop over two lists' places that leaves where they differ -/
theorem same_loop {α : Type} [Inhabited α] [DecidableEq α] (a b : List α) (hl : a.length ≤ LEN) (hlen : a.length = b.length) (rest : Bool) (KK : Bool → Prop) (body : (Int → Prop) → Int → Prop)
    (hs : ∀ R i, i < a.length → (a.getD i default = b.getD i default → R (IntKind.i64.wrap ((i : Int) + 1))) → (a.getD i default ≠ b.getD i default → KK false) → body R (i : Int))
    (he : ∀ R, KK rest → body R (a.length : Int)) (h : KK (decide (a = b) && rest)) : loopP body 0 := by
  refine nat_loop body a.length (fun i x => x = (i : Int) ∧ KK (decide (a.drop i = b.drop i) && rest)) (fun R i x hi hx ih => ?_) (fun R x hx => ?_) _ ⟨rfl, by simpa using h⟩
  · obtain ⟨rfl, h⟩ := hx
    have hb : i < b.length := by omega
    rw [List.drop_eq_getElem_cons hi, List.drop_eq_getElem_cons hb] at h
    have ea : a.getD i default = a[i] := by rw [List.getD, List.getElem?_eq_getElem hi]; rfl
    have eb : b.getD i default = b[i] := by rw [List.getD, List.getElem?_eq_getElem hb]; rfl
    refine hs _ i hi (fun e => ?_) (fun e => ?_)
    · refine ih _ ⟨wrap_succ (by unfold LEN at hl; omega), ?_⟩
      rw [ea, eb] at e
      simp only [e, List.cons.injEq, true_and] at h
      exact h
    · rw [ea, eb] at e
      simp only [List.cons.injEq, e, false_and, decide_false, Bool.false_and] at h
      exact h
  · obtain ⟨rfl, h⟩ := hx
    rw [List.drop_length, hlen, List.drop_length] at h
    exact he _ (by simpa using h)

/-- where how long it is is asked at each step -/
theorem same_loopX {α : Type} [Inhabited α] [DecidableEq α] (a b : List α) (hlen : a.length = b.length) (rest : Bool) (KK : Bool → Prop) (body : (Int → Prop) → Int → Prop)
    (hs : ∀ R i, a.length ≤ LEN → i < a.length → (a.getD i default = b.getD i default → R (IntKind.i64.wrap ((i : Int) + 1))) → (a.getD i default ≠ b.getD i default → KK false) → body R (i : Int))
    (he : ∀ R, KK rest → body R (a.length : Int)) (h : KK (decide (a = b) && rest)) : loopP (fun R v => a.length ≤ 4611686018427387904 → body R v) 0 := by
  by_cases hl : a.length ≤ LEN
  · exact same_loop a b hl hlen rest KK _ (fun R i hi h1 h2 _ => hs R i hl hi h1 h2) (fun R h _ => he R h) h
  · exact ⟨1, fun h => absurd h hl⟩

theorem eq_var (x y : Lt.Var) : (decide (x.Name = y.Name) && decide (x.Type_ = y.Type_)) = decide (x = y) := by
  obtain ⟨a, b⟩ := x; obtain ⟨c, d⟩ := y
  by_cases h1 : a = c <;> by_cases h2 : b = d <;> simp [h1, h2]
theorem eq_arg (x y : Lt.Arg) : (decide (x.Kind = y.Kind) && (decide (x.S = y.S) && decide (x.N = y.N))) = decide (x = y) := by
  obtain ⟨a, b, c⟩ := x; obtain ⟨d, e, f⟩ := y
  by_cases h1 : a = d <;> by_cases h2 : b = e <;> by_cases h3 : c = f <;> simp [h1, h2, h3]
theorem eq_bind (x y : Lt.Bind) : (decide (x.Name = y.Name) && (decide (x.A.Kind = y.A.Kind) && (decide (x.A.S = y.A.S) && decide (x.A.N = y.A.N)))) = decide (x = y) := by
  rw [eq_arg]
  obtain ⟨a, b⟩ := x; obtain ⟨c, d⟩ := y
  by_cases h1 : a = c <;> by_cases h2 : b = d <;> simp [h1, h2]
theorem eq_in (x y : Lt.In) : (decide (x.Block = y.Block) && (decide (x.A.Kind = y.A.Kind) && (decide (x.A.S = y.A.S) && decide (x.A.N = y.A.N)))) = decide (x = y) := by
  rw [eq_arg]
  obtain ⟨a, b⟩ := x; obtain ⟨c, d⟩ := y
  by_cases h1 : a = c <;> by_cases h2 : b = d <;> simp [h1, h2]
theorem eq_extern (x y : Lt.Extern) : (decide (x.Name = y.Name) && decide (x.N = y.N)) = decide (x = y) := by
  obtain ⟨a, b⟩ := x; obtain ⟨c, d⟩ := y
  by_cases h1 : a = c <;> by_cases h2 : b = d <;> simp [h1, h2]

theorem ob2 {α β : Type} {a : List α} {b : List β} {i : Nat} (h : i < a.length) (e : a.length = b.length) : (0 : Int) ≤ (i : Int) ∧ i < b.length := ⟨Int.natCast_nonneg i, by omega⟩

theorem law_sameVars (a b : List Lt.Var) (KK : Bool → Prop) (h : KK (Lt.sameVars a b)) : F_sameVars a b KK := by
  unfold F_sameVars; (try simp only [jn_app, jn_and, jn_imp, jval, bor, band, bnand, bimp, and_self])
  intro _ _
  unfold Lt.sameVars at h
  refine ifk (fun hc => kk h (by grind)) (fun hc => ?_)
  have hlen : a.length = b.length := by grind
  refine same_loopX a b hlen true KK _ (fun R i hl hi ih hF => ?_) (fun R h => ?_) (kk h (by simp))
  · simp only [lt_t hi, if_true, Int.toNat_natCast]
    try dsimp +instances only [Int.toNat_natCast]
    refine ⟨⟨Int.natCast_nonneg i, hi⟩, ob2 hi hlen, ?_⟩
    rw [eq_var]
    grind
  · simp only [lt_f, Bool.false_eq_true, if_false]; exact h

theorem law_sameArgs (a b : List Lt.Arg) (KK : Bool → Prop) (h : KK (Lt.sameArgs a b)) : F_sameArgs a b KK := by
  unfold F_sameArgs; (try simp only [jn_app, jn_and, jn_imp, jval, bor, band, bnand, bimp, and_self])
  intro _ _
  unfold Lt.sameArgs at h
  refine ifk (fun hc => kk h (by grind)) (fun hc => ?_)
  have hlen : a.length = b.length := by grind
  refine same_loopX a b hlen true KK _ (fun R i hl hi ih hF => ?_) (fun R h => ?_) (kk h (by simp))
  · simp only [lt_t hi, if_true, Int.toNat_natCast]
    try dsimp +instances only [Int.toNat_natCast]
    refine ⟨⟨Int.natCast_nonneg i, hi⟩, ob2 hi hlen, ?_⟩
    rw [eq_arg]
    grind
  · simp only [lt_f, Bool.false_eq_true, if_false]; exact h

theorem law_SameInstr (a b : Lt.Instr) (KK : Bool → Prop) (h : KK (Lt.SameInstr a b)) : F_SameInstr a b KK := by
  unfold F_SameInstr; (try simp only [jn_app, jn_and, jn_imp, jval, bor, band, bnand, bimp, and_self])
  unfold Lt.SameInstr at h
  unfold Lt.sameArgs
  refine ifk (fun hc => kk h (by grind)) (fun hc => ?_)
  simp only [Bool.or_eq_true, Bool.not_eq_true', decide_eq_false_iff_not, not_or, Bool.not_eq_false, decide_eq_true_eq, Classical.not_not] at hc
  obtain ⟨h1, h2, h3, h4, h5, h6⟩ := hc
  have e : decide (a = b) = (decide (a.Frames = b.Frames) && (decide (a.Objs = b.Objs) && true)) := by
    obtain ⟨a1, a2, a3, a4, a5, a6⟩ := a; obtain ⟨b1, b2, b3, b4, b5, b6⟩ := b
    dsimp only at h1 h2 h3 h4
    subst h1; subst h2; subst h3; subst h4
    by_cases g1 : a5 = b5 <;> by_cases g2 : a6 = b6 <;> simp [g1, g2]
  rw [e] at h
  have hlF : a.Frames.length = b.Frames.length := by omega
  have hlO : a.Objs.length = b.Objs.length := by omega
  refine same_loopX a.Frames b.Frames hlF _ KK _ (fun R i hl hi ih hF => ?_) (fun R h => ?_) h
  · simp only [lt_t hi, if_true, Int.toNat_natCast]
    try dsimp +instances only [Int.toNat_natCast]
    refine ⟨⟨Int.natCast_nonneg i, hi⟩, ob2 hi hlF, ?_⟩
    generalize a.Frames.getD i default = x at ih hF ⊢
    generalize b.Frames.getD i default = y at ih hF ⊢
    refine ifk (fun hc => hF (by grind)) (fun hc => ?_)
    have hlV : x.Vars.length = y.Vars.length := by grind
    refine same_loopX x.Vars y.Vars hlV true (fun b => if b = true then R (IntKind.i64.wrap ((i : Int) + 1)) else KK false) _ (fun R2 j hl hj ih2 hF2 => ?_) (fun R2 h => ?_) ?_
    · simp only [lt_t hj, if_true, Int.toNat_natCast]
      try dsimp +instances only [Int.toNat_natCast]
      refine ⟨⟨Int.natCast_nonneg j, hj⟩, ob2 hj hlV, ?_⟩
      rw [eq_bind]
      simp only [Bool.false_eq_true, if_false] at hF2
      grind
    · simp only [lt_f, Bool.false_eq_true, if_false]; simpa using h
    · refine ifk (fun hv => ih ?_) (fun hv => hF ?_)
      · obtain ⟨x1, x2, x3, x4⟩ := x; obtain ⟨y1, y2, y3, y4⟩ := y; grind
      · grind
  · simp only [lt_f, Bool.false_eq_true, if_false]
    refine same_loopX a.Objs b.Objs hlO _ KK _ (fun R i hl hi ih hF => ?_) (fun R h => ?_) h
    · simp only [lt_t hi, if_true, Int.toNat_natCast]
      try dsimp +instances only [Int.toNat_natCast]
      refine ⟨⟨Int.natCast_nonneg i, hi⟩, ob2 hi hlO, ?_⟩
      have o1 : (0 : Int) ≤ (i : Int) ∧ i < a.Objs.length := ⟨Int.natCast_nonneg i, hi⟩
      have o2 := ob2 hi hlO
      simp only [o1, o2, and_self, true_and]; (try simp only [jn_app, jn_and, jn_imp, jval, bor, band, bnand, bimp, and_self])
      generalize a.Objs.getD i default = x at ih hF ⊢
      generalize b.Objs.getD i default = y at ih hF ⊢
      obtain ⟨x1, x2⟩ := x; obtain ⟨y1, y2⟩ := y
      grind
    · simp only [lt_f, Bool.false_eq_true, if_false]; exact h

theorem law_sameBlock (a b : Lt.Block) (KK : Bool → Prop) (h : KK (Lt.sameBlock a b)) : F_sameBlock a b KK := by
  unfold F_sameBlock; (try simp only [jn_app, jn_and, jn_imp, jval, bor, band, bnand, bimp, and_self])
  unfold Lt.sameBlock at h
  rw [eq_arg]
  refine ifk (fun hc => kk h (by grind)) (fun hc => ?_)
  simp only [Bool.or_eq_true, Bool.not_eq_true', decide_eq_false_iff_not, not_or, Bool.not_eq_false, decide_eq_true_eq, Classical.not_not] at hc
  obtain ⟨h1, h2, h3, h4, h5, h6, h7⟩ := hc
  have e : decide (a = b) = (decide (a.End.To = b.End.To) && (decide (a.Phis = b.Phis) && (decide (a.Code = b.Code) && true))) := by
    obtain ⟨a1, a2, a3, ⟨a4, a5, a6, a7⟩⟩ := a; obtain ⟨b1, b2, b3, ⟨b4, b5, b6, b7⟩⟩ := b
    dsimp only at h1 h4 h5 h6
    subst h1; subst h4; subst h5; subst h6
    by_cases g1 : a2 = b2 <;> by_cases g2 : a3 = b3 <;> by_cases g3 : a6 = b6 <;> simp [g1, g2, g3]
  rw [e] at h
  have hlT : a.End.To.length = b.End.To.length := by omega
  have hlP : a.Phis.length = b.Phis.length := by omega
  have hlC : a.Code.length = b.Code.length := by omega
  refine same_loopX a.End.To b.End.To hlT _ KK _ (fun R i hl hi ih hF => ?_) (fun R h => ?_) h
  · simp only [lt_t hi, if_true, Int.toNat_natCast]
    try dsimp +instances only [Int.toNat_natCast]
    refine ⟨⟨Int.natCast_nonneg i, hi⟩, ob2 hi hlT, ?_⟩
    grind
  · simp only [lt_f, Bool.false_eq_true, if_false]
    refine same_loopX a.Phis b.Phis hlP _ KK _ (fun R i hl hi ih hF => ?_) (fun R h => ?_) h
    · simp only [lt_t hi, if_true, Int.toNat_natCast]
      try dsimp +instances only [Int.toNat_natCast]
      have o1 : (0 : Int) ≤ (i : Int) ∧ i < a.Phis.length := ⟨Int.natCast_nonneg i, hi⟩
      have o2 := ob2 hi hlP
      simp only [o1, o2, and_self, true_and]; (try simp only [jn_app, jn_and, jn_imp, jval, bor, band, bnand, bimp, and_self])
      generalize a.Phis.getD i default = x at ih hF ⊢
      generalize b.Phis.getD i default = y at ih hF ⊢
      obtain ⟨x1, x2⟩ := x; obtain ⟨y1, y2⟩ := y
      dsimp only
      refine ifk (fun hc => hF (by grind)) (fun hc => ?_)
      have hlV : x2.length = y2.length := by grind
      refine same_loopX x2 y2 hlV true (fun b => if b = true then R (IntKind.i64.wrap ((i : Int) + 1)) else KK false) _ (fun R2 j hl hj ih2 hF2 => ?_) (fun R2 h => ?_) ?_
      · simp only [lt_t hj, if_true, Int.toNat_natCast]
        try dsimp +instances only [Int.toNat_natCast]
        have p1 : (0 : Int) ≤ (j : Int) ∧ j < x2.length := ⟨Int.natCast_nonneg j, hj⟩
        have p2 := ob2 hj hlV
        simp only [p1, p2, and_self, true_and]
        rw [eq_in]
        simp only [Bool.false_eq_true, if_false] at hF2
        grind
      · simp only [lt_f, Bool.false_eq_true, if_false]; simpa using h
      · exact ifk (fun hv => ih (by grind)) (fun hv => hF (by grind))
    · simp only [lt_f, Bool.false_eq_true, if_false]
      refine same_loopX a.Code b.Code hlC _ KK _ (fun R i hl hi ih hF => ?_) (fun R h => ?_) h
      · simp only [lt_t hi, if_true, Int.toNat_natCast]
        try dsimp +instances only [Int.toNat_natCast]
        refine ⟨⟨Int.natCast_nonneg i, hi⟩, ob2 hi hlC, ?_⟩
        unfold Lt.SameInstr
        grind
      · simp only [lt_f, Bool.false_eq_true, if_false]; exact h

theorem law_SameFunc (a b : Lt.Func) (KK : Bool → Prop) (h : KK (Lt.SameFunc a b)) : F_SameFunc a b KK := by
  unfold F_SameFunc; (try simp only [jn_app, jn_and, jn_imp, jval, bor, band, bnand, bimp, and_self])
  unfold Lt.SameFunc at h
  unfold Lt.sameVars
  refine ifk (fun hc => kk h (by grind)) (fun hc => ?_)
  simp only [Bool.or_eq_true, Bool.not_eq_true', decide_eq_false_iff_not, not_or, Bool.not_eq_false, decide_eq_true_eq, Classical.not_not] at hc
  obtain ⟨h1, h2, h3, h4, h5⟩ := hc
  have e : decide (a = b) = (decide (a.Blocks = b.Blocks) && true) := by
    obtain ⟨a1, a2, a3, a4, a5⟩ := a; obtain ⟨b1, b2, b3, b4, b5⟩ := b
    dsimp only at h1 h2 h3 h4
    subst h1; subst h2; subst h3; subst h4
    by_cases g1 : a5 = b5 <;> simp [g1]
  rw [e] at h
  have hlB : a.Blocks.length = b.Blocks.length := by omega
  refine same_loopX a.Blocks b.Blocks hlB _ KK _ (fun R i hl hi ih hF => ?_) (fun R h => ?_) h
  · simp only [lt_t hi, if_true, Int.toNat_natCast]
    try dsimp +instances only [Int.toNat_natCast]
    refine ⟨⟨Int.natCast_nonneg i, hi⟩, ob2 hi hlB, ?_⟩
    generalize a.Blocks.getD i default = x at ih hF ⊢
    generalize b.Blocks.getD i default = y at ih hF ⊢
    obtain ⟨x1, x2, x3, ⟨x4, x5, x6, x7⟩⟩ := x; obtain ⟨y1, y2, y3, ⟨y4, y5, y6, y7⟩⟩ := y
    unfold Lt.sameBlock
    dsimp only
    grind
  · simp only [lt_f, Bool.false_eq_true, if_false]; exact h

theorem law_Same (a b : Lt.Program) (KK : Bool → Prop) (h : KK (Lt.Same a b)) : F_Same a b KK := by
  unfold F_Same; (try simp only [jn_app, jn_and, jn_imp, jval, bor, band, bnand, bimp, and_self])
  unfold Lt.Same at h
  unfold Lt.sameVars Lt.SameFunc
  refine ifk (fun hc => kk h (by grind)) (fun hc => ?_)
  simp only [Bool.or_eq_true, Bool.not_eq_true', decide_eq_false_iff_not, not_or, Bool.not_eq_false, decide_eq_true_eq, Classical.not_not, beq_iff_eq] at hc
  obtain ⟨h1, h2, h3, h4, h5⟩ := hc
  have e : decide (a = b) = (decide (a.Classes = b.Classes) && (decide (a.Externs = b.Externs) && (decide (a.Funcs = b.Funcs) && true))) := by
    obtain ⟨a1, a2, a3, a4, a5⟩ := a; obtain ⟨b1, b2, b3, b4, b5⟩ := b
    dsimp only at h1 h3
    subst h1; subst h3
    by_cases g1 : a2 = b2 <;> by_cases g2 : a4 = b4 <;> by_cases g3 : a5 = b5 <;> simp [g1, g2, g3]
  rw [e] at h
  have hlC : a.Classes.length = b.Classes.length := by omega
  have hlE : a.Externs.length = b.Externs.length := by omega
  have hlF : a.Funcs.length = b.Funcs.length := by omega
  refine same_loopX a.Classes b.Classes hlC _ KK _ (fun R i hl hi ih hF => ?_) (fun R h => ?_) h
  · simp only [lt_t hi, if_true, Int.toNat_natCast]
    try dsimp +instances only [Int.toNat_natCast]
    have o1 : (0 : Int) ≤ (i : Int) ∧ i < a.Classes.length := ⟨Int.natCast_nonneg i, hi⟩
    have o2 := ob2 hi hlC
    simp only [o1, o2, and_self, true_and]; (try simp only [jn_app, jn_and, jn_imp, jval, bor, band, bnand, bimp, and_self])
    generalize a.Classes.getD i default = x at ih hF ⊢
    generalize b.Classes.getD i default = y at ih hF ⊢
    obtain ⟨x1, x2⟩ := x; obtain ⟨y1, y2⟩ := y
    grind
  · simp only [lt_f, Bool.false_eq_true, if_false]
    refine same_loopX a.Externs b.Externs hlE _ KK _ (fun R i hl hi ih hF => ?_) (fun R h => ?_) h
    · simp only [lt_t hi, if_true, Int.toNat_natCast]
      try dsimp +instances only [Int.toNat_natCast]
      refine ⟨⟨Int.natCast_nonneg i, hi⟩, ob2 hi hlE, ?_⟩
      rw [eq_extern]
      grind
    · simp only [lt_f, Bool.false_eq_true, if_false]
      refine same_loopX a.Funcs b.Funcs hlF _ KK _ (fun R i hl hi ih hF => ?_) (fun R h => ?_) h
      · simp only [lt_t hi, if_true, Int.toNat_natCast]
        try dsimp +instances only [Int.toNat_natCast]
        refine ⟨⟨Int.natCast_nonneg i, hi⟩, ob2 hi hlF, ?_⟩
        grind
      · simp only [lt_f, Bool.false_eq_true, if_false]; exact h
end Go.Am
end

section
namespace Go.Am
open Go
set_option linter.unusedVariables false
set_option linter.unusedSimpArgs false

/-- a loop that counts while it isn't too much -/
theorem cnt_loop {α : Type} [Inhabited α] (l : List α) (most : Int) (go : List α → Int → Int) (h0 : ∀ b, go [] b = b) (h1 : ∀ x r b, ¬ b ≤ most → go (x :: r) b = b) (KK : Int → Prop) (A B : (Int × Int → Prop) → Int × Int → Prop)
    (hs : ∀ R b i, l.length ≤ LEN → i < l.length → b ≤ most → (∀ b', KK (go (l.drop (i + 1)) b') → R (b', IntKind.i64.wrap ((i : Int) + 1))) → KK (go (l.getD i default :: l.drop (i + 1)) b) → A R (b, (i : Int)))
    (he : ∀ R b i, KK b → B R (b, i)) (b : Int) (h : KK (go l b)) : loopP (fun R v => l.length ≤ 4611686018427387904 → if (decide (v.2 < (l.length : Int)) && decide (v.1 ≤ most)) = true then A R v else B R v) (b, 0) := by
  by_cases hl : l.length ≤ LEN
  · refine drop_loop l hl go KK _ (fun R b i hi ih h _ => ?_) (fun R b h _ => ?_) b h
    · by_cases hb : b ≤ most
      · rw [if_pos (by simp only [lt_t hi, hb, decide_true, Bool.and_self])]
        exact hs R b i hl hi hb ih h
      · rw [if_neg (by simp [hb])]
        rw [h1 _ _ _ hb] at h
        exact he R b i h
    · rw [if_neg (by simp)]
      rw [h0] at h
      exact he R b _ h
  · exact ⟨1, fun h => absurd h hl⟩


theorem law_countVars (l : List Lt.Var) (most : Int) (KK : Int → Prop) (h : KK (Lt.countVars l most)) : F_countVars l most KK := by
  unfold F_countVars; (try simp only [jn_app, jn_and, jn_imp, jn_const, jn_ite, jval, bor, band, bnand, bimp, and_self])
  unfold Lt.countVars at h
  intro _
  refine ifk (fun hc => kk h (by grind)) (fun hc _ => ?_)
  refine cnt_loop l most (Lt.cVars most) (fun _ => rfl) (fun x r b hb => by simp [Lt.cVars, hb]) KK _ _ (fun R b i hl hi hb ih h => ?_) (fun R b i h => h) _ (kk h (by grind))
  simp only [Int.toNat_natCast]
  try dsimp +instances only [Int.toNat_natCast]
  refine ⟨⟨Int.natCast_nonneg i, hi⟩, fun _ => ?_⟩
  simp only [Lt.cVars, Lt.plus, hb, if_true] at h
  have o := ob hi
  grind

theorem law_countArgs (l : List Lt.Arg) (most : Int) (KK : Int → Prop) (h : KK (Lt.countArgs l most)) : F_countArgs l most KK := by
  unfold F_countArgs; (try simp only [jn_app, jn_and, jn_imp, jn_const, jn_ite, jval, bor, band, bnand, bimp, and_self])
  unfold Lt.countArgs at h
  intro _
  refine ifk (fun hc => kk h (by grind)) (fun hc _ => ?_)
  refine cnt_loop l most (Lt.cArgs most) (fun _ => rfl) (fun x r b hb => by simp [Lt.cArgs, hb]) KK _ _ (fun R b i hl hi hb ih h => ?_) (fun R b i h => h) _ (kk h (by grind))
  simp only [Int.toNat_natCast]
  try dsimp +instances only [Int.toNat_natCast]
  refine ⟨⟨Int.natCast_nonneg i, hi⟩, fun _ => ?_⟩
  simp only [Lt.cArgs, Lt.plus, hb, if_true] at h
  exact ih _ h

theorem law_countInstr (x : Lt.Instr) (most : Int) (hp : Lt.preCI x most) (KK : Int → Prop) (h : KK (Lt.countInstr x most)) : F_countInstr x most KK := by
  obtain ⟨⟨_, okF, _⟩, hm⟩ := hp
  unfold F_countInstr; (try simp only [jn_app, jn_and, jn_imp, jval, bor, band, bnand, bimp, and_self])
  unfold Lt.countInstr at h
  intro _
  refine ifk (fun hc => kk h (by grind)) (fun hc _ _ _ => ?_)
  rw [if_neg hc] at h
  intro J hJ
  have hj : J (Lt.upto most (Lt.plus (Lt.plus (Lt.plus 1 x.Dst.length) x.Frames.length) x.Objs.length) (x.Name.length : Int)) := by
    refine hJ _ ?_
    dsimp only
    refine cnt_loop x.Frames most (Lt.cFrames most) (fun _ => rfl) (fun x r b hb => by simp [Lt.cFrames, hb]) (fun n => KK (Lt.cObjs most x.Objs n)) _ _ (fun R b i hl hi hb ih h => ?_) (fun R b i h => ?_) _ (kk h (by unfold Lt.upto; grind))
    · simp only [Int.toNat_natCast]
      try dsimp +instances only [Int.toNat_natCast]
      have o : (0 : Int) ≤ (i : Int) ∧ i < x.Frames.length := ⟨Int.natCast_nonneg i, hi⟩
      simp only [o, and_self, true_and]
      intro _
      simp only [Lt.cFrames, Lt.plus, hb, if_true] at h
      have okf := getD_list okF hi
      generalize x.Frames.getD i default = f at h okf ⊢
      intro J2 hJ2
      have hj2 : J2 (if IntKind.i64.wrap (b + (f.Func.length : Int)) ≤ most then IntKind.i64.wrap (IntKind.i64.wrap (b + (f.Func.length : Int)) + (f.Block.length : Int)) else IntKind.i64.wrap (b + (f.Func.length : Int))) := by
        refine hJ2 _ ?_
        refine cnt_loop f.Vars most (Lt.cBinds most) (fun _ => rfl) (fun x r b hb => by simp [Lt.cBinds, hb]) (fun n => KK (Lt.cObjs most x.Objs (Lt.cFrames most (x.Frames.drop (i + 1)) n))) _ _ (fun R2 b2 j hl2 hj hb2 ih2 h => ?_) (fun R2 b2 j h => ?_) _ (kk h (by grind))
        · simp only [Int.toNat_natCast]
          try dsimp +instances only [Int.toNat_natCast]
          have o2 : (0 : Int) ≤ (j : Int) ∧ j < f.Vars.length := ⟨Int.natCast_nonneg j, hj⟩
          simp only [o2, and_self, true_and]; (try simp only [jn_app, jn_and, jn_imp, jn_const, jn_ite, jval, bor, band, bnand, bimp, and_self])
          intro _
          simp only [Lt.cBinds, Lt.plus, hb2, if_true] at h
          grind
        · exact ih _ h
      grind
    · refine cnt_loop x.Objs most (Lt.cObjs most) (fun _ => rfl) (fun x r b hb => by simp [Lt.cObjs, hb]) KK _ _ (fun R b i hl hi hb ih h => ?_) (fun R b i h => h) _ h
      simp only [Int.toNat_natCast]
      try dsimp +instances only [Int.toNat_natCast]
      have o : (0 : Int) ≤ (i : Int) ∧ i < x.Objs.length := ⟨Int.natCast_nonneg i, hi⟩
      simp only [o, and_self, true_and]; (try simp only [jn_app, jn_and, jn_imp, jn_const, jn_ite, jval, bor, band, bnand, bimp, and_self])
      intro _
      simp only [Lt.cObjs, Lt.plus, hb, if_true] at h
      grind
  unfold Lt.upto Lt.plus at hj
  grind

theorem law_countBlock (b : Lt.Block) (most : Int) (hp : Lt.preCB b most) (KK : Int → Prop) (h : KK (Lt.countBlock b most)) : F_countBlock b most KK := by
  obtain ⟨⟨okP, okC, okE⟩, hm⟩ := hp
  unfold F_countBlock; (try simp only [jn_app, jn_and, jn_imp, jval, bor, band, bnand, bimp, and_self])
  unfold Lt.countBlock at h
  intro _
  refine ifk (fun hc => kk h (by grind)) (fun hc _ => ?_)
  rw [if_neg (by simpa only [Bool.or_assoc] using hc)] at h
  intro J hJ
  have hj : J (Lt.upto most (Lt.plus 1 b.Name.length) (b.End.A.S.length : Int)) := by
    refine hJ _ ?_
    refine cnt_loop b.End.To most (Lt.cTo most) (fun _ => rfl) (fun x r b hb => by simp [Lt.cTo, hb]) (fun n => KK (Lt.cCode most b.Code (Lt.cPhis most b.Phis n))) _ _ (fun R n i hl hi hb ih h => ?_) (fun R n i h => ?_) _ h
    · simp only [Int.toNat_natCast]
      try dsimp +instances only [Int.toNat_natCast]
      refine ⟨⟨Int.natCast_nonneg i, hi⟩, fun _ => ?_⟩
      simp only [Lt.cTo, Lt.plus, hb, if_true] at h
      exact ih _ h
    · refine cnt_loop b.Phis most (Lt.cPhis most) (fun _ => rfl) (fun x r b hb => by simp [Lt.cPhis, hb]) (fun n => KK (Lt.cCode most b.Code n)) _ _ (fun R n i hl hi hb ih h => ?_) (fun R n i h => ?_) _ h
      · simp only [Int.toNat_natCast]
        try dsimp +instances only [Int.toNat_natCast]
        have o : (0 : Int) ≤ (i : Int) ∧ i < b.Phis.length := ⟨Int.natCast_nonneg i, hi⟩
        simp only [o, and_self, true_and]
        intro _
        simp only [Lt.cPhis, Lt.plus, hb, if_true] at h
        generalize b.Phis.getD i default = x at h ⊢
        refine cnt_loop x.Ins most (Lt.cIns most) (fun _ => rfl) (fun x r b hb => by simp [Lt.cIns, hb]) (fun n => KK (Lt.cCode most b.Code (Lt.cPhis most (b.Phis.drop (i + 1)) n))) _ _ (fun R2 b2 j hl2 hj hb2 ih2 h => ?_) (fun R2 b2 j h => ?_) _ h
        · simp only [Int.toNat_natCast]
          try dsimp +instances only [Int.toNat_natCast]
          have o2 : (0 : Int) ≤ (j : Int) ∧ j < x.Ins.length := ⟨Int.natCast_nonneg j, hj⟩
          simp only [o2, and_self, true_and]; (try simp only [jn_app, jn_and, jn_imp, jn_const, jn_ite, jval, bor, band, bnand, bimp, and_self])
          intro _
          simp only [Lt.cIns, Lt.plus, hb2, if_true] at h
          grind
        · exact ih _ h
      · refine cnt_loop b.Code most (Lt.cCode most) (fun _ => rfl) (fun x r b hb => by simp [Lt.cCode, hb]) KK _ _ (fun R n i hl hi hb ih h => ?_) (fun R n i h => h) _ h
        simp only [Int.toNat_natCast]
        try dsimp +instances only [Int.toNat_natCast]
        refine ⟨⟨Int.natCast_nonneg i, hi⟩, ⟨getD_list okC hi, hm⟩, ?_⟩
        simp only [Lt.cCode, hb, if_true] at h
        exact ih _ h
  unfold Lt.upto Lt.plus at hj
  grind

theorem law_FewFunc (f : Lt.Func) (most : Int) (hp : Lt.preFF f most) (KK : Int → Prop) (h : KK (Lt.FewFunc f most)) : F_FewFunc f most KK := by
  obtain ⟨okB, hm⟩ := hp
  unfold F_FewFunc; (try simp only [jn_app, jn_and, jn_imp, jval, bor, band, bnand, bimp, and_self])
  unfold Lt.FewFunc at h
  intro _
  refine ifk (fun hc => kk h (by grind)) (fun hc _ => ?_)
  rw [if_neg (by simpa using hc)] at h
  intro J hJ
  have hj : J (Lt.upto most (Lt.plus 1 f.Name.length) (f.Result.length : Int)) := by
    refine hJ _ ?_
    refine cnt_loop f.Blocks most (Lt.cBlocks most) (fun _ => rfl) (fun x r b hb => by simp [Lt.cBlocks, hb]) KK _ _ (fun R n i hl hi hb ih h => ?_) (fun R n i h => h) _ (kk h (by unfold Lt.upto; grind))
    simp only [Int.toNat_natCast]
    try dsimp +instances only [Int.toNat_natCast]
    refine ⟨⟨Int.natCast_nonneg i, hi⟩, ⟨getD_list okB hi, hm⟩, ?_⟩
    simp only [Lt.cBlocks, hb, if_true] at h
    exact ih _ h
  unfold Lt.upto Lt.plus at hj
  grind

theorem law_Few (p : Lt.Program) (most : Int) (hp : Lt.preFew p most) (KK : Bool → Prop) (h : KK (Lt.Few p most)) : F_Few p most KK := by
  obtain ⟨okF, hm⟩ := hp
  unfold F_Few; (try simp only [jn_app, jn_and, jn_imp, jn_const, jn_ite, jval, bor, band, bnand, bimp, and_self])
  unfold Lt.Few at h
  intro _
  refine ifk (fun hc => kk h (by grind)) (fun hc => ?_)
  rw [if_neg (by simpa only [Bool.or_assoc] using hc)] at h
  refine cnt_loop p.Classes most (Lt.cClasses most) (fun _ => rfl) (fun x r b hb => by simp [Lt.cClasses, hb]) (fun n => KK (decide (Lt.cFuncs most p.Funcs (Lt.cExterns most p.Externs n) ≤ most))) _ _ (fun R n i hl hi hb ih h => ?_) (fun R n i h => ?_) _ h
  · simp only [Int.toNat_natCast]
    try dsimp +instances only [Int.toNat_natCast]
    have o : (0 : Int) ≤ (i : Int) ∧ i < p.Classes.length := ⟨Int.natCast_nonneg i, hi⟩
    simp only [o, and_self, true_and]
    intro _
    simp only [Lt.cClasses, Lt.plus, hb, if_true] at h
    grind
  · refine cnt_loop p.Externs most (Lt.cExterns most) (fun _ => rfl) (fun x r b hb => by simp [Lt.cExterns, hb]) (fun n => KK (decide (Lt.cFuncs most p.Funcs n ≤ most))) _ _ (fun R n i hl hi hb ih h => ?_) (fun R n i h => ?_) _ h
    · simp only [Int.toNat_natCast]
      try dsimp +instances only [Int.toNat_natCast]
      refine ⟨⟨Int.natCast_nonneg i, hi⟩, fun _ => ?_⟩
      simp only [Lt.cExterns, Lt.plus, hb, if_true] at h
      exact ih _ h
    · refine cnt_loop p.Funcs most (Lt.cFuncs most) (fun _ => rfl) (fun x r b hb => by simp [Lt.cFuncs, hb]) (fun n => KK (decide (n ≤ most))) _ _ (fun R n i hl hi hb ih h => ?_) (fun R n i h => h) _ h
      simp only [Int.toNat_natCast]
      try dsimp +instances only [Int.toNat_natCast]
      refine ⟨⟨Int.natCast_nonneg i, hi⟩, ⟨getD_list okF hi, hm⟩, ?_⟩
      simp only [Lt.cFuncs, hb, if_true] at h
      exact ih _ h
end Go.Am
end

section
namespace Go.Am
open Go
set_option linter.unusedVariables false
set_option linter.unusedSimpArgs false

theorem text5 : Lt.showText (Lt.example6 (Lt.Term.mk 3 (Lt.Arg.mk 2 [] 5) [] 0)) = ([102, 117, 110, 99, 32, 102, 32, 105, 110, 116, 10, 98, 108, 111, 99, 107, 32, 98, 10, 114, 101, 116, 32, 53, 10], 0) := by
  have hr : Lt.showRight (Lt.example6 (Lt.Term.mk 3 (Lt.Arg.mk 2 [] 5) [] 0)) = true := by decide
  have h5 : Lt.numPut 5 = [53] := by
    unfold Lt.numPut
    rw [digs_small (by decide)]
    rfl
  have hw : Lt.wordPut (Lt.Arg.mk 2 [] 5) = [53] := by
    have : Lt.wordRight (Lt.Arg.mk 2 [] 5) = true := by decide
    rw [Lt.wordPut, if_pos this, if_pos rfl]
    exact h5
  have hj : Lt.joinB (Lt.progL (Lt.example6 (Lt.Term.mk 3 (Lt.Arg.mk 2 [] 5) [] 0))) = [102, 117, 110, 99, 32, 102, 32, 105, 110, 116, 10, 98, 108, 111, 99, 107, 32, 98, 10, 114, 101, 116, 32, 53, 10] := by
    have he : Lt.endW (Lt.Term.mk 3 (Lt.Arg.mk 2 [] 5) [] 0) = [[114, 101, 116], [53]] := by
      rw [Lt.endW, if_neg (by decide), if_neg (by decide), if_pos rfl, hw]
    simp only [Lt.progL, Lt.example6, Lt.funcL, Lt.blockL, Lt.varsL, he, List.map_nil, List.flatMap_nil, List.flatMap_cons, List.append_nil, List.nil_append, List.cons_append, List.map_cons]
    decide
  rw [Lt.showText, if_pos hr, hj]
  rfl

theorem text0 : Lt.showText (Lt.example6 (Lt.Term.mk 0 (Lt.Arg.mk 0 [] 0) [] 0)) = ([], 1) := by
  have hr : Lt.showRight (Lt.example6 (Lt.Term.mk 0 (Lt.Arg.mk 0 [] 0) [] 0)) = false := by decide
  rw [Lt.showText, hr]
  rfl

theorem ok_example {t : Lt.Term} (h : t.ok) : (Lt.example6 t).ok := by
  intro f hf
  simp only [Lt.example6, List.mem_singleton] at hf
  subst hf
  intro b hb
  simp only [List.mem_singleton] at hb
  subst hb
  exact ⟨by simp, by simp, h⟩

theorem law_awake (KK : Bool → Prop) (h : KK Lt.awake) : F_awake KK := by
  unfold F_awake; (try simp only [jn_app, jn_and, jn_imp, jval, bor, band, bnand, bimp, and_self])
  rw [text5, text0]
  exact ⟨ok_example ⟨⟨by decide, by decide⟩, by decide, by decide⟩, ok_example ⟨⟨by decide, by decide⟩, by decide, by decide⟩, h⟩

/-! the document's -/

/-- a loop that hangs on -/
theorem app_loop {α β : Type} [Inhabited α] (l : List α) (g : α → List β) (out : List β) (body : (List β × Int → Prop) → List β × Int → Prop)
    (hs : ∀ R i b, l.length ≤ LEN → i < l.length → b = out ++ (l.take i).flatMap g → R (b ++ g (l.getD i default), IntKind.i64.wrap ((i : Int) + 1)) → body R (b, (i : Int)))
    (he : ∀ R, l.length ≤ LEN → body R (out ++ l.flatMap g, (l.length : Int))) : loopP (fun R v => l.length ≤ 4611686018427387904 → body R v) (out, 0) := by
  by_cases hl : l.length ≤ LEN
  · refine idx_loop l.length hl (fun i => out ++ (l.take i).flatMap g) _ (fun R i hi ih _ => ?_) (fun R _ => ?_) (by simp)
    · refine hs R i _ hl hi rfl ?_
      rw [flat_snoc g l hi, ← List.append_assoc] at ih
      exact ih
    · have := he R hl
      rw [List.take_length]
      exact this
  · exact ⟨1, fun h => absurd h hl⟩

theorem flat_le {α β : Type} [Inhabited α] (g : α → List β) (l : List α) {i : Nat} (h : i < l.length) : ((l.take i).flatMap g).length + (g (l.getD i default)).length ≤ (l.flatMap g).length := by
  have e : l.flatMap g = (l.take (i + 1)).flatMap g ++ (l.drop (i + 1)).flatMap g := by rw [← List.flatMap_append, List.take_append_drop]
  rw [e, flat_snoc g l h]
  simp only [List.length_append]
  omega

theorem jw_ge : ∀ (ws : List (List UInt8)), ws.length ≤ (Lt.jw true ws).length
  | [] => by simp
  | w :: r => by
    have := jw_ge r
    rw [Lt.jw]
    simp only [List.length_append, List.length_cons, List.length_nil, if_true]
    omega
theorem lnT_ge (ws : List (List UInt8)) : ws.length ≤ (Lt.lnT ws).length := by
  unfold Lt.lnT
  cases ws with
  | nil => simp
  | cons w r =>
    have := jw_ge r
    rw [Lt.jw]
    simp only [List.length_append, List.length_cons, List.length_nil]
    omega

theorem law_rPut (out : List UInt8) (l : List (List UInt8)) (hp : Lt.preRPut out l) (KK : List UInt8 → Prop) (h : KK (Lt.rPut out l)) : F_rPut out l KK := by
  unfold F_rPut; (try simp only [jn_app, jn_and, jn_imp, jval, bor, band, bnand, bimp, and_self])
  unfold Lt.preRPut Lt.room at hp
  by_cases hl : l.length ≤ LEN
  rotate_left
  · exact ⟨1, fun h => absurd h hl⟩
  have hlen : (Lt.rPut out l).length ≤ 1099511627776 := by simpa [Lt.rPut] using hp
  refine nat_loop _ l.length (fun i x => ∃ b, x = (b, (i : Int)) ∧ b ++ Lt.jw (decide (0 < i)) (l.drop i) ++ [10] = Lt.rPut out l) (fun R i x hi hP hR => ?_) (fun R x hP => ?_) _ ⟨out, rfl, by simp [Lt.rPut, Lt.lnT]⟩
  · obtain ⟨b, rfl, e⟩ := hP
    have ed : l.getD i default = l[i] := by rw [List.getD, List.getElem?_eq_getElem hi]; rfl
    rw [List.drop_eq_getElem_cons hi, Lt.jw, ← ed] at e
    have el := congrArg List.length e
    simp only [List.length_append, List.length_cons, List.length_nil] at el
    simp only [lt_t hi, if_true, Int.toNat_natCast]
    try dsimp +instances only [Int.toNat_natCast]
    intro _ J hJ
    have hj : J (b ++ (if decide (0 < i) = true then [32] else [])) := by
      refine hJ _ ⟨⟨Int.natCast_nonneg i, hi⟩, ?_, ?_⟩
      · simp only [List.length_append]; omega
      · refine hR _ ⟨_, by rw [wrap_succ (by unfold LEN at hl; omega)], ?_⟩
        rw [← e]
        have : decide (0 < i + 1) = true := by simp
        rw [this]
        simp only [List.append_assoc]
    by_cases h0 : 0 < i
    · have h1 : decide ((0 : Int) < (i : Int)) = true := by simp; omega
      simp only [h0, decide_true, if_true, List.length_cons, List.length_nil] at hj el
      rw [if_pos h1]
      exact ⟨by simp only [List.length_cons, List.length_nil]; omega, hj⟩
    · have h1 : decide ((0 : Int) < (i : Int)) = false := by simp; omega
      simp only [h0, decide_false, Bool.false_eq_true, if_false, List.append_nil] at hj
      rw [h1]
      simpa using hj
  · obtain ⟨b, rfl, e⟩ := hP
    rw [List.drop_length, Lt.jw, List.append_nil] at e
    have el := congrArg List.length e
    simp only [List.length_append, List.length_cons, List.length_nil] at el
    intro _
    simp only [lt_f, Bool.false_eq_true, if_false]
    refine ⟨by simp only [List.length_cons, List.length_nil]; omega, ?_⟩
    rw [e]; exact h

theorem law_rVars (out first : List UInt8) (l : List Lt.Var) (hp : Lt.preRVars out first l) (KK : List UInt8 → Prop) (h : KK (Lt.rVars out first l)) : F_rVars out first l KK := by
  unfold F_rVars; (try simp only [jn_app, jn_and, jn_imp, jval, bor, band, bnand, bimp, and_self])
  unfold Lt.preRVars Lt.rVarsT at hp
  refine app_loop l (fun v => Lt.lnT [first, v.Name, v.Type_]) out _ (fun R i b hl hi hb ih => ?_) (fun R hl => ?_)
  · simp only [lt_t hi, if_true, Int.toNat_natCast]
    try dsimp +instances only [Int.toNat_natCast]
    have := flat_le (fun v : Lt.Var => Lt.lnT [first, v.Name, v.Type_]) l hi
    refine ⟨⟨Int.natCast_nonneg i, hi⟩, ⟨Int.natCast_nonneg i, hi⟩, ?_, ih⟩
    unfold Lt.preRPut
    rw [hb, List.length_append]
    omega
  · simp only [lt_f, Bool.false_eq_true, if_false]; exact h

theorem law_rSize (n : Int) (KK : Int → Prop) (h : KK (Lt.rSize n)) : F_rSize n KK := by
  unfold F_rSize; (try simp only [jn_app, jn_and, jn_imp, jval, bor, band, bnand, bimp, and_self])
  refine kk h ?_
  unfold Lt.rSize; grind

theorem rSize_eq {n : Int} (h : Lt.inR n) : Lt.rSize n = (n.natAbs : Int) := by
  unfold Lt.inR at h
  unfold Lt.rSize
  simp only [IntKind.wrap, IntKind.signed, IntKind.bits]
  split <;> simp <;> omega

theorem law_rNum (n : Int) (hp : Lt.preNum n) (KK : List UInt8 → Prop) (h : KK (Lt.rNum n)) : F_rNum n KK := by
  unfold Lt.preNum at hp
  unfold F_rNum; (try simp only [jn_app, jn_and, jn_imp, jval, bor, band, bnand, bimp, and_self])
  rw [rSize_eq hp]
  have hdl := digs_len 18 n.natAbs (by unfold Lt.inR at hp; omega)
  unfold Lt.inR at hp
  intro J hJ
  have hj : J (Lt.digs n.natAbs) := by
    refine hJ _ ?_
    unfold Lt.rNum Lt.numPut at h
    refine ifk (fun hc => ⟨?_, kk h ?_⟩) (fun hc => kk h ?_)
    · simp only [List.length_cons, List.length_nil]; omega
    · rw [if_pos (by simpa using hc)]
    · rw [if_neg (by simpa using hc)]; rfl
  have step : ∀ (m : Nat) (acc : List UInt8) (R : List UInt8 × Int → Prop), m ≤ 9223372036854775808 → Lt.digs m ++ acc = Lt.digs n.natAbs → (¬ m < 10 → R (UInt8.ofNat (48 + m % 10) :: acc, ((m / 10 : Nat) : Int))) →
      (10 : Int) ≠ 0 ∧ (([UInt8.ofNat (IntKind.u8.wrap (IntKind.u64.wrap (48 + Int.tmod (m : Int) 10))).toNat] : List UInt8).length + acc.length ≤ 4611686018427387904 ∧ (([UInt8.ofNat (IntKind.u8.wrap (IntKind.u64.wrap (48 + Int.tmod (m : Int) 10))).toNat] : List UInt8).length + acc.length) * 1 ≤ 140737488355328) ∧ (10 : Int) ≠ 0 ∧
        if decide (IntKind.u64.wrap (Int.tdiv (m : Int) 10) = 0) = true then J ([UInt8.ofNat (IntKind.u8.wrap (IntKind.u64.wrap (48 + Int.tmod (m : Int) 10))).toNat] ++ acc)
        else R ([UInt8.ofNat (IntKind.u8.wrap (IntKind.u64.wrap (48 + Int.tmod (m : Int) 10))).toNat] ++ acc, IntKind.u64.wrap (Int.tdiv (m : Int) 10)) := by
    intro m acc R hm e hR
    have w : IntKind.u64.wrap (48 + Int.tmod (m : Int) 10) = ((48 + m % 10 : Nat) : Int) := by
      rw [show (48 + Int.tmod (m : Int) 10) = ((48 + m % 10 : Nat) : Int) from rfl]
      exact wrapu_small (by omega)
    have w2 : UInt8.ofNat (IntKind.u8.wrap ((48 + m % 10 : Nat) : Int)).toNat = UInt8.ofNat (48 + m % 10) := by
      simp only [IntKind.wrap, IntKind.signed, IntKind.bits]
      congr 1
      simp
      omega
    have w3 : IntKind.u64.wrap (Int.tdiv (m : Int) 10) = ((m / 10 : Nat) : Int) := by
      rw [show Int.tdiv (m : Int) 10 = ((m / 10 : Nat) : Int) from rfl]
      exact wrapu_small (by omega)
    have el := congrArg List.length e
    rw [List.length_append] at el
    rw [w, w2, w3]
    refine ⟨by decide, ⟨by simp only [List.length_cons, List.length_nil]; omega, by simp only [List.length_cons, List.length_nil]; omega⟩, by decide, ?_⟩
    refine ifk (fun hc => ?_) (fun hc => ?_)
    · have h10 : m < 10 := by
        simp only [decide_eq_true_eq] at hc; omega
      rw [digs_small h10] at e
      rw [Nat.mod_eq_of_lt h10]
      rw [e]; exact hj
    · exact hR (by simp only [decide_eq_true_eq] at hc; omega)
  refine nat_loop _ 20 (fun i x => ∃ (m : Nat) (acc : List UInt8), x = (acc, (m : Int)) ∧ m < 10 ^ (20 - i) ∧ m ≤ 9223372036854775808 ∧ Lt.digs m ++ acc = Lt.digs n.natAbs) (fun R i x hi hP hR => ?_) (fun R x hP => ?_) _ ⟨n.natAbs, [], rfl, by omega, by omega, by simp⟩
  · obtain ⟨m, acc, rfl, hm, hm2, e⟩ := hP
    refine step m acc R hm2 e (fun h10 => hR _ ⟨m / 10, _, rfl, ?_, by omega, ?_⟩)
    · rw [show 20 - i = (20 - (i + 1)) + 1 by omega, Nat.pow_succ] at hm
      omega
    · rw [digs_big h10] at e
      rw [← e]; simp
  · obtain ⟨m, acc, rfl, hm, hm2, e⟩ := hP
    exact step m acc R hm2 e (fun h10 => absurd hm (by omega))

theorem u8w (y : Int) : (((UInt8.ofNat (IntKind.u8.wrap y).toNat).toNat : Nat) : Int) = IntKind.u8.wrap y := by
  simp only [IntKind.wrap, IntKind.signed, IntKind.bits, UInt8.toNat_ofNat']
  simp
  omega

theorem law_rFlo (n : Int) (KK : List UInt8 → Prop) (h : KK (Lt.rFlo n)) : F_rFlo n KK := by
  unfold F_rFlo; (try simp only [jn_app, jn_and, jn_imp, jval, bor, band, bnand, bimp, and_self])
  unfold Lt.rFlo at h
  have hb : ∀ x : Int, (if decide ((((UInt8.ofNat (IntKind.u8.wrap (Int.tmod x 16)).toNat).toNat : Nat) : Int) < (((10 : UInt8).toNat : Nat) : Int)) = true then UInt8.ofNat (IntKind.u8.wrap ((((UInt8.ofNat (IntKind.u8.wrap (Int.tmod x 16)).toNat).toNat : Nat) : Int) + (((48 : UInt8).toNat : Nat) : Int))).toNat
      else UInt8.ofNat (IntKind.u8.wrap ((((UInt8.ofNat (IntKind.u8.wrap (Int.tmod x 16)).toNat).toNat : Nat) : Int) + (((87 : UInt8).toNat : Nat) : Int))).toNat) = Lt.hexB x := by
    intro x
    rw [u8w]
    have e10 : (((10 : UInt8).toNat : Nat) : Int) = 10 := rfl
    have e48 : (((48 : UInt8).toNat : Nat) : Int) = 48 := rfl
    have e87 : (((87 : UInt8).toNat : Nat) : Int) = 87 := rfl
    rw [e10, e48, e87]
    unfold Lt.hexB
    by_cases hc : IntKind.u8.wrap (Int.tmod x 16) < 10
    · rw [if_pos (by simpa using hc), if_pos hc]
    · rw [if_neg (by simpa using hc), if_neg hc]
  refine nat_loop _ 16 (fun i x => ∃ (y : Int) (acc : List UInt8), x = (y, acc, (i : Int)) ∧ acc.length = i ∧ Lt.hexR (16 - i) y acc = Lt.hexR 16 (IntKind.u64.wrap (Lt.rPlain n)) []) (fun R i x hi hP hR => ?_) (fun R x hP => ?_) _ ⟨_, [], rfl, rfl, rfl⟩
  · obtain ⟨y, acc, rfl, hl, e⟩ := hP
    have hd : decide ((i : Int) < 16) = true := by simp; omega
    dsimp only
    rw [hb, if_pos hd]
    refine ⟨by decide, ⟨by simp only [List.length_cons, List.length_nil]; omega, by simp only [List.length_cons, List.length_nil]; omega⟩, by decide, hR _ ⟨_, _, by rw [wrap_succ (by omega)], by simp [hl], ?_⟩⟩
    rw [show 16 - i = (16 - (i + 1)) + 1 by omega, Lt.hexR] at e
    exact e
  · obtain ⟨y, acc, rfl, hl, e⟩ := hP
    have hd : decide (((16 : Nat) : Int) < 16) = false := by decide
    dsimp only
    rw [if_neg (by rw [hd]; exact Bool.false_ne_true)]
    refine ⟨by simp only [List.length_cons, List.length_nil]; omega, ?_⟩
    rw [show 16 - 16 = 0 from rfl, Lt.hexR] at e
    rw [e]; exact h

theorem law_rIsNan (n : Int) (KK : Bool → Prop) (h : KK (Lt.rIsNan n)) : F_rIsNan n KK := by
  unfold F_rIsNan; (try simp only [jn_app, jn_and, jn_imp, jval, bor, band, bnand, bimp, and_self])
  exact ⟨by decide, h⟩

theorem law_rPlain (n : Int) (KK : Int → Prop) (h : KK (Lt.rPlain n)) : F_rPlain n KK := by
  unfold F_rPlain; (try simp only [jn_app, jn_and, jn_imp, jval, bor, band, bnand, bimp, and_self]); exact h

theorem law_rRight (a : Lt.Arg) (KK : Bool → Prop) (h : KK (Lt.rRight a)) : F_rRight a KK := by
  unfold F_rRight; (try simp only [jn_app, jn_and, jn_imp, jval, bor, band, bnand, bimp, and_self])
  refine kk h ?_
  unfold Lt.rRight
  obtain ⟨k, s, n⟩ := a
  dsimp only
  by_cases k1 : k = 1
  · subst k1; simp
  by_cases k2 : k = 2
  · subst k2; by_cases hs : s = [] <;> simp [hs]
  by_cases k3 : k = 3
  · subst k3; by_cases hs : s = [] <;> simp [hs]
  by_cases k4 : k = 4
  · subst k4; by_cases hs : s = [] <;> simp [hs]
  by_cases k5 : k = 5
  · subst k5; by_cases hs : s = [] <;> simp [hs, Bool.and_assoc]
  have : k < 1 ∨ 5 < k := by omega
  have e : (decide (k < 1) || decide (5 < k)) = true := by simpa using this
  grind

theorem law_rName (s : List UInt8) (KK : Bool → Prop) (h : KK (Lt.rName s)) : F_rName s KK := by
  unfold F_rName; (try simp only [jn_app, jn_and, jn_imp, jval, bor, band, bnand, bimp, and_self])
  by_cases hl : s.length ≤ LEN
  rotate_left
  · exact ⟨1, fun h => absurd h hl⟩
  refine nat_loop _ s.length (fun i x => x = (i : Int) ∧ ∀ j, j < i → Lt.rNameB j (s.getD j 0) = true) (fun R i x hi hP hR => ?_) (fun R x hP => ?_) _ ⟨rfl, by omega⟩
  · obtain ⟨rfl, hP⟩ := hP
    simp only [lt_t hi, if_true, Int.toNat_natCast]
    try dsimp +instances only [Int.toNat_natCast]
    intro _
    refine ⟨⟨Int.natCast_nonneg i, hi⟩, ?_⟩
    have key : Lt.rNameB i (s.getD i 0) = true → R (IntKind.i64.wrap ((i : Int) + 1)) := fun hc => hR _ ⟨by rw [wrap_succ (by unfold LEN at hl; omega)], fun j hj => by
      by_cases e : j = i
      · rw [e]; exact hc
      · exact hP j (by omega)⟩
    have key2 : Lt.rNameB i (s.getD i 0) = false → KK false := fun hc => by
      have : Lt.rName s = false := by
        unfold Lt.rName
        rw [Bool.and_eq_false_iff]
        refine .inl ?_
        rw [List.all_eq_false]
        exact ⟨i, by simpa using hi, by rw [hc]; exact Bool.false_ne_true⟩
      rw [this] at h; exact h
    unfold Lt.rNameB at key key2
    clear hP hR h
    generalize s.getD i 0 = c at key key2 ⊢
    have e48 : (((48 : UInt8).toNat : Nat) : Int) = 48 := rfl
    have e57 : (((57 : UInt8).toNat : Nat) : Int) = 57 := rfl
    have e95 : (((95 : UInt8).toNat : Nat) : Int) = 95 := rfl
    have e65 : (((65 : UInt8).toNat : Nat) : Int) = 65 := rfl
    have e90 : (((90 : UInt8).toNat : Nat) : Int) = 90 := rfl
    have e97 : (((97 : UInt8).toNat : Nat) : Int) = 97 := rfl
    have e122 : (((122 : UInt8).toNat : Nat) : Int) = 122 := rfl
    simp only [e48, e57, e95, e65, e90, e97, e122]
    generalize ((c.toNat : Nat) : Int) = z at key key2 ⊢
    grind
  · obtain ⟨rfl, hP⟩ := hP
    intro _
    simp only [lt_f, Bool.false_eq_true, if_false]
    intro _
    refine kk h ?_
    have : (List.range s.length).all (fun i => Lt.rNameB i (s.getD i 0)) = true := by
      rw [List.all_eq_true]
      intro j hj
      exact hP j (by simpa using hj)
    unfold Lt.rName
    rw [this, Bool.true_and]
    simp only [Bool.and_assoc]

theorem law_rWord (a : Lt.Arg) (hp : Lt.prePut a) (KK : List UInt8 → Prop) (h : KK (Lt.rWord a)) : F_rWord a KK := by
  unfold F_rWord; (try simp only [jn_app, jn_and, jn_imp, jval, bor, band, bnand, bimp, and_self]); unfold Lt.rWord at h
  unfold Lt.prePut Lt.Arg.ok at hp
  have hq : Lt.preNum a.N := hp
  have := numPut_len hp
  have e : (35 :: Lt.rNum a.N).length ≤ 4611686018427387904 := by simp only [List.length_cons, Lt.rNum]; omega
  grind

theorem law_rArgs (l : List (List UInt8)) (a : List Lt.Arg) (hp : Lt.preRArgs l a) (KK : List (List UInt8) → Prop) (h : KK (Lt.rArgs l a)) : F_rArgs l a KK := by
  unfold F_rArgs; (try simp only [jn_app, jn_and, jn_imp, jval, bor, band, bnand, bimp, and_self])
  obtain ⟨hok, hp⟩ := hp
  unfold Lt.room at hp
  have e : ∀ l : List Lt.Arg, (l.flatMap fun x => [Lt.rWord x]) = l.map Lt.rWord := fun l => by induction l <;> simp_all
  refine app_loop a (fun x => [Lt.rWord x]) l _ (fun R i b hl hi hb ih => ?_) (fun R hl => ?_)
  · simp only [lt_t hi, if_true, Int.toNat_natCast]
    try dsimp +instances only [Int.toNat_natCast]
    have := flat_le (fun x => [Lt.rWord x]) a hi
    rw [e, e, List.length_map] at this
    refine ⟨⟨Int.natCast_nonneg i, hi⟩, hok _ (mem_getD _ hi), ?_, ih⟩
    rw [hb, e]
    simp only [List.length_append, List.length_map, List.length_take, List.length_cons, List.length_nil]
    omega
  · simp only [lt_f, Bool.false_eq_true, if_false]; rw [e]; exact h

theorem law_rEnds (out : List UInt8) (t : Lt.Term) (hp : Lt.preREnds out t) (KK : List UInt8 → Prop) (h : KK (Lt.rEnds out t)) : F_rEnds out t KK := by
  obtain ⟨⟨okA, okN⟩, hp⟩ := hp
  unfold F_rEnds; (try simp only [jn_app, jn_and, jn_imp, jval, bor, band, bnand, bimp, and_self])
  unfold Lt.rEnds at h
  refine ifk (fun hc => kk h ?_) (fun hc => ?_)
  · unfold Lt.rEndT
    rw [if_pos (by simpa using hc)]; simp
  · have hk : ¬ (t.Kind < 1 ∨ 4 < t.Kind) := by simpa using hc
    unfold Lt.rEndT at h hp
    rw [if_neg hk] at h hp
    have hlen : t.To.length ≤ 1099511627776 := by
      have := lnT_ge (Lt.rEndW t)
      have h2 : t.To.length ≤ (Lt.rEndW t).length := by unfold Lt.rEndW; simp only [List.length_append]; omega
      unfold Lt.room at hp
      omega
    refine ⟨⟨by omega, by simp only [List.length_cons, List.length_nil]; omega⟩, ?_⟩
    generalize hw : ([[], [106, 117, 109, 112], [98, 114, 97, 110, 99, 104], [114, 101, 116], [116, 114, 97, 112]] : List (List UInt8)).getD t.Kind.toNat default = w
    have he : Lt.rEndW t = ([w] ++ (if t.Kind = 2 ∨ t.Kind = 3 then [Lt.rWord t.A] else [])) ++ t.To ++ (if t.Kind = 4 then [Lt.rNum t.N] else []) := by
      rw [← hw]; rfl
    intro J hJ
    have hj : J ([w] ++ (if t.Kind = 2 ∨ t.Kind = 3 then [Lt.rWord t.A] else [])) := by
      refine hJ _ ?_
      generalize hv : ([w] ++ (if t.Kind = 2 ∨ t.Kind = 3 then [Lt.rWord t.A] else [])) = v at he
      have hvl : v.length ≤ 2 := by rw [← hv]; split <;> simp
      refine ⟨⟨by omega, by omega⟩, ?_⟩
      intro J2 hJ2
      have hj2 : J2 (Lt.rEndW t) := hJ2 _ ⟨hp, h⟩
      rw [he] at hj2
      refine ifk (fun hc => ⟨okN, ?_, ?_⟩) (fun hc => ?_)
      · simp only [List.length_append, List.length_cons, List.length_nil]; omega
      · rw [if_pos (by simpa using hc)] at hj2; exact hj2
      · rw [if_neg (by simpa using hc), List.append_nil] at hj2; exact hj2
    refine ifk (fun hc => ⟨okA, ?_, ?_⟩) (fun hc => ?_)
    · simp
    · rw [if_pos (by simpa using hc)] at hj; exact hj
    · rw [if_neg (by simpa using hc)] at hj; exact hj

theorem law_rOf (n : Int) (KK : Lt.RForm × Bool → Prop) (h : KK (Lt.rOf n)) : F_rOf n KK := by
  by_cases hr : n < 1 ∨ 34 < n
  · unfold F_rOf Lt.rOf at *
    rw [if_pos hr] at h
    simp only [jn_app, jval, bor]
    rw [if_pos (by simpa using hr)]
    exact h
  · have : n = 1 ∨ n = 2 ∨ n = 3 ∨ n = 4 ∨ n = 5 ∨ n = 6 ∨ n = 7 ∨ n = 8 ∨ n = 9 ∨ n = 10 ∨ n = 11 ∨ n = 12 ∨ n = 13 ∨ n = 14 ∨ n = 15 ∨ n = 16 ∨ n = 17 ∨ n = 18 ∨ n = 19 ∨ n = 20 ∨ n = 21 ∨ n = 22 ∨ n = 23 ∨ n = 24 ∨ n = 25 ∨ n = 26 ∨ n = 27 ∨ n = 28 ∨ n = 29 ∨ n = 30 ∨ n = 31 ∨ n = 32 ∨ n = 33 ∨ n = 34 := by omega
    rcases this with rfl | rfl | rfl | rfl | rfl | rfl | rfl | rfl | rfl | rfl | rfl | rfl | rfl | rfl | rfl | rfl | rfl | rfl | rfl | rfl | rfl | rfl | rfl | rfl | rfl | rfl | rfl | rfl | rfl | rfl | rfl | rfl | rfl | rfl
    all_goals
      simp [Lt.rOf] at h
      simp [F_rOf, jn_app, gw]
      exact h
end Go.Am
end

section
namespace Go.Am
open Go
set_option linter.unusedVariables false
set_option linter.unusedSimpArgs false

theorem law_rCode (out : List UInt8) (x : Lt.Instr) (hp : Lt.preRCode out x) (KK : List UInt8 → Prop) (h : KK (Lt.rCode out x)) : F_rCode out x KK := by
  obtain ⟨⟨okA, okF, okO⟩, okAt, hp⟩ := hp
  unfold Lt.rCodeT Lt.room at hp
  simp only [List.length_append] at hp
  unfold F_rCode; (try simp only [jn_app, jn_and, jn_imp, jval, bor, band, bnand, bimp, and_self])
  intro J hJ
  have hw := lnT_ge (Lt.rWords x)
  have j1 : J (if (Lt.rOf x.Op).1.Dst = true then [x.Dst, [61]] else []) := by
    refine hJ _ ?_
    generalize hv : (if (Lt.rOf x.Op).1.Dst = true then [x.Dst, [61]] else []) = v
    have hh : Lt.rHead x = v ++ [(Lt.rOf x.Op).1.Word] := by rw [← hv]; rfl
    have hvl : v.length ≤ 2 := by rw [← hv]; split <;> simp
    refine ⟨⟨by simp only [List.length_cons, List.length_nil]; omega, by simp only [List.length_cons, List.length_nil]; omega⟩, ?_⟩
    rw [← hh]
    have hhl : (Lt.rHead x).length ≤ 3 := by rw [hh]; simp; omega
    intro J2 hJ2
    have j2 : J2 (Lt.rWords x) := by
      refine hJ2 _ ⟨by unfold Lt.preRPut Lt.room; omega, ?_⟩
      refine app_loop x.Frames (fun f => Lt.lnT (Lt.rFrameW f)) (Lt.rPut out (Lt.rWords x)) _ (fun R i b hl hi hb ih => ?_) (fun R hl => ?_)
      · simp only [lt_t hi, if_true, Int.toNat_natCast]
        try dsimp +instances only [Int.toNat_natCast]
        have o : (0 : Int) ≤ (i : Int) ∧ i < x.Frames.length := ⟨Int.natCast_nonneg i, hi⟩
        have pN : Lt.preNum (x.Frames.getD i default).At := getD_list okAt hi
        simp only [o, pN, and_self, true_and]; (try simp only [jn_app, jn_and, jn_imp, jval, bor, band, bnand, bimp, and_self])
        have fl := flat_le (fun f => Lt.lnT (Lt.rFrameW f)) x.Frames hi
        have okf := getD_list okF hi
        generalize x.Frames.getD i default = f at fl okf pN ih ⊢
        have hbl : b.length + (Lt.lnT (Lt.rFrameW f)).length ≤ 1099511627776 := by
          rw [hb]
          simp only [Lt.rPut, List.length_append]
          omega
        have hfw := lnT_ge (Lt.rFrameW f)
        have hfl : (Lt.rFrameW f).length = 4 + 2 * f.Vars.length := by
          simp only [Lt.rFrameW, List.length_append, flat2, List.length_cons, List.length_nil]
        refine app_loop f.Vars (fun v => [v.Name, Lt.rWord v.A]) _ _ (fun R2 j w hl2 hj hw ih2 => ?_) (fun R2 hl2 => ?_)
        · simp only [lt_t hj, if_true, Int.toNat_natCast]
          try dsimp +instances only [Int.toNat_natCast]
          have o2 : (0 : Int) ≤ (j : Int) ∧ j < f.Vars.length := ⟨Int.natCast_nonneg j, hj⟩
          have pA : Lt.prePut (f.Vars.getD j default).A := okf.2 _ (mem_getD _ hj)
          simp only [o2, pA, and_self, true_and]; (try simp only [jn_app, jn_and, jn_imp, jval, bor, band, bnand, bimp, and_self])
          refine ⟨?_, ih2⟩
          rw [hw]
          simp only [List.length_append, flat2, List.length_cons, List.length_nil, List.length_take]
          omega
        · simp only [lt_f, Bool.false_eq_true, if_false]
          refine ⟨?_, ih⟩
          unfold Lt.preRPut Lt.room
          exact hbl
      · simp only [lt_f, Bool.false_eq_true, if_false]
        refine app_loop x.Objs (fun o => Lt.lnT (Lt.rVirtW o)) _ _ (fun R i b hl hi hb ih => ?_) (fun R hl => ?_)
        · simp only [lt_t hi, if_true, Int.toNat_natCast]
          try dsimp +instances only [Int.toNat_natCast]
          have fl := flat_le (fun o => Lt.lnT (Lt.rVirtW o)) x.Objs hi
          have oko := getD_list okO hi
          have o : (0 : Int) ≤ (i : Int) ∧ i < x.Objs.length := ⟨Int.natCast_nonneg i, hi⟩
          refine ⟨o, o, ?_⟩
          generalize x.Objs.getD i default = v at fl oko ih ⊢
          have hbl : b.length + (Lt.lnT (Lt.rVirtW v)).length ≤ 1099511627776 := by
            rw [hb]
            simp only [Lt.rPut, List.length_append]
            omega
          have hfw := lnT_ge (Lt.rVirtW v)
          have hfl : (Lt.rVirtW v).length = 2 + v.Vals.length := by
            simp only [Lt.rVirtW, List.length_append, List.length_map, List.length_cons, List.length_nil]
          refine ⟨⟨oko, ?_⟩, ?_, ih⟩
          · unfold Lt.room
            simp only [List.length_cons, List.length_nil]
            omega
          · unfold Lt.preRPut Lt.room
            exact hbl
        · simp only [lt_f, Bool.false_eq_true, if_false]
          unfold Lt.rCode Lt.rCodeT at h
          simp only [Lt.rPut, List.append_assoc] at h ⊢
          exact h
    have hlen := hw
    refine ifk (fun hc => ?_) (fun hc => ?_)
    · have hc' : (x.Op = 26 ∨ x.Op = 27) ∧ x.Args ≠ [] := by
        cases hx : x.Args with
        | nil => rw [hx] at hc; simp at hc
        | cons a r =>
          rw [hx] at hc
          refine ⟨?_, by simp⟩
          by_cases h26 : x.Op = 26
          · exact .inl h26
          · by_cases h27 : x.Op = 27
            · exact .inr h27
            · simp [h26, h27] at hc
      have hne : 1 ≤ x.Args.length := by
        have := hc'.2
        cases hx : x.Args with
        | nil => exact absurd hx this
        | cons a r => simp
      have e : Lt.rWords x = Lt.rHead x ++ (x.Args.take 1).map Lt.rWord ++ [x.Name] ++ (x.Args.drop 1).map Lt.rWord := by
        unfold Lt.rWords; rw [if_pos hc']
      have el := congrArg List.length e
      simp only [List.length_append, List.length_map, List.length_take, List.length_drop, List.length_cons, List.length_nil] at el
      have t1 : List.take (1 - 0) (List.drop 0 x.Args) = x.Args.take 1 := rfl
      have t2 : List.take (x.Args.length - 1) (List.drop 1 x.Args) = x.Args.drop 1 := List.take_of_length_le (by simp)
      rw [t1, t2]
      refine ⟨by omega, ⟨by omega, hne⟩, ⟨fun a ha => okA a (List.mem_of_mem_take ha), ?_⟩, ?_, by omega, ⟨hne, Nat.le_refl _⟩, ⟨fun a ha => okA a (List.mem_of_mem_drop ha), ?_⟩, ?_⟩
      · unfold Lt.room; rw [List.length_take]; omega
      · simp only [Lt.rArgs, List.length_append, List.length_map, List.length_take, List.length_cons, List.length_nil]; omega
      · unfold Lt.room
        simp only [Lt.rArgs, List.length_append, List.length_map, List.length_take, List.length_drop, List.length_cons, List.length_nil]; omega
      · rw [e] at j2; exact j2
    · have hc' : ¬ ((x.Op = 26 ∨ x.Op = 27) ∧ x.Args ≠ []) := by
        rintro ⟨h1, h2⟩
        have : 0 < x.Args.length := List.length_pos_iff.2 h2
        refine hc ?_
        rcases h1 with h1 | h1 <;> simp [h1] <;> omega
      have e : Lt.rWords x = Lt.rHead x ++ (if (Lt.rOf x.Op).1.Named then [x.Name] else []) ++ x.Args.map Lt.rWord := by
        unfold Lt.rWords; rw [if_neg hc']
      have el := congrArg List.length e
      simp only [List.length_append, List.length_map] at el
      intro J3 hJ3
      have j3 : J3 (Lt.rHead x ++ (if (Lt.rOf x.Op).1.Named then [x.Name] else [])) := by
        refine hJ3 _ ⟨⟨okA, ?_⟩, ?_⟩
        · unfold Lt.room; simp only [List.length_append]; omega
        · rw [e] at j2; exact j2
      refine ifk (fun hn => ⟨?_, ?_⟩) (fun hn => ?_)
      · simp only [List.length_cons, List.length_nil]; omega
      · rw [if_pos hn] at j3; exact j3
      · rw [if_neg hn, List.append_nil] at j3; exact j3
  exact ifk (fun hc => ⟨by simp, by rw [if_pos hc] at j1; exact j1⟩) (fun hc => by rw [if_neg hc] at j1; exact j1)

theorem law_rLines (p : Lt.Program) (hp : Lt.preRLines p) (KK : List UInt8 → Prop) (h : KK (Lt.rLines p)) : F_rLines p KK := by
  obtain ⟨okP, okE, okAt, hp⟩ := hp
  unfold F_rLines; (try simp only [jn_app, jn_and, jn_imp, jval, bor, band, bnand, bimp, and_self])
  unfold Lt.rLines at h hp
  unfold Lt.room at hp
  simp only [List.length_append] at hp
  intro J hJ
  have j1 : J (if p.SSA = true then Lt.lnT [[115, 115, 97]] else []) := by
    refine hJ _ ?_
    generalize (if p.SSA = true then Lt.lnT [[115, 115, 97]] else []) = s at h hp
    refine app_loop p.Classes Lt.rClassT s _ (fun R i b hl hi hb ih => ?_) (fun R hl => ?_)
    · simp only [lt_t hi, if_true, Int.toNat_natCast]
      try dsimp +instances only [Int.toNat_natCast]
      have o : (0 : Int) ≤ (i : Int) ∧ i < p.Classes.length := ⟨Int.natCast_nonneg i, hi⟩
      have fl := flat_le Lt.rClassT p.Classes hi
      generalize p.Classes.getD i default = c at fl ih ⊢
      have hbl : b.length + (Lt.rClassT c).length ≤ 1099511627776 := by rw [hb, List.length_append]; omega
      simp only [Lt.rClassT, List.length_append] at hbl
      have p1 : Lt.preRPut b [[99, 108, 97, 115, 115], c.Name] := by unfold Lt.preRPut Lt.room; omega
      have p2 : Lt.preRVars (Lt.rPut b [[99, 108, 97, 115, 115], c.Name]) [102, 105, 101, 108, 100] c.Fields := by
        unfold Lt.preRVars Lt.room; simp only [Lt.rPut, List.length_append]; omega
      simp only [o, p1, p2, and_self, true_and]; (try simp only [jn_app, jn_and, jn_imp, jval, bor, band, bnand, bimp, and_self])
      simp only [Lt.rClassT, ← List.append_assoc] at ih
      exact ih
    · simp only [lt_f, Bool.false_eq_true, if_false]
      refine ⟨by unfold Lt.preRVars Lt.room; simp only [List.length_append]; omega, ?_⟩
      refine app_loop p.Externs Lt.rExternT _ _ (fun R i b hl hi hb ih => ?_) (fun R hl => ?_)
      · simp only [lt_t hi, if_true, Int.toNat_natCast]
        try dsimp +instances only [Int.toNat_natCast]
        have o : (0 : Int) ≤ (i : Int) ∧ i < p.Externs.length := ⟨Int.natCast_nonneg i, hi⟩
        have fl := flat_le Lt.rExternT p.Externs hi
        have pN : Lt.preNum (p.Externs.getD i default).N := getD_list okE hi
        generalize p.Externs.getD i default = c at fl ih pN ⊢
        have p1 : Lt.preRPut b [[101, 120, 116, 101, 114, 110], c.Name, Lt.rNum c.N] := by
          unfold Lt.preRPut Lt.room
          rw [hb]
          simp only [Lt.rVars, List.length_append]
          unfold Lt.rVarsT at hp
          have : (Lt.rExternT c) = Lt.lnT [[101, 120, 116, 101, 114, 110], c.Name, Lt.rNum c.N] := rfl
          rw [← this]
          omega
        simp only [o, p1, pN, and_self, true_and]; (try simp only [jn_app, jn_and, jn_imp, jval, bor, band, bnand, bimp, and_self])
        exact ih
      · simp only [lt_f, Bool.false_eq_true, if_false]
        refine app_loop p.Funcs Lt.rFuncT _ _ (fun R i b hl hi hb ih => ?_) (fun R hl => ?_)
        · simp only [lt_t hi, if_true, Int.toNat_natCast]
          try dsimp +instances only [Int.toNat_natCast]
          have o : (0 : Int) ≤ (i : Int) ∧ i < p.Funcs.length := ⟨Int.natCast_nonneg i, hi⟩
          have fl := flat_le Lt.rFuncT p.Funcs hi
          have okf := getD_list okP hi
          have okat := getD_list okAt hi
          refine ⟨o, ?_⟩
          generalize p.Funcs.getD i default = f at fl okf okat ih ⊢
          have hbl : b.length + (Lt.rFuncT f).length ≤ 1099511627776 := by
            rw [hb]
            unfold Lt.rVarsT at hp
            simp only [Lt.rVars, List.length_append]
            omega
          simp only [Lt.rFuncT, List.length_append] at hbl
          refine ⟨by unfold Lt.preRPut Lt.room; omega, by unfold Lt.preRVars Lt.room; simp only [Lt.rPut, List.length_append]; omega, ?_, ?_⟩
          · unfold Lt.preRVars Lt.room
            unfold Lt.rVarsT at hbl ⊢
            simp only [Lt.rVars, Lt.rPut, List.length_append]; omega
          · refine app_loop f.Blocks Lt.rBlockT _ _ (fun R2 j b2 hl2 hj hb2 ih2 => ?_) (fun R2 hl2 => ?_)
            · simp only [lt_t hj, if_true, Int.toNat_natCast]
              try dsimp +instances only [Int.toNat_natCast]
              have o2 : (0 : Int) ≤ (j : Int) ∧ j < f.Blocks.length := ⟨Int.natCast_nonneg j, hj⟩
              have fl2 := flat_le Lt.rBlockT f.Blocks hj
              have okb := getD_list okf hj
              have okbt := getD_list okat hj
              simp only [o2, and_self, true_and]
              generalize f.Blocks.getD j default = k at fl2 okb okbt ih2 ⊢
              have hb2l : b2.length + (Lt.rBlockT k).length ≤ 1099511627776 := by
                rw [hb2]
                unfold Lt.rVarsT at hbl
                simp only [Lt.rVars, Lt.rPut, List.length_append]
                omega
              simp only [Lt.rBlockT, List.length_append] at hb2l
              refine ⟨by unfold Lt.preRPut Lt.room; omega, ?_⟩
              refine app_loop k.Phis (fun x => Lt.lnT (Lt.rPhiW x)) _ _ (fun R3 q b3 hl3 hq hb3 ih3 => ?_) (fun R3 hl3 => ?_)
              · simp only [lt_t hq, if_true, Int.toNat_natCast]
                try dsimp +instances only [Int.toNat_natCast]
                have o3 : (0 : Int) ≤ (q : Int) ∧ q < k.Phis.length := ⟨Int.natCast_nonneg q, hq⟩
                have fl3 := flat_le (fun x => Lt.lnT (Lt.rPhiW x)) k.Phis hq
                have okx := getD_list okb.1 hq
                simp only [o3, and_self, true_and]
                generalize k.Phis.getD q default = x at fl3 okx ih3 ⊢
                have hb3l : b3.length + (Lt.lnT (Lt.rPhiW x)).length ≤ 1099511627776 := by
                  rw [hb3]
                  simp only [Lt.rPut, List.length_append]
                  omega
                have hfw := lnT_ge (Lt.rPhiW x)
                have hfl : (Lt.rPhiW x).length = 2 + 2 * x.Ins.length := by
                  simp only [Lt.rPhiW, List.length_append, flat2, List.length_cons, List.length_nil]
                refine app_loop x.Ins (fun i => [i.Block, Lt.rWord i.A]) _ _ (fun R4 t w hl4 ht hw ih4 => ?_) (fun R4 hl4 => ?_)
                · simp only [lt_t ht, if_true, Int.toNat_natCast]
                  try dsimp +instances only [Int.toNat_natCast]
                  have o4 : (0 : Int) ≤ (t : Int) ∧ t < x.Ins.length := ⟨Int.natCast_nonneg t, ht⟩
                  have pA : Lt.prePut (x.Ins.getD t default).A := okx.2 _ (mem_getD _ ht)
                  simp only [o4, pA, and_self, true_and]; (try simp only [jn_app, jn_and, jn_imp, jval, bor, band, bnand, bimp, and_self])
                  refine ⟨?_, ih4⟩
                  rw [hw]
                  simp only [List.length_append, flat2, List.length_cons, List.length_nil, List.length_take]
                  omega
                · simp only [lt_f, Bool.false_eq_true, if_false]
                  refine ⟨?_, ih3⟩
                  unfold Lt.preRPut Lt.room
                  exact hb3l
              · simp only [lt_f, Bool.false_eq_true, if_false]
                refine app_loop k.Code Lt.rCodeT _ _ (fun R4 q b4 hl4 hq hb4 ih4 => ?_) (fun R4 hl4 => ?_)
                · simp only [lt_t hq, if_true, Int.toNat_natCast]
                  try dsimp +instances only [Int.toNat_natCast]
                  have fl4 := flat_le Lt.rCodeT k.Code hq
                  have okc := getD_list okb.2.1 hq
                  have okct := getD_list okbt hq
                  refine ⟨⟨Int.natCast_nonneg q, hq⟩, ⟨okc, okct, ?_⟩, ih4⟩
                  rw [hb4]
                  unfold Lt.room
                  simp only [Lt.rPut, List.length_append]
                  omega
                · simp only [lt_f, Bool.false_eq_true, if_false]
                  refine ⟨(⟨okb.2.2, ?_⟩ : Lt.preREnds _ k.End), ?_⟩
                  · unfold Lt.room
                    simp only [Lt.rPut, List.length_append]
                    omega
                  · simp only [Lt.rBlockT, ← List.append_assoc] at ih2
                    exact ih2
            · simp only [lt_f, Bool.false_eq_true, if_false]
              simp only [Lt.rFuncT, ← List.append_assoc] at ih
              exact ih
        · simp only [lt_f, Bool.false_eq_true, if_false]
          unfold Lt.rVarsT at h
          exact h
  exact ifk (fun hc => ⟨by unfold Lt.preRPut Lt.room; decide, by rw [if_pos hc] at j1; exact j1⟩) (fun hc => by rw [if_neg hc] at j1; exact j1)

theorem law_ShowKeeps (p : Lt.Program) (hp : Lt.preKeeps p) (KK : Bool → Prop) (h : KK (Lt.ShowKeeps p)) : F_ShowKeeps p KK := by
  obtain ⟨okP, okE, okAt, hr⟩ := hp
  unfold F_ShowKeeps; (try simp only [jn_app, jn_and, jn_imp, jn_const, jn_ite, jval, bor, band, bnand, bimp, and_self])
  have hm : Lt.preFew p 20000 := ⟨okP, by decide⟩
  refine ifk (fun hc => absurd hc (by decide)) (fun _ => ⟨hm, ?_⟩)
  refine ifk (fun hc => h) (fun hc => ?_)
  have hf : Lt.preRLines p := ⟨okP, okE, okAt, hr (by simpa using hc)⟩
  exact ⟨hf, okP, hf, by simpa [Lt.ShowKeeps] using h⟩
end Go.Am
end

section
namespace Go.Am
open Go.RowKit Go.Proofs
set_option linter.unusedSimpArgs false
set_option linter.unusedVariables false

abbrev bp (b : Nat) : AV := .one (.c (.d (.v (.pointer (some ⟨b, 0, none⟩)))))
def ii (n : Nat) : AV := .one (.c (.d (.int .i64 (n : Int))))
def jst (b : Nat) (ls : List Lt.Line) (i : Nat) : S := ⟨[(3, bp b), (8, .one (.c (.d (.li (ls.map Lt.Line.enc))))), (9, ii ls.length), (10, ii i)], []⟩
def jst2 (b : Nat) (ls : List Lt.Line) (i : Nat) (ws : List (List UInt8)) (j : Nat) : S := ⟨[(3, bp b), (8, .one (.c (.d (.li (ls.map Lt.Line.enc))))), (9, ii ls.length), (10, ii i), (15, .one (.c (.d (.li (ws.map rS.enc))))), (16, ii ws.length), (17, ii j)], []⟩

attribute [push_cast] bp ii jst jst2

theorem bp_val {w : World} {H : FH} {γ : Gam} {m : Mm} {b : Nat} {y : Value} (h : AR w H γ m (bp b) y) : y = .pointer (some ⟨b, 0, none⟩) := by
  obtain ⟨_, m, h⟩ := h
  cases m <;> exact h.1


theorem wb_call {g : G} {H : FH} {b : Nat} {s : S} {l l' : List UInt8} {c : Int} {o : Oper} {cl : Call} (ho : o.op = .call cl) (hf : cl.callee = .value (.func 34)) (ha : cl.args = #[.tmp 3, .const (.int .u8 c)]) (h3 : getT s.t 3 = bp b) (hl' : Lib.byteCells l' = Lib.byteCells l ++ [.int .u8 c]) (hlen : l.length + 1 ≤ 140737488355328)
    (a : Act) (w : World) (γ : Gam) (F : Nm → Fp) (hX : RX g s a w H γ F) (hB : Lib.IsBuilder 94 5 g.w0.heap.size b (Lib.byteCells l) w) (hs : g.w0.heap.size ≤ w.heap.size) :
    o.wp Tryd.prog a w (fun a' w' => (∃ y, a' = a.put o.dst y) ∧ Lib.IsBuilder 94 5 g.w0.heap.size b (Lib.byteCells l') w' ∧ Below g.w0.heap.size w w') (fun _ _ _ => False) := by
  refine wp_callf ho hf (run_of_func (c := Tryd.f34.body.getD .skip) Tryd.func34 (by kernel_rfl) (by kernel_rfl)) ?_
  have e3 : a.tmps.getD 3 undef = .pointer (some ⟨b, 0, none⟩) := bp_val (by have := hX.t 3; rw [h3] at this; exact this)
  have e : cl.args.map a.eval = #[.pointer (some ⟨b, 0, none⟩), .int .u8 c] := by
    rw [ha, ← e3]; simp [Act.eval]
  rw [e]
  refine (Tryd.bldWriteByte _ b _ c w hB (by rw [Lib.byteCells_length]; exact hlen) hs).mono ?_
  rintro e w' ⟨rfl, h1, h2⟩
  exact ⟨_, rfl, ⟨_, rfl⟩, .inr (by rw [hl']; exact h1), h2⟩

theorem ws_call {g : G} {H : FH} {b : Nat} {s : S} {l v : List UInt8} {o : Oper} {cl : Call} (ho : o.op = .call cl) (hf : cl.callee = .value (.func 35)) (ha : cl.args = #[.tmp 3, .tmp 25]) (h3 : getT s.t 3 = bp b) (hv : getT s.t 25 = .one (.c (.d (.str v)))) (hlen : l.length + v.length ≤ 140737488355328)
    (a : Act) (w : World) (γ : Gam) (F : Nm → Fp) (hX : RX g s a w H γ F) (hB : Lib.IsBuilder 94 5 g.w0.heap.size b (Lib.byteCells l) w) (hs : g.w0.heap.size ≤ w.heap.size) :
    o.wp Tryd.prog a w (fun a' w' => (∃ y, a' = a.put o.dst y) ∧ Lib.IsBuilder 94 5 g.w0.heap.size b (Lib.byteCells (l ++ v)) w' ∧ Below g.w0.heap.size w w') (fun _ _ _ => False) := by
  refine wp_callf ho hf (run_of_func (c := Tryd.f35.body.getD .skip) Tryd.func35 (by kernel_rfl) (by kernel_rfl)) ?_
  have e3 : a.tmps.getD 3 undef = .pointer (some ⟨b, 0, none⟩) := bp_val (by have := hX.t 3; rw [h3] at this; exact this)
  have e4 : a.tmps.getD 25 undef = .string ⟨v.toArray⟩ := (AR_str (by have := hX.t 25; rw [hv] at this; exact this)).1
  have e : cl.args.map a.eval = #[.pointer (some ⟨b, 0, none⟩), .string ⟨v.toArray⟩] := by
    rw [ha, ← e3, ← e4]; simp [Act.eval]
  rw [e]
  refine (Tryd.bldWriteString _ b _ ⟨v.toArray⟩ w hB (by rw [Lib.byteCells_length]; exact hlen) hs).mono ?_
  rintro e w' ⟨rfl, h1, h2⟩
  exact ⟨_, rfl, ⟨_, rfl⟩, .inr (by rw [Lib.byteCells_append]; exact h1), h2⟩

set_option maxRecDepth 100000 in
set_option maxHeartbeats 4000000 in
theorem walk_Join (g : G) (hg : g.nt = Tryd.f18.ntmps) (ls : List Lt.Line) (hp : (Lt.joinB ls).length ≤ 140737488355328) (K : AV → Prop) (hK : K (o1 cS (Lt.joinB ls))) :
    AW Tryd.prog g (Tryd.f18.body.getD .skip) (retQ Tryd.prog [.tmp 2] K) ⟨entryT 0 [.one ((cL Lt.Line.rw).enc ls)], []⟩ := by
  have hcs : CT.Ok Tryd.prog [] := CT.ok0
  have hn : g.nt = 31 := hg
  have hx := True.intro
  intro a w ⟨H, γ, F, hX⟩
  let g2 : G := ⟨g.nt, w, H, fun _ => 0, g.out⟩
  have hn2 : g2.nt = 31 := hn
  have hX2 : RX g2 ⟨entryT 0 [.one ((cL Lt.Line.rw).enc ls)], []⟩ a w H γ F := ⟨hX.mem, ⟨Nat.le_refl _, rfl, rfl, rfl, fun _ _ _ => rfl, fun _ _ _ h => h, fun _ _ h1 h2 => absurd h2 h1, fun c hc => absurd rfl hc⟩, hX.nt, ⟨hX.df.1, hX.df.2.1, RX_glob hX⟩, hX.t⟩
  have hH : ∀ b' o', H b' o' ≠ none → b' < g2.w0.heap.size := by
    intro b' o' h
    cases hc : H b' o' with
    | none => exact absurd hc h
    | some y => exact World.block_lt_of_cell? _ _ (hX.mem.agree _ _ _ hc)
  unfold Tryd.f18
  dsimp only [Option.getD_some]
  refine wp_seq (Code.wp_mono (fun e a1 w1 ⟨he, s1, γ1, F1, h1, hX1⟩ => ?_) (reg_wp (g := g2) (cs := []) (k := fun s' => s' = ⟨[(0, .one (.c (.d (.li (ls.map Lt.Line.enc))))), (2, .one (.c (.d (.str []))))], []⟩) rfl (by rw [hn2]; rfl) (RK.out ?_) hX2))
  · refine stA ?_
    exact lfA
  subst he; subst h1
  refine wp_seq (Code.wp_mono (fun e a2 w2 ⟨he, s2, γ2, F2, h2, hX3⟩ => ?_) (reg_wp (g := g2) (cs := []) (k := fun s' => s' = ⟨[(0, .one (.c (.d (.li (ls.map Lt.Line.enc))))), (2, .one (.c (.d (.str [])))), (3, .one (.c (.pl ⟨.loc (94 * 1000000 + 3), 0, []⟩)))], [(.loc (94 * 1000000 + 3), ⟨true, [.d (.v (.pointer none)), .nil]⟩)]⟩) rfl (by rw [hn2]; rfl) (RK.out ?_) hX1))
  · refine stA ?_
    exact lfA
  subst he; subst h2
  obtain ⟨b, hB, hb3, hX4⟩ := to_bld (g := g2) hX3 rfl (fun _ => rfl) (i := 3) rfl
  have hRB : RB g2 H b (⟨[(0, .one (.c (.d (.li (ls.map Lt.Line.enc))))), (3, bp b)], []⟩, []) a2 w2 := by
    refine ⟨rfl, ⟨γ2, F2, hX4.mem, hX4.fr, hX4.nt, hX4.df, fun i => ?_⟩, hB⟩
    simp only [getT]
    split
    · rename_i hi; subst hi
      exact hX4.t 0
    · split
      · rename_i hi; subst hi
        rw [hb3]
        exact ⟨fun _ => rfl, 0, rfl, rfl⟩
      · trivial
  refine wp_seq (Code.wp_mono (fun e a3 w3 hl => ?_) ((?_ : BW Tryd.prog g2 H b _ (fun e y => e = .normal ∧ getT y.1.t 3 = bp b ∧ y.2 = Lt.joinB ls) (⟨[(0, .one (.c (.d (.li (ls.map Lt.Line.enc))))), (3, bp b)], []⟩, [])) a2 w2 hRB))
  rotate_left
  · clear hRB hX4 hX3 hX1 hX2 hB hb3
    refine BW_seq (fun K hK => ?_)
    refine BW_reg (cs := []) [3, 8, 9, 10] [] rfl (by rw [hn2]; rfl) (jst b ls 0) rfl (hK _ ?_) ?_
    rotate_left
    · iterate 3 refine stA ?_
      exact lfA
    clear hK K
    refine BW_block ?_
    refine BW_loop (fun i => (jst b ls i, Lt.joinB (ls.take i))) ls.length 0 rfl (Nat.zero_le _) (fun i hi => ?_)
    refine BW_seq (fun K hK => ?_)
    refine BW_reg (cs := []) [3, 8, 9, 10, 11] [] rfl (by rw [hn2]; rfl) ⟨(jst b ls i).t ++ [(11, .one (.c (.d (.bool (decide ((i : Int) < (ls.length : Int)))))))], []⟩ rfl (hK _ ?_) ?_
    rotate_left
    · iterate 1 refine stA ?_
      exact lfA
    clear hK K
    refine BW_seq (fun K hK => ?_)
    refine BW_cond rfl (fun hb => BW_skip (hK _ ?_)) (fun hb => BW_exit ?_)
    rotate_left
    · have : i = ls.length := by simp at hb; omega
      subst this
      show (if (0 : Nat) = 0 then _ else _)
      rw [if_pos rfl]
      exact ⟨rfl, rfl, by dsimp only; rw [List.take_length]⟩
    clear hK K
    have hil : i < ls.length := by simp at hb; omega
    refine BW_seq (fun K hK => ?_)
    refine BW_block ?_
    have hx := And.intro (show (ls.map Lt.Line.enc)[((i : Int)).toNat]? = some (Lt.Line.enc (ls.getD i default)) by rw [Int.toNat_natCast]; exact get_map _ _ hil) (And.intro (Int.natCast_nonneg i) hx)
    refine BW_reg2 (cs := []) [3, 8, 9, 10, 15, 16, 17] [.loc 5] (fun x' => x' = (jst2 b ls i (ls.getD i default).Words 0, Lt.joinB (ls.take i))) rfl rfl (by rw [hn2]; rfl) (by rw [hn2]; rfl)
      ⟨(jst b ls i).t ++ [(11, .one (.c (.d (.bool (decide ((i : Int) < (ls.length : Int))))))), (12, .one (.c (.el [.int .i64 (ls.getD i default).N, .li ((ls.getD i default).Words.map rS.enc)] 0))), (13, .one (.agg [.d (.int .i64 (ls.getD i default).N), .d (.li ((ls.getD i default).Words.map rS.enc))])), (5, .one (.c (.pl ⟨.loc 5, 0, []⟩)))], [(.loc 5, ⟨true, [.d (.int .i64 (ls.getD i default).N), .d (.li ((ls.getD i default).Words.map rS.enc))]⟩)]⟩
      (jst2 b ls i (ls.getD i default).Words 0) rfl rfl ?_ ?_ (fun x' e => ?_)
    · iterate 4 refine stA ?_
      exact lfA
    · iterate 4 refine stA ?_
      exact lfA
    subst e
    generalize hws : (ls.getD i default).Words = ws
    have hle := fun j => Lt.joinB_le ls i j hil
    rw [hws] at hle
    have hlw := Lt.jw_len ws false
    have hlw2 := hle ws.length
    rw [List.take_length] at hlw2
    have hll := Lt.joinB_len ls
    refine BW_block ?_
    refine BW_loop (fun j => (jst2 b ls i ws j, Lt.joinB (ls.take i) ++ Lt.jw false (ws.take j))) ws.length 0 (by simp [Lt.jw]) (Nat.zero_le _) (fun j hj => ?_)
    refine BW_seq (fun K2 hK2 => ?_)
    refine BW_reg (cs := []) [3, 8, 9, 10, 15, 16, 17, 18] [] rfl (by rw [hn2]; rfl) ⟨(jst2 b ls i ws j).t ++ [(18, .one (.c (.d (.bool (decide ((j : Int) < (ws.length : Int)))))))], []⟩ rfl (hK2 _ ?_) ?_
    rotate_left
    · iterate 1 refine stA ?_
      exact lfA
    clear hK2 K2
    refine BW_seq (fun K2 hK2 => ?_)
    refine BW_cond rfl (fun hb => BW_skip (hK2 _ ?_)) (fun hb => BW_exit ?_)
    rotate_left
    · have : j = ws.length := by simp at hb; omega
      subst this
      show (if (2 : Nat) = 2 then _ else _)
      rw [if_pos rfl]
      dsimp only
      refine BW_call (cs := []) [3, 8, 9, 10] [] _ (Lt.joinB (ls.take (i + 1))) rfl rfl rfl (by rw [hn2]; rfl) hH ⟨(jst2 b ls i ws ws.length).t ++ [(18, .one (.c (.d (.bool (decide ((ws.length : Int) < (ws.length : Int)))))))], []⟩ rfl
        (wb_call (c := 10) (l := Lt.joinB (ls.take i) ++ Lt.jw false (ws.take ws.length)) rfl rfl rfl rfl (by rw [Lt.joinB_take ls i hil, hws, List.take_length, Lib.byteCells_append]; rfl) (by rw [List.take_length]; simp; omega)) ?_ ⟨opsK_end rfl⟩
      refine hK _ ?_
      have hw := wrap_succ (i := i) (by omega)
      have hx := And.intro hw hx
      refine BW_reg (cs := []) [3, 8, 9, 10] [] rfl (by rw [hn2]; rfl) (jst b ls (i + 1)) rfl ⟨hil, rfl⟩ ?_
      iterate 2 refine stA ?_
      exact lfA
    clear hK2 K2
    have hjl : j < ws.length := by simp at hb; omega
    refine BW_seq (fun K2 hK2 => ?_)
    refine BW_block ?_
    refine BW_seq (fun K3 hK3 => ?_)
    have hx := And.intro (show (ws.map rS.enc)[((j : Int)).toNat]? = some (rS.enc (ws.getD j [])) by rw [Int.toNat_natCast]; exact get_map rS.enc ws hjl) (And.intro (Int.natCast_nonneg j) hx)
    refine BW_reg (cs := []) [3, 8, 9, 10, 15, 16, 17, 6, 7] [] rfl (by rw [hn2]; rfl) ⟨(jst2 b ls i ws j).t ++ [(6, ii j), (7, .one (.c (.d (.str (ws.getD j [])))))], []⟩ rfl (hK3 _ ?_) ?_
    rotate_left
    · iterate 5 refine stA ?_
      exact lfA
    clear hK3 K3
    refine BW_seq (fun K3 hK3 => ?_)
    refine BW_seq (fun K4 hK4 => ?_)
    refine BW_reg (cs := []) [3, 8, 9, 10, 15, 16, 17, 7, 23] [] rfl (by rw [hn2]; rfl) ⟨(jst2 b ls i ws j).t ++ [(7, .one (.c (.d (.str (ws.getD j []))))), (23, .one (.c (.d (.bool (decide ((0 : Int) < (j : Int)))))))], []⟩ rfl (hK4 _ ?_) ?_
    rotate_left
    · iterate 2 refine stA ?_
      exact lfA
    clear hK4 K4
    have hlj := hle (j + 1)
    rw [Lt.jw_take ws false j hjl] at hlj
    have fin : K3 (⟨(jst2 b ls i ws j).t ++ [(7, .one (.c (.d (.str (ws.getD j [])))))], []⟩, Lt.joinB (ls.take i) ++ Lt.jw false (ws.take j) ++ (if false || decide (0 < j) then [32] else [])) := by
      refine hK3 _ ?_
      refine BW_call (cs := []) [3, 8, 9, 10, 15, 16, 17] [_] _ (Lt.joinB (ls.take i) ++ Lt.jw false (ws.take (j + 1))) rfl (by rw [hn2]; rfl) rfl (by rw [hn2]; rfl) hH ⟨(jst2 b ls i ws j).t ++ [(7, .one (.c (.d (.str (ws.getD j []))))), (25, .one (.c (.d (.str (ws.getD j [])))))], []⟩ rfl
        (fun a w γ F hX hB hs => ?_) ?_ ?_
      · rw [Lt.jw_take ws false j hjl]
        simp only [← List.append_assoc]
        exact ws_call rfl rfl rfl rfl rfl (by simp only [List.length_append] at hlj ⊢; omega) a w γ F hX hB hs
      · refine hK2 _ ?_
        have hw := wrap_succ (i := j) (by omega)
        have hx := And.intro hw hx
        refine BW_reg (cs := []) [3, 8, 9, 10, 15, 16, 17] [] rfl (by rw [hn2]; rfl) (jst2 b ls i ws (j + 1)) rfl ⟨hjl, rfl⟩ ?_
        iterate 2 refine stA ?_
        exact lfA
      · refine stA ?_
        exact lfA
    refine BW_cond rfl (fun hb => ?_) (fun hb => ?_)
    · have h0 : 0 < j := by simp at hb; omega
      rw [show (false || decide (0 < j)) = true by simp [h0], if_pos rfl] at fin
      refine BW_call (cs := []) [3, 8, 9, 10, 15, 16, 17, 7] [] _ (Lt.joinB (ls.take i) ++ Lt.jw false (ws.take j) ++ [32]) rfl rfl rfl (by rw [hn2]; rfl) hH ⟨(jst2 b ls i ws j).t ++ [(7, .one (.c (.d (.str (ws.getD j []))))), (23, .one (.c (.d (.bool (decide ((0 : Int) < (j : Int)))))))], []⟩ rfl
        (wb_call (c := 32) (l := Lt.joinB (ls.take i) ++ Lt.jw false (ws.take j)) rfl rfl rfl rfl (by rw [Lib.byteCells_append]; rfl) (by have := hle j; simp only [List.length_append]; omega)) ?_ ⟨opsK_end rfl⟩
      exact fin
    · have h0 : ¬ 0 < j := by simp at hb; omega
      rw [show (false || decide (0 < j)) = false by simp [h0]] at fin
      rw [if_neg Bool.false_ne_true, List.append_nil] at fin
      refine BW_keep [3, 8, 9, 10, 15, 16, 17, 7] (BW_skip ?_)
      exact fin
  obtain ⟨y, ⟨he, h3, h4⟩, hm, ⟨γ3, F3, hX5⟩, hB5⟩ := hl
  subst he
  rw [h4] at hB5
  have e3 : a3.tmps.getD 3 undef = .pointer (some ⟨b, 0, none⟩) := bp_val (by have := hX5.t 3; rw [h3] at this; exact this)
  refine wp_seq (wp_region_lit (wpList_plain rfl (fun K' hK' => wp_callf rfl rfl (run_of_func (c := Tryd.f36.body.getD .skip) Tryd.func36 (by kernel_rfl) (by kernel_rfl)) ?_)))
  have e : (#[Operand.tmp 3] : Array Operand).map a3.eval = #[.pointer (some ⟨b, 0, none⟩)] := by
    rw [← e3]; simp [Act.eval]
  rw [e]
  refine (Tryd.Builder_String_any _ b (Lt.joinB ls) w3 hB5 hX5.fr.size).mono ?_
  rintro e w4 ⟨rfl, hbel⟩
  refine ⟨_, rfl, hK' _ _ ?_⟩
  have hX6 := (RX_below hX5 hm hH hbel).put (d := some 30) (by rw [hn2]; rfl) (v := .one (.c (.d (.str (Lt.joinB ls))))) (y := .string ⟨(Lt.joinB ls).toArray⟩) (AR_mk_str (by unfold BIG; omega))
  have hX7 := RX_keepT [30] hX6
  have hX8 : RX g ⟨[(30, .one (.c (.d (.str (Lt.joinB ls)))))], []⟩ (a3.put (some 30) (.string ⟨(Lt.joinB ls).toArray⟩)) w4 H γ3 F3 := by
    have hm7 : (S.put y.1 (some 30) (.one (.c (.d (.str (Lt.joinB ls)))))).m = [] := hm
    refine ⟨by have := hX7.mem; dsimp only at this; rw [hm7] at this; exact this, ?_, hX7.nt, ⟨hX7.df.1, hX7.df.2.1, hX.df.2.2⟩, fun i => ?_⟩
    · have := hX7.fr
      dsimp only at this
      rw [hm7] at this
      exact hX.fr.trans this
    · have := hX7.t i
      dsimp only at this
      rw [hm7] at this
      have e : getT (keepT [30] (S.put y.1 (some 30) (.one (.c (.d (.str (Lt.joinB ls)))))).t) i = getT [(30, .one (.c (.d (.str (Lt.joinB ls)))))] i := by
        simp only [keepT, List.map_cons, List.map_nil, S.put, getT_setT, if_true]
      rw [e] at this
      exact this
  refine wp_opsKH (g := g) (cs := []) (H := H) (k := fun s' => s' = ⟨[(30, .one (.c (.d (.str (Lt.joinB ls))))), (2, .one (.c (.d (.str (Lt.joinB ls)))))], []⟩) (fun s' a' w' γ' F' e hX9 => ?_) [_] _ _ _ γ3 F3 rfl (by rw [hn]; rfl) (RK.out ?_) hX8
  rotate_left
  · refine stA ?_
    exact lfA
  subst e
  refine wp_ret ⟨_, ?_, H, γ', F', hX9⟩
  exact fiA hK

def C_join : CK1 := pureC (fn1 (cL Lt.Line.rw) (o1 cS) (fun ls => (Lt.joinB ls).length ≤ 140737488355328) Lt.joinB)
theorem c_join : Con Tryd.prog 18 C_join :=
  Con_fn1 (fn := Tryd.f18) (c := Tryd.f18.body.getD .skip) (by kernel_rfl) (by kernel_rfl) (by kernel_rfl) (by decide +kernel) (fun g ls K hg hp hK => walk_Join g hg ls hp K hK)
attribute [push_cast] C_join

end Go.Am
end

section
namespace Go.Am

theorem toA_sct (c : C) : (sct c).toV = sc c.toD := rfl

theorem byte_toNat {n : Int} (h : 0 ≤ n ∧ n < 256) : (((UInt8.ofNat n.toNat).toNat : Nat) : Int) = n := by
  have : n.toNat < 256 := by omega
  simp only [UInt8.toNat_ofNat', Nat.reducePow]
  omega

theorem byte_lt (x : UInt8) : 0 ≤ ((x.toNat : Nat) : Int) ∧ ((x.toNat : Nat) : Int) < 256 := by
  have := x.toNat_lt
  omega

theorem mkC_toD {k : IntKind} {n : Int} (h : k = .u8 → 0 ≤ n ∧ n < 256) : (mkC k n).toD = .int k n := by
  cases k with
  | u8 => show D.int .u8 _ = _; rw [byte_toNat (h rfl)]
  | _ => rfl

theorem wrap8 (n : Int) : 0 ≤ IntKind.u8.wrap n ∧ IntKind.u8.wrap n < 256 := by
  have := wf_wrap (k := .u8) n
  simp only [Lit.wf, Bool.and_eq_true, decide_eq_true_eq] at this
  have h1 : IntKind.u8.min = 0 := by decide
  have h2 : IntKind.u8.max = 255 := by decide
  rw [h1, h2] at this
  omega

theorem mkC_wrap {k : IntKind} {n : Int} : (mkC k (k.wrap n)).toD = .int k (k.wrap n) := mkC_toD fun h => by subst h; exact wrap8 n

theorem intOf_toD {c : C} {k : IntKind} {n : Int} (h : intOf c = some (k, n)) : c.toD = .int k n ∧ (k = .u8 → 0 ≤ n ∧ n < 256) := by
  unfold intOf at h
  split at h
  · rename_i k' n'
    cases k' <;> simp only [Option.some.injEq, Prod.mk.injEq, reduceCtorEq] at h <;> (obtain ⟨rfl, rfl⟩ := h; exact ⟨rfl, fun h => by cases h⟩)
  · rename_i x
    simp only [Option.some.injEq, Prod.mk.injEq] at h
    obtain ⟨rfl, rfl⟩ := h
    exact ⟨rfl, fun _ => byte_lt x⟩
  · cases h

theorem globT_gw {k : Nat} {row : List D} (h : globT k = some row) : row = gw.map D.str := by
  unfold globT at h
  split at h
  · first | (cases h; done) | (simp only [Option.some.injEq] at h; exact h.symm)
  · cases h

theorem cstTt_toT {v : Value} (h : okT v = true) : (cstTt v).toT = cstT v := by
  cases v with
  | int k n =>
    simp only [cstTt, cstT]
    cases k with
    | u8 =>
      simp only [okT, Lit.wf, Bool.and_eq_true, decide_eq_true_eq] at h
      have h1 : IntKind.u8.min = 0 := by decide
      have h2 : IntKind.u8.max = 255 := by decide
      rw [h1, h2] at h
      have h' : 0 ≤ n ∧ n < 256 := by omega
      simp only [h', and_self, if_true, Tt.toT, C.toD, byte_toNat h']
    | _ => rfl
  | slice a l c => cases a with
    | none => match l, c with
      | 0, 0 => rfl
      | 0, _ + 1 => rfl
      | _ + 1, _ => rfl
    | some _ => rfl
  | pointer p => cases p <;> rfl
  | map p => cases p <;> rfl
  | _ => rfl

theorem evA_toV {s : St} {x : Operand} (h : okOp x = true) : ev s.toS x = (evA s x).toV := by
  cases x with
  | tmp t => exact gtA_toS t s.t
  | const v =>
    simp only [okOp] at h
    cases v with
    | agg cs =>
      simp only [ev, evA, cst, cstA, At.toV, A1.toV]
      congr 2
      rw [List.map_map]
      refine List.map_congr_left fun x hx => ?_
      simp only [okC] at h
      exact (cstTt_toT (Array.all_eq_true_iff_forall_mem.1 h x (by simpa using hx))).symm
    | _ =>
      simp only [ev, evA, cst, cstA, At.toV, A1.toV]
      rw [cstTt_toT (by simpa [okC] using h)]
  | func f => rfl
  | global g =>
    simp only [okOp] at h
    simp only [ev, evA, globC]
    cases hg : globT g with
    | none => rw [hg] at h; cases h
    | some row =>
      simp only [At.toV, A1.toV, Tt.toT, globT_gw hg]
      rfl

section
variable {k : At → Prop}
/-- what is said of a typed value is said of what it stands for -/
abbrev up (k : At → Prop) : AV → Prop := fun v => ∃ v', v = v'.toV ∧ k v'

theorem up_sct {c : C} {d : D} (h : k (sct c)) (e : c.toD = d) : up k (sc d) := ⟨sct c, by rw [toA_sct, e], h⟩

theorem pickT_ok {c x y : At} (h : pickT c x y k) : pickK c.toV x.toV y.toV (up k) := by
  unfold pickT at h
  split at h
  · rename_i b
    cases b
    · rw [if_neg (by simp)] at h; exact ⟨y, rfl, h⟩
    · rw [if_pos rfl] at h; exact ⟨x, rfl, h⟩
  · exact h.elim

theorem tmod8 {a b : Int} (ha : 0 ≤ a ∧ a < 256) : 0 ≤ a.tmod b ∧ a.tmod b < 256 := by
  refine ⟨Int.tmod_nonneg _ ha.1, ?_⟩
  rcases Int.lt_or_le b 0 with h | h
  · rw [← Int.tmod_neg]
    rcases Int.lt_or_le a (-b) with h' | h'
    · rw [Int.tmod_eq_of_lt ha.1 h']; exact ha.2
    · have := Int.tmod_lt_of_pos a (show 0 < -b by omega); omega
  · rcases Int.lt_or_le a b with h' | h'
    · rw [Int.tmod_eq_of_lt ha.1 h']; exact ha.2
    · rcases Int.lt_or_eq_of_le h with h'' | h''
      · have := Int.tmod_lt_of_pos a h''; omega
      · subst h''; rw [Int.tmod_zero]; exact ha.2

theorem fdiv8 {a : Int} {m : Nat} (ha : 0 ≤ a ∧ a < 256) : 0 ≤ a.fdiv (2 ^ m) ∧ a.fdiv (2 ^ m) < 256 := by
  have hp : (0 : Int) < 2 ^ m := Int.pow_pos (by decide)
  rw [Int.fdiv_eq_ediv_of_nonneg _ (by omega)]
  refine ⟨Int.ediv_nonneg ha.1 (by omega), ?_⟩
  have := Int.ediv_le_self (2 ^ m) ha.1
  omega

theorem binC_ok {op : BinOp} {x y : C} {K : C → Prop} (h : binC op x y K) : binD op x.toD y.toD (fun d => ∃ c : C, c.toD = d ∧ K c) := by
  unfold binC at h
  split at h
  · rename_i a b
    cases op <;> first | exact h.elim | exact ⟨_, rfl, h⟩ | exact ⟨h.1, _, rfl, h.2⟩
  · split at h
    · rename_i k a k' b hx hy
      obtain ⟨ex, rx⟩ := intOf_toD hx
      obtain ⟨ey, ry⟩ := intOf_toD hy
      rw [ex, ey]
      split at h
      · rename_i hk
        unfold numT at h
        cases op <;> simp only [isSh, Bool.false_eq_true, false_or, true_or] at hk <;> simp only [binD]
        case add => exact ⟨hk, _, mkC_wrap, h⟩
        case sub => exact ⟨hk, _, mkC_wrap, h⟩
        case mul => exact ⟨hk, _, mkC_wrap, h⟩
        case quo => exact ⟨hk, h.1, _, mkC_wrap, h.2⟩
        case rem => exact ⟨hk, h.1, _, mkC_toD fun e => tmod8 (rx e), h.2⟩
        case and => exact ⟨hk, _, mkC_wrap, h⟩
        case or => exact ⟨hk, _, mkC_wrap, h⟩
        case xor => exact ⟨hk, _, mkC_wrap, h⟩
        case andNot => exact ⟨hk, _, mkC_wrap, h⟩
        case shl => exact ⟨h.1, _, mkC_wrap, h.2⟩
        case shr => exact ⟨h.1, _, mkC_toD fun e => fdiv8 (rx e), h.2⟩
        case eql => exact ⟨hk, _, rfl, h⟩
        case neq => exact ⟨hk, _, rfl, h⟩
        case lss => exact ⟨hk, _, rfl, h⟩
        case leq => exact ⟨hk, _, rfl, h⟩
        case gtr => exact ⟨hk, _, rfl, h⟩
        case geq => exact ⟨hk, _, rfl, h⟩
      · exact h.elim
    · exact h.elim

theorem binD_mono' {op : BinOp} {x y : D} {K K' : D → Prop} (hk : ∀ d, K d → K' d) (h : binD op x y K) : binD op x y K' := by
  cases x <;> cases y <;> try exact h.elim
  · cases op <;> simp only [binD] at h ⊢ <;> first | exact ⟨h.1, h.2.1, hk _ h.2.2⟩ | exact ⟨h.1, hk _ h.2⟩
  · cases op <;> simp only [binD] at h ⊢ <;> first | exact ⟨h.1, hk _ h.2⟩ | exact hk _ h | exact h.elim

theorem eqC_ok {ck : CK} {x y : C} {b : Bool} (h : eqC ck x y = some b) : eqD ck x.toD y.toD = some b := by
  unfold eqC at h
  cases ck with
  | i =>
    dsimp only at h
    split at h
    · rename_i k a k' b' hx hy
      rw [(intOf_toD hx).1, (intOf_toD hy).1]; exact h
    · cases h
  | s =>
    dsimp only at h
    split at h
    · exact h
    · cases h
  | b =>
    dsimp only at h
    split at h
    · exact h
    · cases h

theorem eqCs_ok : ∀ {l : List (Nat × CK)} {xs ys : List C} {b : Bool}, eqCs l xs ys = some b → eqDs l (xs.map C.toD) (ys.map C.toD) = some b
  | [], _, _, _, h => h
  | (o, ck) :: l, xs, ys, b, h => by
    unfold eqCs at h
    unfold eqDs
    rw [List.getElem?_map, List.getElem?_map]
    cases hx : xs[o]? with
    | none => rw [hx] at h; cases h
    | some x =>
      cases hy : ys[o]? with
      | none => rw [hx, hy] at h; cases h
      | some y =>
        rw [hx, hy] at h
        dsimp only [Option.map_some] at h ⊢
        cases he : eqC ck x y with
        | none => rw [he] at h; cases h
        | some c =>
          rw [he] at h
          rw [eqC_ok he]
          cases l with
          | nil => exact h
          | cons z l =>
            dsimp only at h ⊢
            cases hr : eqCs (z :: l) xs ys with
            | none => rw [hr] at h; cases h
            | some r => rw [hr] at h; rw [eqCs_ok hr]; exact h

theorem TC_toD (t : Tt) (h : TD t.toT ≠ .any ∨ True) : (TC t).toD = TD t.toT := by
  cases t <;> rfl

theorem binT_ok {P : Program} {op : BinOp} {t : TypeId} {x y : At} (h : binT P op t x y k) : binK P op t x.toV y.toV (up k) := by
  unfold binT at h
  split at h
  · rename_i a b
    split at h
    · rename_i ht
      refine ⟨ht, ?_⟩
      cases op <;> first | exact h.elim | exact ⟨_, rfl, h⟩
    · exact h.elim
  · rename_i a b hne
    have h' := binC_ok h
    have key : binD op a.toD b.toD (fun d => up k (sc d)) := by
      refine binD_mono' ?_ h'
      rintro d ⟨c, rfl, hc⟩
      exact ⟨sct c, rfl, hc⟩
    cases a with
    | bo a => cases b with
      | bo b => exact (hne a b rfl rfl).elim
      | _ => exact key
    | _ => exact key
  · rename_i xs ys
    split at h
    · rename_i l hl
      have e1 : (xs.map Tt.toT).map TD = (xs.map TC).map C.toD := by
        rw [List.map_map, List.map_map]; exact List.map_congr_left fun t _ => (TC_toD t (.inr trivial)).symm
      have e2 : (ys.map Tt.toT).map TD = (ys.map TC).map C.toD := by
        rw [List.map_map, List.map_map]; exact List.map_congr_left fun t _ => (TC_toD t (.inr trivial)).symm
      simp only [At.toV, A1.toV, binK]
      rw [hl, e1, e2]
      dsimp only
      split at h
      · rename_i b hb
        rw [eqCs_ok hb]; exact ⟨_, rfl, h⟩
      · rename_i b hb
        rw [eqCs_ok hb]; exact ⟨_, rfl, h⟩
      · exact h.elim
    · exact h.elim
  · exact h.elim

theorem unT_ok {op : UnOp} {x : At} (h : unT op x k) : unK op x.toV (up k) := by
  unfold unT at h
  split at h
  · exact ⟨_, rfl, h⟩
  · rename_i c
    split at h
    · rename_i κ n hc
      simp only [At.toV, A1.toV, Tt.toT, (intOf_toD hc).1]
      exact up_sct h mkC_wrap
    · exact h.elim
  · rename_i c
    split at h
    · rename_i κ n hc
      simp only [At.toV, A1.toV, Tt.toT, (intOf_toD hc).1]
      exact up_sct h mkC_wrap
    · exact h.elim
  · exact h.elim

theorem extractT_ok {x : At} {i : Nat} (h : extractT x i k) : extractK x.toV i (up k) := by
  unfold extractT at h
  split at h
  · rename_i vs
    split at h
    · rename_i v hv
      simp only [At.toV, extractK, List.getElem?_map, hv, Option.map_some]
      exact ⟨.one v, rfl, h⟩
    · exact h.elim
  · exact h.elim

theorem strAtT_ok {x i : At} (h : strAtT x i k) : strAtK x.toV i.toV (up k) := by
  unfold strAtT at h
  split at h
  · rename_i l κ n
    obtain ⟨⟨h1, h2⟩, h3⟩ := h
    simp only [At.toV, A1.toV, Tt.toT, C.toD, strAtK]
    refine ⟨h1, ?_⟩
    rw [List.getElem?_eq_getElem h2]
    dsimp only
    refine ⟨_, ?_, h3⟩
    rw [toA_sct]
    simp only [C.toD]
    rw [List.getD, List.getElem?_eq_getElem h2]; rfl
  · exact h.elim

theorem nilCheckT_ok {x : At} (h : nilCheckT x k) : nilCheckK x.toV (up k) := by
  unfold nilCheckT at h
  split at h
  · exact ⟨_, rfl, h⟩
  · exact ⟨_, rfl, h⟩
  · exact ⟨_, rfl, h⟩
  · exact h.elim

theorem fieldT_ok {P : Program} {t : TypeId} {x : At} {i : Nat} (h : fieldT P t x i k) : fieldK P t x.toV i (up k) := by
  unfold fieldT at h
  split at h
  · rename_i fs ts hk
    simp only [At.toV, A1.toV, fieldK]
    rw [hk]
    dsimp only
    cases hf : fs[i]? with
    | none => rw [hf] at h; exact h.elim
    | some f =>
      obtain ⟨off, size, ag⟩ := f
      rw [hf] at h
      match ag, h with
      | some false, h =>
        dsimp only at h ⊢
        rw [List.getElem?_map]
        cases ht : ts[off]? with
        | none => rw [ht] at h; exact h.elim
        | some t' => rw [ht] at h; exact ⟨_, rfl, h⟩
      | some true, h =>
        dsimp only at h ⊢
        split at h
        · rename_i hb
          refine ⟨by rw [List.length_map]; exact Nat.le_of_ble_eq_true hb, .one (.agg ((ts.drop off).take size)), ?_, h⟩
          simp only [At.toV, A1.toV, List.map_take, List.map_drop]
        · exact h.elim
      | none, h => exact h.elim
  · exact h.elim

theorem convT_ok {P : Program} {su du : TypeId} {x : At} (h : convT P su du x k) : convK P su du x.toV (up k) := by
  unfold convT at h
  split at h
  · rename_i κ0 κ h1 h2
    split at h
    · rename_i c
      split at h
      · rename_i κ1 n hc
        simp only [At.toV, A1.toV, Tt.toT, (intOf_toD hc).1, convK, h1, h2]
        exact up_sct h mkC_wrap
      · exact h.elim
    · exact h.elim
  · rename_i e h1 h2
    split at h
    · rename_i h3
      split at h
      · rename_i l
        simp only [At.toV, A1.toV, Tt.toT, C.toD, convK, h1, h2]
        refine ⟨h3, ?_⟩
        have : ∀ l : List UInt8, decBy (l.map (encU .b8)) = some l := by
          intro l
          induction l with
          | nil => rfl
          | cons a l ih =>
            simp only [List.map_cons, encU, decBy]
            have ih' : decBy (l.map (encU .b8)) = some l := ih
            simp only [encU] at ih'
            first
              | rw [ih']
              | (show (decBy (l.map (encU .b8))).map _ = _; rw [ih])
            simp
        rw [this l]
        exact ⟨_, rfl, h⟩
      · simp only [At.toV, A1.toV, Tt.toT, convK, h1, h2]
        exact ⟨h3, _, rfl, h⟩
      · exact h.elim
    · exact h.elim
  · exact h.elim

end
end Go.Am
end

section
namespace Go.Am

theorem toD_li {c : C} {l : List (List D)} (h : c.toD = .li l) : ∃ u l', c = .li u l' ∧ l = l'.map (encU u) := by
  cases c with
  | li u l' => simp only [C.toD, D.li.injEq] at h; exact ⟨u, l', rfl, h.symm⟩
  | _ => simp [C.toD] at h

theorem toD_any {c : C} : c.toD = .any ↔ c = .any := by
  cases c <;> simp [C.toD]

theorem sure_toT (t : Tt) : t.toT.sure = t.sure := by
  cases t with
  | d c => cases c <;> rfl
  | _ => rfl

/-- what a typed cell stands for, but for what is taken out below -/
def RH (t : Tt) (t' : T) : Prop := t' = t.toT ∨ ∃ sh u l, ∃ l' : List (List D), t = .ow sh u l ∧ t' = .ow sh l' ∧ l'.length = l.length

structure HL (ts : List Tt) (ts' : List T) : Prop where
  len : ts'.length = ts.length
  nth : ∀ (i : Nat) (t : Tt) (t' : T), ts[i]? = some t → ts'[i]? = some t' → RH t t'

theorem HL_map (ts : List Tt) : HL ts (ts.map Tt.toT) := by
  refine ⟨by simp, fun i t t' h h' => ?_⟩
  rw [List.getElem?_map, h] at h'
  exact .inl (Option.some.inj h').symm

theorem HL.drop {ts : List Tt} {ts' : List T} (h : HL ts ts') (n : Nat) : HL (ts.drop n) (ts'.drop n) :=
  ⟨by simp [h.len], fun i t t' h1 h2 => by rw [List.getElem?_drop] at h1 h2; exact h.nth _ t t' h1 h2⟩
theorem HL.take {ts : List Tt} {ts' : List T} (h : HL ts ts') (n : Nat) : HL (ts.take n) (ts'.take n) :=
  ⟨by simp [h.len], fun i t t' h1 h2 => by
    rw [List.getElem?_take] at h1 h2
    split at h1
    · rename_i hi; rw [if_pos hi] at h2; exact h.nth _ t t' h1 h2
    · cases h1⟩

theorem length_setO : ∀ (q : List Step) (sub : List Sh) (l : List (List D)) (x : D), (setO sub l x q).length = l.length
  | [], _, _, _ => rfl
  | [st], _, _, _ => by simp [setO]
  | st :: st' :: r, sub, l, x => by
    simp only [setO]
    split
    · simp
    · rfl

theorem HL_holed (cells : List Tt) (hole : Option (Nat × Step × List Step)) : HL cells (holed (cells.map Tt.toT) hole) := by
  cases hole with
  | none => exact HL_map cells
  | some h =>
    obtain ⟨off, st, q⟩ := h
    simp only [holed]
    split
    · rename_i sub l hc
      refine ⟨by simp, fun i t t' h1 h2 => ?_⟩
      by_cases hi : off = i
      · subst hi
        rw [List.getElem?_map, h1] at hc
        have hc' := Option.some.inj hc
        have hlt : off < (cells.map Tt.toT).length := by
          have := (List.getElem?_eq_some_iff.1 h1).1
          simpa using this
        rw [List.getElem?_set_self hlt] at h2
        have h2' := Option.some.inj h2
        cases t with
        | ow sh u l0 =>
          simp only [Tt.toT, T.ow.injEq] at hc'
          obtain ⟨rfl, rfl⟩ := hc'
          exact .inr ⟨_, _, _, _, rfl, h2'.symm, by rw [length_setO]; simp⟩
        | _ => simp [Tt.toT] at hc'
      · rw [List.getElem?_set_ne hi] at h2
        exact (HL_map cells).nth i t t' h1 h2
    · exact HL_map cells

theorem RH_ref {t : Tt} {t' : T} (h : RH t t') (q : Pl) : refT q t' = (refTt q t).toT := by
  rcases h with rfl | ⟨sh, u, l, l', rfl, rfl, _⟩
  · cases t <;> rfl
  · rfl

theorem HL_refs {ts : List Tt} {ts' : List T} (h : HL ts ts') (p : Pl) : refTs p ts' = (refTts p ts).map Tt.toT := by
  refine List.ext_getElem? fun i => ?_
  simp only [refTs, refTts, List.getElem?_map, List.getElem?_zipIdx, Nat.zero_add, Option.map_map]
  cases h1 : ts[i]? with
  | none =>
    have : ts'[i]? = none := by rw [List.getElem?_eq_none_iff] at h1 ⊢; rw [h.len]; exact h1
    rw [this]; rfl
  | some t =>
    have hlt : i < ts'.length := by rw [h.len]; exact (List.getElem?_eq_some_iff.1 h1).1
    rw [List.getElem?_eq_getElem hlt]
    simp only [Option.map_some, Function.comp, Option.some.injEq]
    exact RH_ref (h.nth i t _ h1 (List.getElem?_eq_getElem hlt)) _

theorem getD_enc {u : U} (l : List (El u)) {i : Nat} (h : i < l.length) : (l.map (encU u)).getD i [] = encU u (l.getD i (dflt u)) := by
  rw [List.getD, List.getD, List.getElem?_map, List.getElem?_eq_getElem h]; rfl
theorem get_enc {u : U} (l : List (El u)) {i : Nat} (h : i < l.length) : (l.map (encU u))[i]? = some (encU u (l.getD i (dflt u))) := by
  rw [List.getD, List.getElem?_map, List.getElem?_eq_getElem h]; rfl

/-- a typed cell under a shape -/
def mkTt (s : Sh) (c : C) : Tt := match s, c with
  | Sh.fr, x => Tt.d x
  | Sh.ow s, C.li u' l' => Tt.ow s u' l'
  | _, _ => Tt.any

theorem mkTt_toT (s : Sh) (c : C) : mkT s c.toD = (mkTt s c).toT := by
  cases s with
  | fr => rfl
  | ow s => cases c <;> rfl

theorem zip_toT : ∀ (s : List Sh) (c : List C), List.zipWith mkT s (c.map C.toD) = (List.zipWith mkTt s c).map Tt.toT
  | [], _ => by simp
  | _ :: _, [] => by simp
  | s :: ss, c :: cs => by simp only [List.map_cons, List.zipWith_cons_cons, mkTt_toT, zip_toT ss cs]

theorem inT_ok : ∀ {path : List Step} {sub : List Sh} {u : U} {l : List (El u)} {n : Nat} {ts : List Tt} {K : List T → Prop}, okO sub (l.map (encU u)) path → inT sub u l n path = some ts → K (ts.map Tt.toT) → inK sub (l.map (encU u)) n path K
  | [], _, _, _, _, _, _, h, _, _ => h.elim
  | [st], sub, u, l, n, ts, K, h, ht, hK => by
    obtain ⟨h1, h2, h3⟩ := h
    rw [List.length_map] at h1
    simp only [inT] at ht
    split at ht
    · rename_i hb
      simp only [Option.some.injEq] at ht
      refine ⟨Nat.le_of_ble_eq_true hb, ?_⟩
      rw [get_enc l h1]
      dsimp only
      rw [← flat_enc, ← List.map_drop, ← List.map_take, zip_toT]
      subst ht
      exact hK
    · cases ht
  | st :: st' :: r, sub, u, l, n, ts, K, h, ht, hK => by
    obtain ⟨⟨h1, h2, h3⟩, h4⟩ := h
    rw [List.length_map] at h1
    simp only [inT] at ht
    split at ht
    · rename_i s u' l' e1 e2
      simp only [inK]
      rw [get_enc l h1]
      dsimp only
      have e3 : (encU u (l.getD st.idx (dflt u)))[st.off]? = some (.li (l'.map (encU u'))) := by
        rw [← flat_enc, List.getElem?_map, e2]; rfl
      rw [e1, e3]
      dsimp only
      rw [e1, getD_enc l h1, List.getD, e3] at h4
      exact inT_ok h4 ht hK
    · cases ht

/-- a place is there -/
def okP (m : Mm) (p : Pl) : Prop := match p.path with
  | [] => True
  | st :: q => ∃ r sub l, getR m p.root = some r ∧ r.cells[p.off]? = some (.ow sub l) ∧ okO sub l (st :: q)

theorem okP_pl {m : Mm} {p : Pl} (h : okPl m p) : okP m p := by
  unfold okP
  split
  · trivial
  · rename_i st q hp
    unfold okPl at h
    split at h
    · exact h.elim
    · rename_i r hr
      rw [hp] at h
      dsimp only at h
      split at h
      · rename_i sub l hc; exact ⟨r, sub, l, hr, hc, h⟩
      · exact h.elim

theorem okP_rf {m : Mm} {p : Pl} (h : okRf m p) : okP m p := by
  unfold okP
  split
  · trivial
  · rename_i st q hp
    unfold okRf at h
    split at h
    · exact h.elim
    · rename_i r hr
      rw [hp] at h
      split at h
      · simp_all
      · rename_i sub l st' q' hc he
        simp only [List.cons.injEq] at he
        obtain ⟨rfl, rfl⟩ := he
        exact ⟨r, sub, l, hr, hc, h.1⟩
      · exact h.elim

theorem getR_of {m : List (Nm × Nat × Rt)} {n : Nm} {r : Rt} (h : getM m n = some r) : getR (toM m) n = some r.toR := by rw [getM_toM, h]; rfl

theorem atT_ok {m : List (Nm × Nat × Rt)} {p : Pl} {n : Nat} {ts : List Tt} {K : List T → Prop} (hp : okP (toM m) p) (h : atT m p n = some ts) (hK : ∀ ts', HL ts ts' → K ts') : atK (toM m) p n K := by
  unfold atT at h
  split at h
  · cases h
  · rename_i r hr
    unfold atK
    rw [getR_of hr]
    dsimp only
    unfold okP at hp
    split at h
    · rename_i hpath
      rw [hpath]
      split at h
      · rename_i hb
        simp only [Option.some.injEq] at h
        have hH := HL_holed r.cells r.hole
        refine ⟨?_, hK _ ?_⟩
        · show p.off + n ≤ (holed (r.cells.map Tt.toT) r.hole).length
          rw [hH.len]; exact Nat.le_of_ble_eq_true hb
        · subst h; exact (hH.drop _).take _
      · cases h
    · rename_i st q hpath
      rw [hpath] at hp ⊢
      split at h
      · rename_i sub u l hhole hc
        obtain ⟨r', sub', l', e1, e2, e3⟩ := hp
        rw [getR_of hr] at e1
        obtain rfl := Option.some.inj e1
        have ec : r.toR.cells[p.off]? = some (.ow sub (l.map (encU u))) := by
          show (holed (r.cells.map Tt.toT) r.hole)[p.off]? = _
          rw [hhole]
          show (r.cells.map Tt.toT)[p.off]? = _
          rw [List.getElem?_map, hc]; rfl
        rw [ec] at e2 ⊢
        have e2' := Option.some.inj e2
        simp only [T.ow.injEq] at e2'
        obtain ⟨rfl, rfl⟩ := e2'
        exact inT_ok e3 h (hK _ (HL_map ts))
      · cases h

theorem sliceAt_ok {m : List (Nm × Nat × Rt)} {p : Pl} {sh : List Sh} {u : U} {l : List (El u)} {K : List T → Prop} (hp : okP (toM m) p) (h : sliceAt m p = some ⟨sh, u, l⟩) (hK : ∀ l' : List (List D), l'.length = l.length → K [.ow sh l']) : atK (toM m) p 1 K := by
  unfold sliceAt at h
  split at h
  · rename_i sh' u' l' ht
    cases h
    refine atT_ok hp ht (fun ts' hH => ?_)
    have hl := hH.len
    match ts', hl with
    | [t'], _ =>
      rcases hH.nth 0 _ _ rfl rfl with e | ⟨sh2, u2, l2, l3, e1, e2, e3⟩
      · rw [e]; exact hK _ (by simp)
      · simp only [Tt.ow.injEq] at e1
        obtain ⟨rfl, rfl, e5⟩ := e1
        have e5' := eq_of_heq e5
        subst e5'
        rw [e2]; exact hK _ e3
  · cases h

section
variable {k : At → Prop} {m : List (Nm × Nat × Rt)}

theorem gift_ok {gd : Option (Nat × Bool)} {n : Nat} {q : Prop} (h : gift gd n q) : n ≤ 4611686018427387904 → q := by
  cases gd with
  | none => exact h
  | some _ => exact fun _ => h

theorem lenT_ok {gd : Option (Nat × Bool)} {x : At} {k : Nat → Prop} (hp : ∀ p, x = .one (.c (.rf p)) → okP (toM m) p) (h : lenT gd m x k) : lenK (toM m) x.toV k := by
  unfold lenT at h
  split at h
  · exact gift_ok h
  · simp only [At.toV, A1.toV, Tt.toT, C.toD, lenK, List.length_map]; exact gift_ok h
  · exact h
  · rename_i p
    split at h
    · rename_i sh u l hs
      simp only [At.toV, A1.toV, Tt.toT, lenK]
      refine sliceAt_ok (hp p rfl) hs (fun l' hl => ?_)
      dsimp only
      rw [hl]; exact gift_ok h
    · exact h.elim
  · exact h.elim

theorem boundT_ok {x : Option At} {d : Nat} {k : Nat → Prop} (h : boundT x d k) : boundK (x.map At.toV) d k := by
  unfold boundT at h
  split at h
  · exact h
  · exact h
  · exact h.elim

theorem sliceT_ok {P : Program} {t : TypeId} {x : At} {lo hi : Option At} (h : sliceT P t x lo hi k) : sliceK P t x.toV (lo.map At.toV) (hi.map At.toV) (up k) := by
  have bmono : ∀ {y : Option At} {d : Nat} {k1 k2 : Nat → Prop}, (∀ n, k1 n → k2 n) → boundT y d k1 → boundT y d k2 := by
    intro y d k1 k2 hk hb
    unfold boundT at hb ⊢
    split at hb
    · exact hk _ hb
    · exact ⟨hb.1, hk _ hb.2⟩
    · exact hb.elim
  unfold sliceT at h
  split at h
  · rename_i l
    split at h
    · rename_i ht
      refine ⟨ht, boundT_ok (bmono (fun a ha => boundT_ok (bmono (fun b hb => ?_) ha)) h)⟩
      exact ⟨hb.1, _, rfl, hb.2⟩
    · exact h.elim
  · rename_i u l
    split at h
    · rename_i e ht
      split at h
      · rename_i hc
        simp only [Bool.and_eq_true] at hc
        simp only [At.toV, A1.toV, Tt.toT, C.toD, sliceK, ht]
        refine ⟨hc.1, fun y hy => ?_, boundT_ok (bmono (fun a ha => ?_) h)⟩
        · obtain ⟨z, _, rfl⟩ := List.mem_map.1 hy
          rw [encU_length]; exact Nat.eq_of_beq_eq_true hc.2
        · rw [List.length_map]
          refine boundT_ok (bmono (fun b hb => ?_) ha)
          exact ⟨hb.1, _, by simp only [At.toV, A1.toV, Tt.toT, C.toD, List.map_take, List.map_drop], hb.2⟩
      · exact h.elim
    · exact h.elim
  · split at h
    · rename_i e ht
      split at h
      · rename_i hc
        simp only [At.toV, A1.toV, Tt.toT, sliceK, ht]
        refine ⟨hc, boundT_ok (bmono (fun a ha => boundT_ok (bmono (fun b hb => ?_) ha)) h)⟩
        exact ⟨hb.1, hb.2.1, _, rfl, hb.2.2⟩
      · exact h.elim
    · exact h.elim
  · exact h.elim

theorem hasRoomT_ok {p : Pl} {n : Nat} (h : hasRoomT m p n = true) : hasRoom (toM m) p n := by
  unfold hasRoomT at h
  split at h
  · cases h
  · rename_i r hr
    unfold hasRoom room
    rw [getR_of hr]
    dsimp only
    have hH := HL_holed r.cells r.hole
    split at h
    · rename_i hpath
      rw [hpath]
      show n < (holed (r.cells.map Tt.toT) r.hole).length - p.off
      rw [hH.len]
      exact Nat.le_of_ble_eq_true h
    · rename_i st q sub u l hpath hc
      rw [hpath]
      split at h
      · rename_i k hk
        have hlt := (List.getElem?_eq_some_iff.1 hc).1
        have hlt' : p.off < (holed (r.cells.map Tt.toT) r.hole).length := by rw [hH.len]; exact hlt
        have := hH.nth p.off _ _ hc (List.getElem?_eq_getElem hlt')
        have e : ∃ l', r.toR.cells[p.off]? = some (.ow sub l') := by
          rcases this with e | ⟨sh, u2, l2, l3, e1, e2, _⟩
          · exact ⟨_, by show (holed _ _)[p.off]? = _; rw [List.getElem?_eq_getElem hlt', e]; rfl⟩
          · simp only [Tt.ow.injEq] at e1
            obtain ⟨rfl, _, _⟩ := e1
            exact ⟨l3, by show (holed _ _)[p.off]? = _; rw [List.getElem?_eq_getElem hlt', e2]⟩
        obtain ⟨l', e⟩ := e
        rw [e]
        dsimp only
        rw [hk]
        exact Nat.le_of_ble_eq_true h
      · cases h
    · cases h

theorem fieldAddrT_ok {P : Program} {t : TypeId} {x : At} {i : Nat} (h : fieldAddrT P m t x i k) : fieldAddrK P (toM m) t x.toV i (up k) := by
  unfold fieldAddrT at h
  split at h
  · rename_i fs ht
    unfold fieldAddrK
    rw [ht]
    dsimp only
    cases hf : fs[i]? with
    | none => rw [hf] at h; exact h.elim
    | some f =>
      obtain ⟨off, size, ag⟩ := f
      rw [hf] at h
      cases size with
      | zero => exact h.elim
      | succ size =>
        dsimp only at h ⊢
        refine ⟨by omega, ?_⟩
        split at h
        · split at h
          · rename_i hr; exact ⟨hasRoomT_ok hr, _, rfl, h⟩
          · exact h.elim
        · exact ⟨_, rfl, h⟩
        · exact h.elim
  · exact h.elim

theorem indexAddrT_ok {P : Program} {t : TypeId} {x i : At} (hp : ∀ p, x = .one (.c (.rf p)) → okP (toM m) p) (h : indexAddrT P m t x i k) : indexAddrK P (toM m) t x.toV i.toV (up k) := by
  unfold indexAddrT at h
  split at h
  · rename_i κ n
    simp only [At.toV, A1.toV, Tt.toT, C.toD, indexAddrK]
    split at h
    · rename_i e ht
      rw [ht]
      split at h
      · rename_i u l
        split at h
        · rename_i hc
          simp only [Bool.and_eq_true] at hc
          obtain ⟨⟨h1, h2⟩, h3⟩ := h
          simp only [At.toV, A1.toV, Tt.toT, C.toD]
          refine ⟨hc.1, h1, ?_⟩
          rw [get_enc l h2]
          dsimp only
          refine ⟨by rw [encU_length]; exact Nat.eq_of_beq_eq_true hc.2, _, ?_, h3⟩
          simp only [At.toV, A1.toV, Tt.toT, flat_enc]
        · exact h.elim
      · rename_i p
        split at h
        · rename_i hc
          simp only [Bool.and_eq_true] at hc
          split at h
          · rename_i sh u l hs
            split at h
            · rename_i hb
              obtain ⟨h1, h2⟩ := h
              simp only [At.toV, A1.toV, Tt.toT]
              refine ⟨hc.1, by have := Nat.le_of_ble_eq_true hc.2; omega, sliceAt_ok (hp p rfl) hs (fun l' hl => ?_)⟩
              dsimp only
              exact ⟨⟨h1.1, by rw [hl]; exact h1.2⟩, Nat.eq_of_beq_eq_true hb, _, rfl, h2⟩
            · exact h.elim
          · exact h.elim
        · exact h.elim
      · exact h.elim
    · rename_i N e ht
      rw [ht]
      split at h
      · rename_i u l i
        split at h
        · rename_i hc
          simp only [Bool.and_eq_true] at hc
          obtain ⟨h1, h2⟩ := h
          simp only [At.toV, A1.toV, Tt.toT]
          refine ⟨hc.1.1, h1, _, ?_, h2⟩
          simp only [At.toV, A1.toV, Tt.toT]
          rw [Nat.eq_of_beq_eq_true hc.1.2, Nat.mul_one, Nat.add_comm]
          rfl
        · exact h.elim
      · exact h.elim
    · exact h.elim
  · exact h.elim

theorem loadT_ok {P : Program} {t : TypeId} {x : At} (hp : ∀ p, x = .one (.c (.pl p)) → okP (toM m) p) (h : loadT P m t x k) : loadK P (toM m) t x.toV (up k) := by
  unfold loadT at h
  split at h
  · rename_i hok
    refine ⟨hok, ?_⟩
    split at h
    · rename_i row o
      simp only [At.toV, A1.toV, Tt.toT]
      split at h
      · rename_i ha
        rw [if_pos ha]
        split at h
        · rename_i hb
          refine ⟨by rw [List.length_map]; exact Nat.le_of_ble_eq_true hb, fun _ => ⟨_, ?_, h⟩⟩
          simp only [At.toV, A1.toV, AV.one.injEq, AV1.agg.injEq]
          rw [List.map_map, ← List.map_drop, ← List.map_take, List.map_map]
          rfl
        · exact h.elim
      · rename_i ha
        rw [if_neg (by rw [ha]; simp), List.getElem?_map]
        split at h
        · rename_i c hc; rw [hc]; exact fun _ => ⟨_, rfl, h⟩
        · exact h.elim
    · rename_i u l i
      simp only [At.toV, A1.toV, Tt.toT]
      split at h
      · rename_i ha hl
        have e : l[i]? = some (l.getD i (dflt u)) := by rw [List.getD_eq_getElem?_getD, List.getElem?_eq_getElem h.1]; rfl
        rw [if_neg (by rw [ha]; simp), List.getElem?_map, e]
        exact fun _ => ⟨_, rfl, h.2⟩
      · exact h.elim
    · rename_i p
      simp only [At.toV, A1.toV, Tt.toT]
      split at h
      · rename_i ha
        rw [if_pos ha]
        split at h
        · rename_i ts hts
          refine atT_ok (hp p rfl) hts (fun ts' hH => fun _ => ⟨_, ?_, h⟩)
          simp only [At.toV, A1.toV, HL_refs hH]
        · exact h.elim
      · rename_i ha
        rw [if_neg (by rw [ha]; simp)]
        split at h
        · rename_i t' hts
          refine atT_ok (hp p rfl) hts (fun ts' hH => ?_)
          have hl := hH.len
          match ts', hl with
          | [t''], _ =>
            dsimp only
            refine fun _ => ⟨_, ?_, h⟩
            simp only [At.toV, A1.toV]
            rw [RH_ref (hH.nth 0 _ _ rfl rfl)]
        · exact h.elim
    · exact h.elim
  · exact h.elim

theorem cellsAt_ok (x : At) : cellsAV x.toV = (cellsAt x).map (·.map Tt.toT) := by
  cases x with
  | one x => cases x <;> rfl
  | _ => rfl

theorem overw_map {α β : Type} (f : α → β) (ts cs : List α) (off : Nat) : (overw ts off cs).map f = overw (ts.map f) off (cs.map f) := by
  simp only [overw, List.map_append, List.map_take, List.map_drop, List.length_map]

theorem fillTt_ok {pl : Nat → Option (Nat × Nat)} : ∀ {parts : List (Nat × At)} {ts ts' : List Tt}, fillTt pl ts parts = some ts' → fillT pl (ts.map Tt.toT) (parts.map fun x => (x.1, x.2.toV)) = some (ts'.map Tt.toT)
  | [], ts, ts', h => by simp only [fillTt, Option.some.injEq] at h; subst h; rfl
  | (i, x) :: r, ts, ts', h => by
    simp only [fillTt] at h
    simp only [List.map_cons, fillT]
    cases hpl : pl i with
    | none => rw [hpl] at h; cases h
    | some q =>
      obtain ⟨off, size⟩ := q
      cases hc : cellsAt x with
      | none => rw [hpl, hc] at h; cases h
      | some cs =>
        rw [hpl, hc] at h
        dsimp only at h
        split at h
        · rename_i hb
          simp only [Bool.and_eq_true] at hb
          rw [cellsAt_ok, hc]
          dsimp only [Option.map_some]
          have hs : (cs.map Tt.toT).all T.sure = true := by
            rw [List.all_map]
            rw [← hb.2]
            congr 1
            funext t; exact sure_toT t
          rw [if_pos ⟨by rw [List.length_map]; exact Nat.eq_of_beq_eq_true hb.1.1, by rw [List.length_map, List.length_map]; exact Nat.le_of_ble_eq_true hb.1.2, hs⟩]
          rw [← overw_map]
          exact fillTt_ok h
        · cases h

theorem partsT_ok {s : St} {ps : Array (Nat × Operand)} (h : (ps.toList.all fun x => okOp x.2) = true) : partsK s.toS ps = (partsT s ps).map fun x => (x.1, x.2.toV) := by
  unfold partsK partsT
  rw [List.map_map]
  refine List.map_congr_left fun x hx => ?_
  simp only [Function.comp]
  rw [evA_toV (List.all_eq_true.1 h x hx)]

theorem csts_ok {zs : List Value} (h : zs.all okT = true) : (zs.map cstTt).map Tt.toT = zs.map cstT := by
  rw [List.map_map]
  exact List.map_congr_left fun x hx => cstTt_toT (List.all_eq_true.1 h x hx)

theorem zst_okT {P : Program} {t : TypeId} {zs : List Value} {pl : List (Nat × Nat)} (h : zst P t = some (zs, pl)) : zs.all okT = true := by
  unfold zst at h
  split at h
  · split at h
    · split at h
      · rename_i hz
        simp only [Option.some.injEq, Prod.mk.injEq] at h
        obtain ⟨rfl, _⟩ := h
        simpa using hz
      · cases h
    · cases h
  · cases h

theorem buildT_ok {P : Program} {t : TypeId} {parts : List (Nat × At)} (h : buildT P t parts k) : buildK P t (parts.map fun x => (x.1, x.2.toV)) (up k) := by
  unfold buildT at h
  split at h
  · rename_i zs places hz
    split at h
    · rename_i ts hf
      unfold buildK
      rw [hz]
      dsimp only
      have := fillTt_ok hf
      rw [csts_ok (zst_okT hz)] at this
      rw [this]
      exact ⟨.one (.agg ts), rfl, h⟩
    · exact h.elim
  · exact h.elim

end
end Go.Am
end

section
namespace Go.Am

/-! ### kills -/

theorem Tt_kill_toT (bad : Bool → Pl → Bool) (t : Tt) : (t.kill bad).toT = t.toT.kill bad := by
  cases t with
  | pl p =>
    show (if bad false p = true then Tt.any else Tt.pl p).toT = if bad false p = true then T.any else T.pl p
    by_cases h : bad false p = true <;> simp [h, Tt.toT]
  | rf p =>
    show (if bad true p = true then Tt.any else Tt.rf p).toT = if bad true p = true then T.any else T.rf p
    by_cases h : bad true p = true <;> simp [h, Tt.toT]
  | _ => rfl
theorem Tts_kill (bad : Bool → Pl → Bool) (ts : List Tt) : (ts.map (·.kill bad)).map Tt.toT = (ts.map Tt.toT).map (·.kill bad) := by
  rw [List.map_map, List.map_map]; exact List.map_congr_left fun t _ => Tt_kill_toT bad t
theorem A1_kill_toV (bad : Bool → Pl → Bool) (x : A1) : (x.kill bad).toV = x.toV.kill bad := by
  cases x with
  | c t => simp only [A1.kill, A1.toV, AV1.kill, Tt_kill_toT]
  | agg ts => simp only [A1.kill, A1.toV, AV1.kill, Tts_kill]
theorem At_kill_toV (bad : Bool → Pl → Bool) (x : At) : (x.kill bad).toV = x.toV.kill bad := by
  cases x with
  | one x => simp only [At.kill, At.toV, AV.kill, A1_kill_toV]
  | tup xs =>
    simp only [At.kill, At.toV, AV.kill]
    congr 1
    rw [List.map_map, List.map_map]; exact List.map_congr_left fun t _ => A1_kill_toV bad t
  | any => rfl

theorem Tt_kill_id {bad : Bool → Pl → Bool} {t : Tt} (h : t.hit bad = false) : t.kill bad = t := by
  cases t with
  | pl p => simp only [Tt.hit] at h; simp [Tt.kill, h]
  | rf p => simp only [Tt.hit] at h; simp [Tt.kill, h]
  | _ => rfl
theorem Tts_kill_id {bad : Bool → Pl → Bool} : ∀ {ts : List Tt}, ts.any (·.hit bad) = false → ts.map (·.kill bad) = ts
  | [], _ => rfl
  | t :: ts, h => by
    simp only [List.any_cons, Bool.or_eq_false_iff] at h
    rw [List.map_cons, Tt_kill_id h.1, Tts_kill_id h.2]
theorem A1_kill_id {bad : Bool → Pl → Bool} {x : A1} (h : x.hit bad = false) : x.kill bad = x := by
  cases x with
  | c t => simp only [A1.kill, Tt_kill_id (show t.hit bad = false from h)]
  | agg ts => simp only [A1.kill, Tts_kill_id (show ts.any _ = false from h)]
theorem At_kill_id {bad : Bool → Pl → Bool} {x : At} (h : x.hit bad = false) : x.kill bad = x := by
  cases x with
  | one x => simp only [At.kill, A1_kill_id (show x.hit bad = false from h)]
  | tup xs =>
    simp only [At.hit] at h
    simp only [At.kill]
    congr 1
    induction xs with
    | nil => rfl
    | cons x xs ih =>
      simp only [List.any_cons, Bool.or_eq_false_iff] at h
      rw [List.map_cons, A1_kill_id h.1, ih h.2]
  | any => rfl

theorem holed_kill (bad : Bool → Pl → Bool) (cells : List Tt) (hole : Option (Nat × Step × List Step)) :
    holed ((cells.map (·.kill bad)).map Tt.toT) hole = (holed (cells.map Tt.toT) hole).map (·.kill bad) := by
  rw [Tts_kill]
  cases hole with
  | none => rfl
  | some h =>
    obtain ⟨off, st, q⟩ := h
    simp only [holed]
    rw [List.getElem?_map (f := fun t => T.kill bad t)]
    cases hc : (cells.map Tt.toT)[off]? with
    | none => rfl
    | some t =>
      simp only [Option.map_some]
      cases t with
      | ow sub l => simp only [T.kill, List.map_set]
      | pl p => by_cases h : bad false p = true <;> simp [T.kill, h]
      | rf p => by_cases h : bad true p = true <;> simp [T.kill, h]
      | _ => rfl

theorem Rt_kill_toR (bad : Bool → Pl → Bool) (r : Rt) : (r.kill bad).toR = { r.toR with cells := r.toR.cells.map (·.kill bad) } := by
  simp only [Rt.toR, Rt.kill, holed_kill]

theorem killA_toS (bad : Bool → Pl → Bool) (nx : Nat) (t : List (Nat × Nat × At)) : (killA bad nx t).map (fun x => (x.1, x.2.2.toV)) = killT bad (t.map fun x => (x.1, x.2.2.toV)) := by
  simp only [killA, killT, List.map_map]
  exact List.map_congr_left fun x _ => by simp only [Function.comp, At_kill_toV]
theorem killMm_toM (bad : Bool → Pl → Bool) (nx : Nat) (m : List (Nm × Nat × Rt)) : toM (killMm bad nx m) = killM bad (toM m) := by
  simp only [toM, killMm, killM, List.map_map]
  exact List.map_congr_left fun x _ => by simp only [Function.comp, Rt_kill_toR]

theorem ND_kill {bad : Bool → Pl → Bool} {nx : Nat} {m : List (Nm × Nat × Rt)} : ND (killMm bad nx m) ↔ ND m := by
  simp only [ND, killMm, List.map_map]; exact Iff.rfl
theorem mem_delM {n k : Nm} : ∀ {m : List (Nm × Nat × Rt)}, k ∈ (delM m n).map (·.1) → k ∈ m.map (·.1) ∧ k ≠ n
  | [], h => by simp [delM] at h
  | (k', j, v) :: m, h => by
    simp only [delM] at h
    split at h
    · have := mem_delM h; exact ⟨List.mem_cons_of_mem _ this.1, this.2⟩
    · rename_i hk
      simp only [List.map_cons, List.mem_cons] at h
      rcases h with rfl | h
      · exact ⟨by simp, hk⟩
      · have := mem_delM h; exact ⟨List.mem_cons_of_mem _ this.1, this.2⟩
theorem ND_del {n : Nm} : ∀ {m : List (Nm × Nat × Rt)}, ND m → ND (delM m n)
  | [], _ => by simp [ND, delM]
  | (k, j, v) :: m, h => by
    have h' : k ∉ m.map (·.1) ∧ (m.map (·.1)).Nodup := by simpa [ND] using h
    simp only [delM]
    split
    · exact ND_del h'.2
    · have := ND_del (n := n) h'.2
      simp only [ND, List.map_cons, List.nodup_cons]
      exact ⟨fun hm => h'.1 (mem_delM hm).1, this⟩
theorem keys_setM (n : Nm) (i : Nat) (r : Rt) : ∀ m : List (Nm × Nat × Rt), (setM m n i r).map (·.1) = m.map (·.1)
  | [] => rfl
  | (k, j, v) :: m => by
    simp only [setM]
    split
    · rfl
    · simp only [List.map_cons, keys_setM n i r m]

theorem ND_of {g : G} {s : St} {a : Act} {w : World} {H : FH} {γ : Gam} {F : Nm → Fp} (h : RX g s.toS a w H γ F) : ND s.m := by
  have := h.mem.keys
  have e : s.toS.m.map (·.1) = s.m.map (·.1) := by simp only [St.toS, List.map_map]; rfl
  rw [e] at this; exact this

theorem drop_toS {s : St} {n : Nm} (h : ND s.m) : (s.drop n).toS = s.toS.drop n := by
  have h1 := killA_toS (badR n) s.nx s.t
  have h2 := killMm_toM (badR n) s.nx (delM s.m n)
  rw [delM_toM n s.m h] at h2
  exact S_ext h1 h2
where
  S_ext {t t' : List (Nat × AV)} {m m' : Mm} (h1 : t = t') (h2 : m = m') : (⟨t, m⟩ : S) = ⟨t', m'⟩ := by rw [h1, h2]

theorem ND_drop {s : St} {n : Nm} (h : ND s.m) : ND (s.drop n).m := ND_kill.2 (ND_del h)

theorem fresh_toS {s : St} {n : Nm} (h : ND s.m) : (s.fresh n).toS = s.toS.fresh n := by
  unfold St.fresh S.fresh
  have e : getR s.toS.m n = (getM s.m n).map Rt.toR := getM_toM n s.m
  rw [e]
  cases hm : getM s.m n with
  | none => rfl
  | some r => exact drop_toS h
theorem ND_fresh {s : St} {n : Nm} (h : ND s.m) : ND (s.fresh n).m := by
  unfold St.fresh
  split
  · exact h
  · exact ND_drop h

/-! ### states that hold the same -/

def SEq (s s' : S) : Prop := (∀ i, getT s.t i = getT s'.t i) ∧ s.m = s'.m

theorem RX_SEq {g : G} {s s' : S} {a : Act} {w : World} {H : FH} {γ : Gam} {F : Nm → Fp} (e : SEq s s') (h : RX g s a w H γ F) : RX g s' a w H γ F := by
  obtain ⟨t, m⟩ := s
  obtain ⟨t', m'⟩ := s'
  obtain ⟨e1, e2⟩ := e
  dsimp only at e1 e2
  subst e2
  exact ⟨h.mem, h.fr, h.nt, h.df, fun i => by rw [← e1 i]; exact h.t i⟩
theorem R_SEq {g : G} {s s' : S} {a : Act} {w : World} (e : SEq s s') (h : R g s a w) : R g s' a w := by
  obtain ⟨H, γ, F, h⟩ := h; exact ⟨H, γ, F, RX_SEq e h⟩

theorem put_SEq (s : St) (d : Option Tmp) (v : At) : SEq (s.toS.put d v.toV) (s.put d v).toS := by
  cases d with
  | none => exact ⟨fun _ => rfl, rfl⟩
  | some d =>
    refine ⟨fun i => ?_, rfl⟩
    show getT (setT _ d v.toV) i = getT ((d, v.toV) :: _) i
    rw [getT_setT]; rfl

/-! ### what stays as it was -/

theorem lookS_map (f : Nat × Nat × At → Nat × At) (k : Nat) : ∀ t : List (Nat × Nat × At), lookS (t.map fun x => (x.1, f x)) k = (lookS t k).map fun y => f (k, y)
  | [] => rfl
  | (i, j, v) :: t => by
    simp only [List.map_cons, lookS]
    cases hb : Nat.beq i k with
    | true => have := Nat.eq_of_beq_eq_true hb; subst this; rfl
    | false => exact lookS_map f k t
theorem lookM_map (f : Nm × Nat × Rt → Nat × Rt) (k : Nm) : ∀ t : List (Nm × Nat × Rt), lookM (t.map fun x => (x.1, f x)) k = (lookM t k).map fun y => f (k, y)
  | [] => rfl
  | (i, j, v) :: t => by
    simp only [List.map_cons, lookM]
    by_cases hb : i = k
    · subst hb; rw [if_pos rfl, if_pos rfl]; rfl
    · rw [if_neg hb, if_neg hb]; exact lookM_map f k t

/-- s comes from s0: what bears an old number is as it was -/
structure Ext (s0 s : St) : Prop where
  nx : s0.nx ≤ s.nx
  t : ∀ k j v, lookS s.t k = some (j, v) → j < s0.nx → lookS s0.t k = some (j, v)
  m : ∀ n j r, lookM s.m n = some (j, r) → j < s0.nx → lookM s0.m n = some (j, r)

theorem Ext.refl (s : St) : Ext s s := ⟨Nat.le_refl _, fun _ _ _ h _ => h, fun _ _ _ h _ => h⟩
theorem Ext.trans {a b c : St} (h1 : Ext a b) (h2 : Ext b c) : Ext a c :=
  ⟨Nat.le_trans h1.nx h2.nx, fun k j v h hj => h1.t k j v (h2.t k j v h (Nat.lt_of_lt_of_le hj h1.nx)) hj, fun k j v h hj => h1.m k j v (h2.m k j v h (Nat.lt_of_lt_of_le hj h1.nx)) hj⟩

/-- temporaries and roots that are old are old ones -/
abbrev ExtT (nx : Nat) (t t' : List (Nat × Nat × At)) : Prop := ∀ k j v, lookS t' k = some (j, v) → j < nx → lookS t k = some (j, v)
abbrev ExtM (nx : Nat) (m m' : List (Nm × Nat × Rt)) : Prop := ∀ n j r, lookM m' n = some (j, r) → j < nx → lookM m n = some (j, r)

theorem ExtM.trans {nx : Nat} {a b c : List (Nm × Nat × Rt)} (h1 : ExtM nx a b) (h2 : ExtM nx b c) : ExtM nx a c := fun n j r h hj => h1 n j r (h2 n j r h hj) hj
theorem ExtT.trans {nx : Nat} {a b c : List (Nat × Nat × At)} (h1 : ExtT nx a b) (h2 : ExtT nx b c) : ExtT nx a c := fun n j r h hj => h1 n j r (h2 n j r h hj) hj

theorem ExtT_cons {nx : Nat} {t : List (Nat × Nat × At)} (d i : Nat) (v : At) (hi : nx ≤ i) : ExtT nx t ((d, i, v) :: t) := by
  intro k j w h hj
  simp only [lookS] at h
  split at h
  · simp only [Option.some.injEq, Prod.mk.injEq] at h; omega
  · exact h
theorem ExtM_cons {nx : Nat} {t : List (Nm × Nat × Rt)} (d : Nm) (i : Nat) (v : Rt) (hi : nx ≤ i) : ExtM nx t ((d, i, v) :: t) := by
  intro k j w h hj
  simp only [lookM] at h
  split at h
  · simp only [Option.some.injEq, Prod.mk.injEq] at h; omega
  · exact h
theorem ExtT_map {nx i : Nat} {t : List (Nat × Nat × At)} (chg : At → Bool) (f : At → At) (hf : ∀ v, chg v = false → f v = v) (hi : nx ≤ i) :
    ExtT nx t (t.map fun x => (x.1, stp (chg x.2.2) i x.2.1, f x.2.2)) := by
  intro k j v h hj
  rw [lookS_map (fun x => (stp (chg x.2.2) i x.2.1, f x.2.2))] at h
  cases hl : lookS t k with
  | none => rw [hl] at h; cases h
  | some y =>
    obtain ⟨j', v'⟩ := y
    rw [hl] at h
    simp only [Option.map_some, Option.some.injEq, Prod.mk.injEq] at h
    cases hc : chg v' with
    | true => rw [hc] at h; simp only [stp] at h; omega
    | false => rw [hc, hf v' hc] at h; simp only [stp] at h; obtain ⟨rfl, rfl⟩ := h; rfl
theorem ExtT_kill {nx i : Nat} {t : List (Nat × Nat × At)} {bad : Bool → Pl → Bool} (hi : nx ≤ i) : ExtT nx t (killA bad i t) := ExtT_map (·.hit bad) (·.kill bad) (fun _ h => At_kill_id h) hi
theorem ExtM_kill {nx i : Nat} {t : List (Nm × Nat × Rt)} {bad : Bool → Pl → Bool} (hi : nx ≤ i) : ExtM nx t (killMm bad i t) := by
  intro k j v h hj
  unfold killMm at h
  rw [lookM_map (fun x => (stp (x.2.2.cells.any (·.hit bad)) i x.2.1, x.2.2.kill bad))] at h
  cases hl : lookM t k with
  | none => rw [hl] at h; cases h
  | some y =>
    obtain ⟨j', r⟩ := y
    rw [hl] at h
    simp only [Option.map_some, Option.some.injEq, Prod.mk.injEq] at h
    cases hc : r.cells.any (·.hit bad) with
    | true => rw [hc] at h; simp only [stp] at h; omega
    | false =>
      rw [hc] at h
      have : r.kill bad = r := by unfold Rt.kill; rw [Tts_kill_id hc]
      rw [this] at h
      simp only [stp] at h
      obtain ⟨rfl, rfl⟩ := h; rfl
theorem lookM_delM (n k : Nm) : ∀ m : List (Nm × Nat × Rt), lookM (delM m n) k = if k = n then none else lookM m k
  | [] => by simp [delM, lookM]
  | (i, j, v) :: m => by
    simp only [delM]
    by_cases h : i = n
    · subst h
      rw [if_pos rfl, lookM_delM i k m]
      by_cases hk : k = i
      · rw [if_pos hk, if_pos hk]
      · rw [if_neg hk, if_neg hk]; simp only [lookM]; rw [if_neg (fun e => hk e.symm)]
    · rw [if_neg h]
      simp only [lookM]
      by_cases hk : i = k
      · subst hk; rw [if_pos rfl, if_neg h, if_pos rfl]
      · rw [if_neg hk, if_neg hk, lookM_delM n k m]
theorem ExtM_del {nx : Nat} {m : List (Nm × Nat × Rt)} (n : Nm) : ExtM nx m (delM m n) := by
  intro k j r h _
  rw [lookM_delM] at h
  split at h
  · cases h
  · exact h
theorem ExtM_set {nx i : Nat} (n : Nm) (r : Rt) (hi : nx ≤ i) : ∀ m : List (Nm × Nat × Rt), ExtM nx m (setM m n i r)
  | [], _, _, _, h, _ => h
  | (a, b, c) :: m, k, j, v, h, hj => by
    simp only [setM] at h
    split at h
    · rename_i ha
      simp only [lookM] at h ⊢
      split at h
      · simp only [Option.some.injEq, Prod.mk.injEq] at h; omega
      · rename_i hk; rw [if_neg hk]; exact h
    · simp only [lookM] at h ⊢
      split at h
      · rename_i hk; rw [if_pos hk]; exact h
      · rename_i hk; rw [if_neg hk]; exact ExtM_set n r hi m k j v h hj

theorem Ext_put (s : St) (d : Option Tmp) (v : At) : Ext s (s.put d v) := by
  cases d with
  | none => exact Ext.refl s
  | some d => exact ⟨Nat.le_succ _, ExtT_cons d s.nx v (Nat.le_refl _), fun _ _ _ h _ => h⟩
theorem Ext_drop (s : St) (n : Nm) : Ext s (s.drop n) := ⟨Nat.le_succ _, ExtT_kill (Nat.le_refl _), (ExtM_del n).trans (ExtM_kill (Nat.le_refl _))⟩
theorem Ext_fresh (s : St) (n : Nm) : Ext s (s.fresh n) := by
  unfold St.fresh; split
  · exact Ext.refl s
  · exact Ext_drop s n
theorem Ext_root (s : St) (n : Nm) (r : Rt) : Ext s (s.root n r) := ⟨Nat.le_succ _, fun _ _ _ h _ => h, ExtM_cons n s.nx r (Nat.le_refl _)⟩

/-! ### freezing -/

theorem Tt_frz_toT (q : Pl) (u : U) (l : List (El u)) (t : Tt) : (t.frz q u l).toT = t.toT.frz q (l.map (encU u)) := by
  cases t with
  | pl p => exact Tt_kill_toT (thr q) (.pl p)
  | rf p =>
    obtain ⟨n, o, path⟩ := p
    cases path with
    | nil =>
      show (if n = q.root ∧ o = q.off then Tt.d (.li u l) else (Tt.rf ⟨n, o, []⟩).kill (thr q)).toT = if n = q.root ∧ o = q.off then T.d (.li (l.map (encU u))) else (T.rf ⟨n, o, []⟩).kill (thr q)
      by_cases h : n = q.root ∧ o = q.off
      · rw [if_pos h, if_pos h]; rfl
      · rw [if_neg h, if_neg h]; exact Tt_kill_toT (thr q) (.rf ⟨n, o, []⟩)
    | cons st r => exact Tt_kill_toT (thr q) (.rf ⟨n, o, st :: r⟩)
  | _ => rfl
theorem A1_map_toV {f : Tt → Tt} {f' : T → T} (h : ∀ t, (f t).toT = f' t.toT) (x : A1) : (x.map f).toV = x.toV.map f' := by
  cases x with
  | c t => simp only [A1.map, A1.toV, AV1.map, h]
  | agg ts =>
    simp only [A1.map, A1.toV, AV1.map]
    congr 1
    rw [List.map_map, List.map_map]; exact List.map_congr_left fun t _ => h t
theorem At_map_toV {f : Tt → Tt} {f' : T → T} (h : ∀ t, (f t).toT = f' t.toT) (x : At) : (x.map f).toV = x.toV.map f' := by
  cases x with
  | one x => simp only [At.map, At.toV, AV.map, A1_map_toV h]
  | tup xs =>
    simp only [At.map, At.toV, AV.map]
    congr 1
    rw [List.map_map, List.map_map]; exact List.map_congr_left fun t _ => A1_map_toV h t
  | any => rfl

theorem Tt_frz_id {q : Pl} {u : U} {l : List (El u)} {t : Tt} (h : t.hit (thrF q) = false) : t.frz q u l = t := by
  cases t with
  | pl p =>
    simp only [Tt.hit, thrF, Bool.false_and, Bool.or_false] at h
    exact Tt_kill_id (t := .pl p) h
  | rf p =>
    simp only [Tt.hit, thrF, Bool.true_and, Bool.or_eq_false_iff] at h
    obtain ⟨n, o, path⟩ := p
    cases path with
    | nil =>
      simp only [Tt.frz]
      rw [if_neg (by simpa using h.2)]
      exact Tt_kill_id (t := .rf ⟨n, o, []⟩) h.1
    | cons st r => exact Tt_kill_id (t := .rf ⟨n, o, st :: r⟩) h.1
  | _ => rfl
theorem At_frz_id {q : Pl} {u : U} {l : List (El u)} {x : At} (h : x.hit (thrF q) = false) : x.map (Tt.frz q u l) = x := by
  have one : ∀ {y : A1}, y.hit (thrF q) = false → y.map (Tt.frz q u l) = y := by
    intro y hy
    cases y with
    | c t => simp only [A1.map, Tt_frz_id (show t.hit _ = false from hy)]
    | agg ts =>
      simp only [A1.hit] at hy
      simp only [A1.map]
      congr 1
      induction ts with
      | nil => rfl
      | cons t ts ih =>
        simp only [List.any_cons, Bool.or_eq_false_iff] at hy
        rw [List.map_cons, Tt_frz_id hy.1, ih hy.2]
  cases x with
  | one y => simp only [At.map, one (show y.hit _ = false from h)]
  | tup xs =>
    simp only [At.hit] at h
    simp only [At.map]
    congr 1
    induction xs with
    | nil => rfl
    | cons y ys ih =>
      simp only [List.any_cons, Bool.or_eq_false_iff] at h
      rw [List.map_cons, one h.1, ih h.2]
  | any => rfl

theorem getM_lookM (n : Nm) : ∀ m : List (Nm × Nat × Rt), getM m n = (lookM m n).map (·.2)
  | [] => rfl
  | (k, j, r) :: m => by
    simp only [getM, lookM]
    by_cases h : k = n
    · rw [if_pos h, if_pos h]; rfl
    · rw [if_neg h, if_neg h]; exact getM_lookM n m

theorem Ext_frzPt (s : St) (q : Pl) : Ext s (frzPt s q) := by
  unfold frzPt
  split
  · split
    · rename_i u l _ _
      refine ⟨Nat.le_succ _, ExtT_map (·.hit (thrF q)) (·.map (Tt.frz q u l)) (fun _ h => At_frz_id h) (Nat.le_refl _), ?_⟩
      have hset : ∀ (m : List (Nm × Nat × Rt)) off t, ExtM s.nx m (setCell m q.root s.nx off t) := by
        intro m off t
        unfold setCell
        split
        · exact ExtM_set _ _ (Nat.le_refl _) m
        · exact fun _ _ _ h _ => h
      exact ((hset _ _ _).trans (ExtM_kill (Nat.le_refl _))).trans (hset _ _ _)
    · exact Ext.refl s
  · exact Ext.refl s

theorem setCell_toM {m : List (Nm × Nat × Rt)} {n : Nm} {i off : Nat} {t : Tt} {r : Rt} (hr : getM m n = some r) (hh : r.hole = none) :
    toM (setCell m n i off t) = setR (toM m) n ⟨r.blk, (r.toR.cells).set off t.toT⟩ := by
  unfold setCell
  rw [hr]
  dsimp only
  rw [setM_toM]
  congr 1
  simp only [Rt.toR, hh, holed, List.map_set]

theorem getM_setCell {m : List (Nm × Nat × Rt)} {n : Nm} {i off : Nat} {t : Tt} {r : Rt} (hr : getM m n = some r) : getM (setCell m n i off t) n = some { r with cells := r.cells.set off t } := by
  unfold setCell
  rw [hr]
  dsimp only
  induction m with
  | nil => cases hr
  | cons x m ih =>
    obtain ⟨k, j, v⟩ := x
    simp only [setM]
    simp only [getM] at hr
    by_cases h : k = n
    · rw [if_pos h]; simp only [getM]; rw [if_pos h]
    · rw [if_neg h] at hr ⊢; simp only [getM]; rw [if_neg h]; exact ih hr

theorem getM_kill (bad : Bool → Pl → Bool) (i : Nat) (n : Nm) (m : List (Nm × Nat × Rt)) : getM (killMm bad i m) n = (getM m n).map (·.kill bad) := by
  rw [getM_lookM, getM_lookM]
  unfold killMm
  rw [lookM_map (fun x => (stp (x.2.2.cells.any (·.hit bad)) i x.2.1, x.2.2.kill bad))]
  cases lookM m n <;> rfl

theorem RXt_frzPt {g : G} {s : St} {a : Act} {w : World} {H : FH} {γ : Gam} {F : Nm → Fp} (h : RX g s.toS a w H γ F) (q : Pl) : ∃ H' F', RX g (frzPt s q).toS a w H' γ F' := by
  unfold frzPt
  split
  · rename_i r hpath hr
    split
    · rename_i sh u l hh hc
      obtain ⟨H', F', h'⟩ := RX_frz h q
      refine ⟨H', F', ?_⟩
      have ec : r.toR.cells[q.off]? = some (.ow sh (l.map (encU u))) := by
        show (holed (r.cells.map Tt.toT) r.hole)[q.off]? = _
        rw [hh]
        show (r.cells.map Tt.toT)[q.off]? = _
        rw [List.getElem?_map, hc]; rfl
      have eg : getR s.toS.m q.root = some r.toR := getR_of hr
      have egp : getPl s.toS.m q = some (.ow sh (l.map (encU u))) := by
        unfold getPl
        rw [eg, hpath]
        exact ec
      have efrz : frzP s.toS q = ⟨mapT (AV.map (T.frz q (l.map (encU u)))) s.toS.t, frzM s.toS.m q (l.map (encU u))⟩ := by
        unfold frzP
        rw [egp, hpath]
      rw [efrz] at h'
      have key : (⟨s.nx + 1, s.t.map fun x => (x.1, stp (x.2.2.hit (thrF q)) s.nx x.2.1, x.2.2.map (Tt.frz q u l)),
          setCell (killMm (thr q) s.nx (setCell s.m q.root s.nx q.off .any)) q.root s.nx q.off (.d (.li u l))⟩ : St).toS = ⟨mapT (AV.map (T.frz q (l.map (encU u)))) s.toS.t, frzM s.toS.m q (l.map (encU u))⟩ := by
        refine drop_toS.S_ext ?_ ?_
        · simp only [St.toS, mapT, List.map_map]
          exact List.map_congr_left fun x _ => by simp only [Function.comp, At_map_toV (Tt_frz_toT q u l)]
        · have g1 := getM_setCell (i := s.nx) (off := q.off) (t := .any) hr
          have g2 : getM (killMm (thr q) s.nx (setCell s.m q.root s.nx q.off .any)) q.root = some (({ r with cells := r.cells.set q.off .any } : Rt).kill (thr q)) := by rw [getM_kill, g1]; rfl
          show toM (setCell _ q.root s.nx q.off (.d (.li u l))) = _
          rw [setCell_toM g2 hh, killMm_toM, setCell_toM hr hh]
          unfold frzM
          have p1 : putPl s.toS.m q .any = setR (toM s.m) q.root ⟨r.blk, r.toR.cells.set q.off Tt.any.toT⟩ := by
            unfold putPl
            rw [eg, hpath]
            rfl
          rw [p1]
          have g3 : getR (killM (thr q) (setR (toM s.m) q.root ⟨r.blk, r.toR.cells.set q.off Tt.any.toT⟩)) q.root = some ⟨r.blk, (r.toR.cells.set q.off Tt.any.toT).map (·.kill (thr q))⟩ := by
            have := getR_of g2
            rw [killMm_toM, setCell_toM hr hh] at this
            rw [this, Rt_kill_toR]
            simp only [Rt.toR, hh, holed, List.map_set, Tt.toT]
          unfold putPl
          rw [g3, hpath]
          dsimp only
          congr 1
          simp only [Rt.toR, Rt.kill, hh, holed, List.map_set, Tts_kill, List.set_set, Tt.toT, C.toD]
      rw [key]; exact h'
    · exact ⟨H, F, h⟩
  · exact ⟨H, F, h⟩

end Go.Am
end

section
namespace Go.Am

/-! ### freezing, several values -/

section
variable {g : G} {a : Act} {w : World} {γ : Gam}

theorem RXt_frzTt {s : St} {H : FH} {F : Nm → Fp} (h : RX g s.toS a w H γ F) (t : Tt) : ∃ H' F', RX g (frzTt s t).toS a w H' γ F' := by
  cases t with
  | rf p => exact RXt_frzPt h p
  | _ => exact ⟨H, F, h⟩
theorem RXt_frzTts : ∀ (ts : List Tt) (s : St) (H : FH) (F : Nm → Fp), RX g s.toS a w H γ F → ∃ H' F', RX g (frzTts s ts).toS a w H' γ F'
  | [], _, H, F, h => ⟨H, F, h⟩
  | t :: ts, s, H, F, h => by
    obtain ⟨H1, F1, h1⟩ := RXt_frzTt h t
    exact RXt_frzTts ts _ H1 F1 h1
theorem RXt_frzAt {s : St} {H : FH} {F : Nm → Fp} (h : RX g s.toS a w H γ F) (v : At) : ∃ H' F', RX g (frzAt s v).toS a w H' γ F' := by
  cases v with
  | one x => cases x with
    | c t => exact RXt_frzTt h t
    | agg ts => exact RXt_frzTts ts s H F h
  | _ => exact ⟨H, F, h⟩
theorem RXt_frzAts : ∀ (vs : List At) (s : St) (H : FH) (F : Nm → Fp), RX g s.toS a w H γ F → ∃ H' F', RX g (frzAts s vs).toS a w H' γ F'
  | [], _, H, F, h => ⟨H, F, h⟩
  | v :: vs, s, H, F, h => by
    obtain ⟨H1, F1, h1⟩ := RXt_frzAt h v
    exact RXt_frzAts vs _ H1 F1 h1

/-- what is frozen stays frozen -/
theorem RXt_mono {s s' : St} {H : FH} {F : Nm → Fp} (hX : RX g s.toS a w H γ F) (hf : ∀ (g' : G) (H : FH) (F : Nm → Fp), RX g' s.toS a w H γ F → ∃ H' F', RX g' s'.toS a w H' γ F') :
    ∃ H' F', RX g s'.toS a w H' γ F' ∧ ∀ b o y, H b o = some y → H' b o = some y := by
  let g' : G := ⟨g.nt, w, H, tot F s.toS.m, g.out⟩
  have hX2 : RX g' s.toS a w H γ F := ⟨hX.mem, Fr.refl' rfl rfl rfl rfl (fun _ h => h), hX.nt, ⟨hX.df.1, hX.df.2.1, RX_glob hX⟩, hX.t⟩
  obtain ⟨H', F', h⟩ := hf g' H F hX2
  exact ⟨H', F', ⟨h.mem, hX.fr.trans h.fr, h.nt, ⟨h.df.1, h.df.2.1, hX.df.2.2⟩, h.t⟩, h.fr.hold⟩

theorem Ext_frzTt (s : St) (t : Tt) : Ext s (frzTt s t) := by
  cases t with
  | rf p => exact Ext_frzPt s p
  | _ => exact Ext.refl s
theorem Ext_frzTts : ∀ (ts : List Tt) (s : St), Ext s (frzTts s ts)
  | [], s => Ext.refl s
  | t :: ts, s => (Ext_frzTt s t).trans (Ext_frzTts ts _)
theorem Ext_frzAt (s : St) (v : At) : Ext s (frzAt s v) := by
  cases v with
  | one x => cases x with
    | c t => exact Ext_frzTt s t
    | agg ts => exact Ext_frzTts ts s
  | _ => exact Ext.refl s
theorem Ext_frzAts : ∀ (vs : List At) (s : St), Ext s (frzAts s vs)
  | [], s => Ext.refl s
  | v :: vs, s => (Ext_frzAt s v).trans (Ext_frzAts vs _)

theorem RXt_preF {s : St} {H : FH} {F : Nm → Fp} (h : RX g s.toS a w H γ F) (o : Oper) : ∃ H' F', RX g (preF s o).toS a w H' γ F' := by
  unfold preF
  split
  · exact RXt_frzAt h _
  · exact RXt_frzAt h _
  · exact ⟨H, F, h⟩
theorem Ext_preF (s : St) (o : Oper) : Ext s (preF s o) := by
  unfold preF
  split
  · exact Ext_frzAt s _
  · exact Ext_frzAt s _
  · exact Ext.refl s

/-! ### values that lead to no owned slice are not frozen -/

theorem frzT_noRf {s : S} {t : Tt} (h : t.noRf = true) : frzT s t.toT = s := by
  cases t with
  | rf p => cases h
  | _ => rfl
theorem frzTs_noRf {s : S} : ∀ {ts : List Tt}, ts.all Tt.noRf = true → frzTs s (ts.map Tt.toT) = s
  | [], _ => rfl
  | t :: ts, h => by
    simp only [List.all_cons, Bool.and_eq_true] at h
    simp only [List.map_cons, frzTs]
    rw [frzT_noRf h.1, frzTs_noRf h.2]
theorem frzV_noRf {s : S} {v : At} (h : v.noRf = true) : frzV s v.toV = s := by
  cases v with
  | one x => cases x with
    | c t => exact frzT_noRf h
    | agg ts => exact frzTs_noRf h
  | _ => rfl
theorem frzVs_noRf {s : S} : ∀ {vs : List At}, vs.all At.noRf = true → frzVs s (vs.map At.toV) = s
  | [], _ => rfl
  | v :: vs, h => by
    simp only [List.all_cons, Bool.and_eq_true] at h
    simp only [List.map_cons, frzVs]
    rw [frzV_noRf h.1, frzVs_noRf h.2]

/-! ### operations that give a value -/

theorem okP_ev {s : St} {H : FH} {F : Nm → Fp} (hX : RX g s.toS a w H γ F) {x : Operand} (hc : okOp x = true) :
    (∀ p, evA s x = .one (.c (.rf p)) → okP (toM s.m) p) ∧ (∀ p, evA s x = .one (.c (.pl p)) → okP (toM s.m) p) := by
  have h := ev_ok hX hc
  rw [evA_toV hc] at h
  refine ⟨fun p e => ?_, fun p e => ?_⟩
  · rw [e] at h
    obtain ⟨_, h1, _⟩ := h
    exact okP_rf h1
  · rw [e] at h
    obtain ⟨_, h1, _⟩ := h
    exact okP_pl h1

theorem gift_mono {gd : Option (Nat × Bool)} {n : Nat} {q q' : Prop} (hq : q → q') (h : gift gd n q) : gift gd n q' := by
  cases gd with
  | none => exact fun hh => hq (h hh)
  | some _ => exact hq h

theorem lenT_mono {gd : Option (Nat × Bool)} {m : List (Nm × Nat × Rt)} {x : At} {k k' : Nat → Prop} (hk : ∀ n, k n → k' n) (h : lenT gd m x k) : lenT gd m x k' := by
  unfold lenT at h ⊢
  split at h
  · exact gift_mono (hk _) h
  · exact gift_mono (hk _) h
  · exact hk _ h
  · split at h
    · exact gift_mono (hk _) h
    · exact h.elim
  · exact h.elim

theorem isStr_toV (x : At) : isStrAV x.toV = isStrA x := by
  cases x with
  | one x => cases x with
    | c t => cases t with
      | d c => cases c <;> rfl
      | _ => rfl
    | agg ts => rfl
  | _ => rfl

theorem qT_ok {e : En} {o : Oper} {s : St} {k : At → Prop} {H : FH} {F : Nm → Fp} (hX : RX g s.toS a w H γ F) (hc : opC g.nt o = true) (h : qT e o s k) : qK e.P o s.toS (up k) := by
  unfold opC at hc
  rw [Bool.and_eq_true] at hc
  obtain ⟨_, hc⟩ := hc
  unfold qT at h
  unfold qK
  cases ho : o.op with
  | move x => rw [ho] at h hc; exact ⟨_, evA_toV hc, h⟩
  | assign x => rw [ho] at h hc; exact ⟨_, evA_toV hc, h⟩
  | pick c x y =>
    rw [ho] at h hc
    simp only [Bool.and_eq_true] at hc
    dsimp only
    rw [evA_toV hc.1.1, evA_toV hc.1.2, evA_toV hc.2]
    exact pickT_ok h
  | binOp op t x y z =>
    rw [ho] at h hc
    simp only [Bool.and_eq_true] at hc
    dsimp only
    rw [evA_toV hc.1, evA_toV hc.2]
    exact binT_ok h
  | unOp op t x => rw [ho] at h hc; dsimp only at hc ⊢; rw [evA_toV hc]; exact unT_ok h
  | load t x => rw [ho] at h hc; dsimp only at hc ⊢; rw [evA_toV hc]; exact loadT_ok (okP_ev hX hc).2 h
  | field t x i => rw [ho] at h hc; dsimp only at hc ⊢; rw [evA_toV hc]; exact fieldT_ok h
  | fieldAddr t x i => rw [ho] at h hc; dsimp only at hc ⊢; rw [evA_toV hc]; exact fieldAddrT_ok h
  | indexAddr t x i =>
    rw [ho] at h hc
    simp only [Bool.and_eq_true] at hc
    dsimp only
    rw [evA_toV hc.1, evA_toV hc.2]
    exact indexAddrT_ok (okP_ev hX hc.1).1 h
  | index t x i =>
    rw [ho] at h hc
    simp only [Bool.and_eq_true] at hc
    dsimp only at h ⊢
    split at h
    · rename_i ht
      rw [evA_toV hc.1, evA_toV hc.2]
      exact ⟨ht, strAtT_ok h⟩
    · exact h.elim
  | extract x i => rw [ho] at h hc; dsimp only at hc ⊢; rw [evA_toV hc]; exact extractT_ok h
  | convert su du x => rw [ho] at h hc; dsimp only at hc ⊢; rw [evA_toV hc]; exact convT_ok h
  | slice t x lo hi mx =>
    rw [ho] at h hc
    cases mx with
    | some _ => exact h.elim
    | none =>
      dsimp only at h hc ⊢
      simp only [Bool.and_eq_true] at hc
      have opt : ∀ (y : Option Operand), y.all okOp = true → y.map (ev s.toS) = (y.map (evA s)).map At.toV := by
        intro y hy
        cases y with
        | none => rfl
        | some y => simp only [Option.map_some]; rw [evA_toV (by simpa using hy)]
      rw [evA_toV hc.1.1, opt lo hc.1.2, opt hi hc.2]
      exact sliceT_ok h
  | nilCheck x => rw [ho] at h hc; dsimp only at hc ⊢; rw [evA_toV hc]; exact nilCheckT_ok h
  | build t ps => rw [ho] at h hc; dsimp only at hc ⊢; rw [partsT_ok hc]; exact buildT_ok h
  | call c =>
    rw [ho] at h hc
    obtain ⟨callee, args, argTypes⟩ := c
    obtain ⟨args⟩ := args
    obtain ⟨argTypes⟩ := argTypes
    dsimp only at h hc ⊢
    cases callee with
    | builtin b =>
      cases b with
      | len =>
        match args, argTypes, h with
        | [x], [t], h =>
          have h1 : okOp x = true := by simpa using hc
          dsimp only at h ⊢
          split at h
          · rename_i hl
            rw [evA_toV h1, isStr_toV]
            refine ⟨hl, ?_⟩
            exact lenT_ok (okP_ev hX h1).1 (lenT_mono (fun n hn => ⟨_, rfl, hn⟩) h)
          · exact h.elim
      | _ => exact h.elim
    | _ => exact h.elim
  | _ => rw [ho] at h; exact h.elim
end
end Go.Am
end

section
namespace Go.Am

abbrev upS (k : St → Prop) : S → Prop := fun s' => ∃ t : St, SEq s' t.toS ∧ k t

theorem zcells_okT {P : Program} {t : TypeId} {zs : List Value} (h : zcells P t = some zs) : zs.all okT = true := by
  unfold zcells at h
  split at h
  · split at h
    · split at h
      · rename_i hz
        simp only [Option.some.injEq] at h
        subst h
        simpa using hz
      · cases h
    · cases h
  · cases h

section
variable {P : Program} {s : St} {k : St → Prop}

theorem allocT_ok {t : TypeId} {d : Tmp} (hn : ND s.m) (h : allocT P s t d k) : allocK P s.toS t d (upS k) := by
  unfold allocT at h
  split at h
  · rename_i z zs hz
    split at h
    · rename_i hd
      unfold allocK
      rw [hz]
      refine ⟨by simp, Nat.le_of_ble_eq_true hd, _, ?_, h⟩
      have e : ((s.fresh (locN t d)).root (locN t d) ⟨true, (z :: zs).map cstTt, none⟩).toS = (s.toS.fresh (locN t d)).root (locN t d) ⟨true, (z :: zs).map cstT⟩ := by
        rw [← fresh_toS hn, ← csts_ok (zcells_okT hz)]; rfl
      rw [← e]
      exact put_SEq ((s.fresh (locN t d)).root (locN t d) ⟨true, (z :: zs).map cstTt, none⟩) (some d) (.one (.c (.pl ⟨locN t d, 0, []⟩)))
    · exact h.elim
  · exact h.elim

theorem boxT_ok {x : Operand} {d : Tmp} (hn : ND s.m) (hx : okOp x = true) (h : boxT s x d k) : boxK s.toS x d (upS k) := by
  unfold boxT at h
  split at h
  · rename_i t ts hc
    split at h
    · rename_i hd
      simp only [Bool.and_eq_true] at hd
      unfold boxK
      rw [← fresh_toS hn, evA_toV hx, cellsAt_ok, hc]
      dsimp only [Option.map_some]
      refine ⟨by simp, ?_, Nat.le_of_ble_eq_true hd.2, _, ?_, h⟩
      · rw [List.all_map, ← hd.1]; congr 1; funext t; exact sure_toT t
      · exact put_SEq ((s.fresh (.loc d)).root (.loc d) ⟨true, t :: ts, none⟩) (some d) (.one (.c (.pl ⟨.loc d, 0, []⟩)))
    · exact h.elim
  · exact h.elim

theorem fz_canC {u : U} {t : Tt} {x : El u} (h : canC u t = some x) : t.toT.fz = (cellOf u x).toD := by
  unfold canC at h
  split at h
  · rename_i c; rw [ofCell_eq h]
    rfl
  · split at h
    · simp only [Option.some.injEq] at h; subst h; rfl
    · cases h
  · cases h

theorem fz_canCs : ∀ {us : List U} {ts : List Tt} {x : Fl us}, canCs us ts = some x → ts.map (fun t => t.toT.fz) = (cellsF us x).map C.toD
  | [], [], _, _ => rfl
  | u :: r, c :: cs, x, h => by
    simp only [canCs] at h
    cases h1 : canC u c with
    | none => rw [h1] at h; cases h
    | some y =>
      cases h2 : canCs r cs with
      | none => rw [h1, h2] at h; cases h
      | some z =>
        rw [h1, h2] at h
        simp only [Option.some.injEq] at h
        subst h
        rw [cellsF, hd_cons, tl_cons, List.map_cons, List.map_cons, fz_canC h1, fz_canCs h2]
  | [], _ :: _, _, h => by simp [canCs] at h
  | _ :: _, [], _, h => by simp [canCs] at h

theorem fz_canU {u : U} {ts : List Tt} {x : El u} (h : canU u ts = some x) : ts.map (fun t => t.toT.fz) = encU u x := by
  rw [← flat_enc]
  cases u with
  | st n =>
    simp only [canU] at h
    cases h1 : canCs (sd n).fs ts with
    | none => rw [h1] at h; cases h
    | some y =>
      rw [h1] at h
      have := Option.some.inj h
      subst this
      show _ = (cellsF (sd n).fs ((sd n).un ((sd n).mkF y))).map C.toD
      rw [(sd n).l2, fz_canCs h1]
  | _ =>
    cases ts with
    | nil => cases h
    | cons t r => cases r with
      | nil => rw [flat_leaf rfl]; simp only [List.map_cons, List.map_nil]; rw [fz_canC h]
      | cons _ _ => cases h

theorem fz_canRows {u : U} : ∀ {rows : List (List Tt)} {l : List (El u)}, canRows u rows = some l → rows.map (fun r => r.map fun t => t.toT.fz) = l.map (encU u)
  | [], l, h => by simp only [canRows, Option.some.injEq] at h; subst h; rfl
  | r :: rs, l, h => by
    simp only [canRows] at h
    cases h1 : canU u r with
    | none => rw [h1] at h; cases h
    | some x =>
      cases h2 : canRows u rs with
      | none => rw [h1, h2] at h; cases h
      | some xs =>
        rw [h1, h2] at h
        simp only [Option.some.injEq] at h
        subst h
        rw [List.map_cons, List.map_cons, fz_canU h1, fz_canRows h2]

theorem chunk_map {α β : Type} (f : α → β) (size : Nat) : ∀ (n : Nat) (l : List α), chunk size n (l.map f) = (chunk size n l).map (·.map f)
  | 0, _ => rfl
  | n + 1, l => by simp only [chunk, List.map_cons, List.map_take]; rw [← List.map_drop, chunk_map f size n]

theorem all_noRf {ps : Array (Nat × Operand)} (h : (partsT s ps).all (fun x => x.2.noRf) = true) : (ps.toList.map fun x => evA s x.2).all At.noRf = true := by
  unfold partsT at h
  rw [List.all_map] at h ⊢
  exact h

theorem evs_toV {xs : List (Nat × Operand)} (h : (xs.all fun x => okOp x.2) = true) : (xs.map fun x => ev s.toS x.2) = (xs.map fun x => evA s x.2).map At.toV := by
  rw [List.map_map]
  exact List.map_congr_left fun x hx => evA_toV (List.all_eq_true.1 h x hx)

theorem buildSliceT_ok {E : Ut} {t : TypeId} {len : Nat} {ps : Array (Nat × Operand)} {d : Tmp} (hps : (ps.toList.all fun x => okOp x.2) = true)
    (hn : ND (frzAts s (ps.toList.map fun x => evA s x.2)).m) (h : buildSliceT P E s t len ps d k) : buildSliceK P (frzAts s (ps.toList.map fun x => evA s x.2)).toS t len ps d (upS k) := by
  unfold buildSliceT at h
  split at h
  · rename_i e ht
    split at h
    · rename_i u z he hz
      split at h
      · rename_i hc
        simp only [Bool.and_eq_true] at hc
        obtain ⟨⟨⟨c1, c2⟩, c3⟩, c4⟩ := hc
        have hsz := Nat.eq_of_beq_eq_true c2
        dsimp only at h
        generalize hs1 : frzAts s (ps.toList.map fun x => evA s x.2) = s1 at h hn
        split at h
        · rename_i ts hf hno
          split at h
          · rename_i l hl
            unfold buildSliceK
            rw [ht]
            dsimp only
            refine ⟨c1, by rw [hz]; rfl, by rw [← hsz]; exact Nat.le_of_ble_eq_true c3, Nat.le_of_ble_eq_true c4, ?_⟩
            rw [evs_toV hps, frzVs_noRf (all_noRf hno), ← fresh_toS hn, partsT_ok hps, ← hsz]
            have hf' := fillTt_ok hf
            rw [List.map_replicate] at hf'
            have e0 : Tt.any.toT = T.any := rfl
            rw [e0] at hf'
            rw [hf']
            dsimp only
            refine ⟨_, ?_, h⟩
            have er : (⟨false, [.ow (List.replicate (nc u) .fr) u l], none⟩ : Rt).toR = ⟨false, [.ow (List.replicate (nc u) .fr) (chunk (nc u) len ((ts.map Tt.toT).map T.fz))]⟩ := by
              have e2 : chunk (nc u) len ((ts.map Tt.toT).map T.fz) = l.map (encU u) := by rw [List.map_map, chunk_map]; exact fz_canRows hl
              rw [e2]; rfl
            rw [← er]
            exact put_SEq ((s1.fresh (.gh d)).root (.gh d) ⟨false, [.ow (List.replicate (nc u) .fr) u l], none⟩) (some d) (.one (.c (.rf ⟨.gh d, 0, []⟩)))
          · exact h.elim
        · exact h.elim
      · exact h.elim
    · exact h.elim
  · exact h.elim

/-! ### stores -/

theorem ND_set {m : List (Nm × Nat × Rt)} {n : Nm} {i : Nat} {r : Rt} (h : ND m) : ND (setM m n i r) := by
  unfold ND; rw [keys_setM]; exact h

theorem owned_toT (t : Tt) : t.toT.owned = t.owned := by cases t <;> rfl

theorem putT_ok {p : Pl} {t : Tt} (h : putT s p t k) (hn : ND s.m) : ∃ m', (∀ K : Mm → Prop, K m' → putK s.toS.m p t.toT K) ∧ ∃ s' : St, s'.toS = ⟨s.toS.t, m'⟩ ∧ ND s'.m ∧ k s' := by
  unfold putT at h
  split at h
  · exact h.elim
  · rename_i r hr
    split at h
    · rename_i t0 hpath hh hc
      split at h
      · rename_i ho
        have ec : r.toR.cells = r.cells.map Tt.toT := by show holed _ r.hole = _; rw [hh]; rfl
        refine ⟨setR s.toS.m p.root ⟨r.blk, (r.cells.map Tt.toT).set p.off t.toT⟩, fun K hK => ?_, _, ?_, ND_set hn, h⟩
        · unfold putK
          rw [show getR s.toS.m p.root = some r.toR from getR_of hr]
          dsimp only
          rw [hpath, ec, List.getElem?_map, hc]
          exact ⟨by rw [owned_toT]; exact ho, hK⟩
        refine drop_toS.S_ext rfl ?_
        show toM (setM s.m p.root s.nx _) = _
        rw [setM_toM]
        congr 1
        simp only [Rt.toR, hh, holed, List.map_set]
      · exact h.elim
    · exact h.elim

theorem ment_toT (n : Nm) (t : Tt) : t.toT.ment n = t.ment n := by cases t <;> rfl

theorem storesT_ok {K : S → Prop} (hK : ∀ t : St, k t → K t.toS) : ∀ {ts : List Tt} {s : St} {p : Pl}, ND s.m → storesT s p ts k → storesK s.toS p (ts.map Tt.toT) K
  | [], s, p, hn, h => hK s h
  | t :: ts, s, p, hn, h => by
    have gen : ∀ t : Tt, (∀ q, t ≠ .rf q) → t ≠ .any → t ≠ .d .any → putT s p t (fun s' => storesT s' (p.add 1) ts k) → storesK s.toS p (t.toT :: ts.map Tt.toT) K := by
      intro t h1 h2 h3 h
      obtain ⟨m', hp, s', e, hn', hk⟩ := putT_ok h hn
      have key : storesK s.toS p (t.toT :: ts.map Tt.toT) K = putK s.toS.m p t.toT fun m' => storesK ⟨s.toS.t, m'⟩ (p.add 1) (ts.map Tt.toT) K := by
        cases t with
        | rf q => exact (h1 q rfl).elim
        | any => exact (h2 rfl).elim
        | d c => cases c with
          | any => exact (h3 rfl).elim
          | _ => rfl
        | _ => rfl
      rw [key]
      refine hp _ ?_
      rw [← e]
      exact storesT_ok hK hn' hk
    cases t with
    | rf q =>
      simp only [storesT] at h
      split at h
      · rename_i sub u l hr
        split at h
        · rename_i hpath hroot hall
          simp only [List.map_cons, Tt.toT, storesK]
          rw [show getR s.toS.m q.root = some (⟨false, [.ow sub u l], none⟩ : Rt).toR from getR_of hr]
          refine ⟨hpath, by simpa using hroot, ?_, ?_⟩
          · rw [List.all_map, ← hall]; congr 1; funext t; simp only [Function.comp, ment_toT]
          · rw [← drop_toS hn]
            obtain ⟨m', hp, s', e, hn', hk⟩ := putT_ok h (ND_drop hn)
            refine hp _ ?_
            rw [← e]
            exact storesT_ok hK hn' hk
        · exact h.elim
      · exact h.elim
    | any => exact h.elim
    | d c => cases c with
      | any => exact h.elim
      | _ => exact gen _ (fun _ h => by cases h) (fun h => by cases h) (fun h => by cases h) h
    | _ => exact gen _ (fun _ h => by cases h) (fun h => by cases h) (fun h => by cases h) h

theorem storeT_ok {K : S → Prop} (hK : ∀ t : St, k t → K t.toS) {t : TypeId} {x v : At} (hn : ND s.m) (h : storeT P s t x v k) : storeK P s.toS t x.toV v.toV K := by
  unfold storeT at h
  split at h
  · rename_i p ts hv
    split at h
    · rename_i hc
      simp only [Bool.and_eq_true] at hc
      unfold storeK
      rw [cellsAt_ok, hv]
      refine ⟨hc.1.1, by rw [List.length_map]; exact Nat.eq_of_beq_eq_true hc.1.2, ?_, storesT_ok hK hn h⟩
      rw [List.length_map]; exact hasRoomT_ok hc.2
    · exact h.elim
  · exact h.elim

/-! ### append -/

theorem srcT_ok {u : U} {v : At} {l : List (El u)} {size : Nat} (hs : nc u = size) (h : srcT u v = some l) : srcRows size v.toV = some (l.map (encU u)) ∧ v.noRf = true := by
  unfold srcT at h
  split at h
  · simp only [Option.some.injEq] at h; subst h; exact ⟨rfl, rfl⟩
  · rename_i u' l'
    obtain ⟨e, rfl⟩ := castL_eq h
    subst e
    exact ⟨rfl, rfl⟩
  · rename_i b
    split at h
    · simp only [Option.some.injEq] at h
      subst h
      have : size = 1 := hs.symm
      simp only [At.toV, A1.toV, Tt.toT, C.toD, srcRows]
      rw [if_pos this]
      exact ⟨rfl, rfl⟩
    · cases h
  · cases h

theorem cell_of_atT {m : List (Nm × Nat × Rt)} {q : Pl} {r : Rt} {t : Tt} (hr : getM m q.root = some r) (hp : q.path = []) (h : atT m q 1 = some [t]) : r.cells[q.off]? = some t := by
  unfold atT at h
  rw [hr] at h
  dsimp only at h
  rw [hp] at h
  dsimp only at h
  split at h
  · rename_i hb
    simp only [Option.some.injEq] at h
    have := congrArg (·[0]?) h
    simpa [List.getElem?_take, List.getElem?_drop] using this
  · cases h

theorem baseT_ok {u : U} {v : At} {s' : St} {sub : List Sh} {l : List (El u)} {size : Nat} (hs : nc u = size) (hn : ND s.m) (h : baseT s u v = some (s', sub, l)) :
    baseK s.toS size v.toV = some (s'.toS, sub, l.map (encU u)) ∧ ND s'.m ∧ Ext s s' := by
  unfold baseT at h
  split at h
  · simp only [Option.some.injEq, Prod.mk.injEq] at h
    obtain ⟨rfl, rfl, rfl⟩ := h
    exact ⟨by rw [← hs]; rfl, hn, Ext.refl _⟩
  · rename_i q
    split at h
    · rename_i sub' u' l' hsl
      split at h
      · rename_i l2 s2 hcast hlen htake
        simp only [Option.some.injEq, Prod.mk.injEq] at h
        obtain ⟨rfl, rfl, rfl⟩ := h
        obtain ⟨e, rfl⟩ := castL_eq hcast
        subst e
        unfold takeT at htake
        split at htake
        · cases htake
        · rename_i r hr
          split at htake
          · rename_i hpath hh
            simp only [Option.some.injEq] at htake
            have ht : atT s.m q 1 = some [.ow sub' u' l'] := by
              unfold sliceAt at hsl
              split at hsl
              · rename_i a b c hat; cases hsl; exact hat
              · cases hsl
            have hc := cell_of_atT hr hpath ht
            have egr : getR s.toS.m q.root = some r.toR := getR_of hr
            have ecs : r.toR.cells = r.cells.map Tt.toT := by show holed _ r.hole = _; rw [hh]; rfl
            have egp : getPl s.toS.m q = some (.ow sub' (l'.map (encU u'))) := by
              unfold getPl
              rw [egr, hpath]
              dsimp only
              rw [ecs, List.getElem?_map, hc]; rfl
            refine ⟨?_, ?_, ?_⟩
            · simp only [At.toV, A1.toV, Tt.toT, baseK]
              rw [egp]
              dsimp only
              rw [if_pos (by rw [← hs]; exact Nat.eq_of_beq_eq_true hlen)]
              congr 2
              rw [← htake]
              refine drop_toS.S_ext (killA_toS _ _ _).symm ?_
              show _ = toM (killMm (thr q) s.nx (setM s.m q.root s.nx _))
              rw [killMm_toM, setM_toM]
              congr 1
              unfold putPl
              rw [egr, hpath]
              dsimp only
              show setR (toM s.m) q.root _ = _
              congr 1
              simp only [Rt.toR, hh, holed, List.map_set, Tt.toT]
            · rw [← htake]; exact ND_kill.2 (ND_set hn)
            · rw [← htake]
              exact ⟨Nat.le_succ _, ExtT_kill (Nat.le_refl _), (ExtM_set _ _ (Nat.le_refl _) s.m).trans (ExtM_kill (Nat.le_refl _))⟩
          · cases htake
      · cases h
    · cases h
  · cases h

theorem sd_leaf : ∀ n : Sn, (sd n).fs.all leaf = true := by intro n; cases n <;> rfl

theorem cell_sure {u : U} (h : leaf u = true) (x : El u) : (cellOf u x).toD.sure = true := by
  cases u with
  | st n => cases h
  | _ => rfl

theorem cells_sure : ∀ {us : List U} (_ : us.all leaf = true) (x : Fl us), ∀ d ∈ (cellsF us x).map C.toD, d.sure = true
  | [], _, _, d, hd => by simp [cellsF] at hd
  | u :: r, h, x, d, hd => by
    simp only [List.all_cons, Bool.and_eq_true] at h
    simp only [cellsF, List.map_cons, List.mem_cons] at hd
    rcases hd with rfl | hd
    · exact cell_sure h.1 _
    · exact cells_sure h.2 _ d hd

theorem enc_sure {u : U} (x : El u) : ∀ d ∈ encU u x, d.sure = true := by
  rw [← flat_enc]
  cases u with
  | st n => exact cells_sure (sd_leaf n) _
  | _ => intro d hd; rw [flat_leaf rfl] at hd; simp only [List.map_cons, List.map_nil, List.mem_singleton] at hd; subst hd; exact cell_sure rfl _

theorem appendT_ok {E : Ut} {t u0 : TypeId} {x y : Operand} {d : Tmp} (hx : okOp x = true) (hy : okOp y = true) (hn : ND (frzAt s (evA s y)).m) (h : appendT P E s t u0 x y d k) : appendK P (frzAt s (evA s y)).toS t u0 x y d (upS k) := by
  unfold appendT at h
  dsimp only at h
  generalize hs1 : frzAt s (evA s y) = s1 at h hn
  split at h
  · rename_i e ht
    split at h
    · rename_i u z he hz
      split at h
      · rename_i hc
        simp only [Bool.and_eq_true] at hc
        obtain ⟨⟨⟨c1, c2⟩, c3⟩, c4⟩ := hc
        have hsz := Nat.eq_of_beq_eq_true c4
        split at h
        · rename_i ys s2 sub l hsrc hbase
          split at h
          · rename_i hsub
            obtain ⟨⟨h1, h2⟩, h3⟩ := h
            obtain ⟨k1, k2⟩ := srcT_ok hsz hsrc
            obtain ⟨b1, b2, _⟩ := baseT_ok hsz hn hbase
            unfold appendK
            dsimp only
            rw [evA_toV hy, frzV_noRf k2, ht]
            dsimp only
            refine ⟨c1, c2, by rw [hz]; simp only [Option.map_some]; rw [Nat.eq_of_beq_eq_true c3], ?_⟩
            rw [evA_toV hy, evA_toV hx, k1, b1]
            dsimp only
            refine ⟨hsub, ?_, by rw [List.length_map, List.length_map]; exact h1, by rw [List.length_map, List.length_map]; exact h2, _, ?_, h3⟩
            · intro r hr
              obtain ⟨z', _, rfl⟩ := List.mem_map.1 hr
              exact ⟨by rw [encU_length]; exact hsz, enc_sure z'⟩
            · rw [← fresh_toS b2]
              have er : (⟨false, [.ow sub u (l ++ ys)], none⟩ : Rt).toR = ⟨false, [.ow sub (l.map (encU u) ++ ys.map (encU u))]⟩ := by
                rw [← List.map_append]; rfl
              rw [← er]
              exact put_SEq ((s2.fresh (.gh d)).root (.gh d) ⟨false, [.ow sub u (l ++ ys)], none⟩) (some d) (.one (.c (.rf ⟨.gh d, 0, []⟩)))
          · exact h.elim
        · exact h.elim
      · exact h.elim
    · exact h.elim
  · exact h.elim

end
end Go.Am
end

section
namespace Go.Am

/-- a function's contract, typed -/
structure Cont (P : Program) (f : Nat) (C : CKt) : Prop where
  run : ∀ args w, (callFunc f args).run P w = .ok (.enter f args) w
  ext : ∀ (s : St) (ops : List Operand) (k k' : St → At → Prop), (∀ s' v, Ext s s' → k s' v → k' s' v) → C s ops k → C s ops k'
  call : ∀ (g : G) (s : St) (a : Act) (w : World) (H : FH) (γ : Gam) (F : Nm → Fp) (ops : List Operand) (k : St → At → Prop), RX g s.toS a w H γ F → ops.all okOp = true → C s ops k →
    Calls P f (ops.map a.eval).toArray w (fun e w' => ∃ r s' av H' γ' F', e = .returned r ∧ k s' av ∧ AR w' H' γ' (toM s'.m) av.toV r ∧ RX g s'.toS a w' H' γ' F')

def En.ok (e : En) : Prop := ∀ x ∈ e.cs, Cont e.P x.1 x.2

theorem En.ok_get {e : En} (h : e.ok) {f : Nat} {C : CKt} (hg : e.cs.get f = some C) : Cont e.P f C := by
  have : ∀ cs : CTt, (∀ x ∈ cs, Cont e.P x.1 x.2) → cs.get f = some C → Cont e.P f C := by
    intro cs
    induction cs with
    | nil => intro _ h; cases h
    | cons x cs ih =>
      obtain ⟨f', C'⟩ := x
      intro h hg2
      simp only [CTt.get] at hg2
      split at hg2
      · rename_i hb
        have := Nat.eq_of_beq_eq_true hb
        subst this
        have hg' : C' = C := by simpa using hg2
        subst hg'
        exact h (f', C') (by simp)
      · exact ih (fun y hy => h y (List.mem_cons_of_mem _ hy)) hg2
  exact this e.cs h hg

/-! ### what an operation leaves as it was -/

section
variable {k k' : At → Prop}

theorem pickT_mono {c x y : At} (hk : ∀ v, k v → k' v) (h : pickT c x y k) : pickT c x y k' := by
  unfold pickT at h ⊢
  (repeat' split at h) <;> first | exact h.elim | exact hk _ h | exact ⟨h.1, hk _ h.2⟩ | (simp_all; done)

theorem numT_mono {op : BinOp} {κ : IntKind} {a b : Int} {K K' : C → Prop} (hk : ∀ v, K v → K' v) (h : numT op κ a b K) : numT op κ a b K' := by
  unfold numT at h ⊢
  cases op <;> first | exact hk _ h | exact ⟨h.1, hk _ h.2⟩

theorem binC_mono {op : BinOp} {x y : C} {K K' : C → Prop} (hk : ∀ v, K v → K' v) (h : binC op x y K) : binC op x y K' := by
  unfold binC at h ⊢
  split at h
  · split at h <;> first | exact h.elim | exact hk _ h | exact ⟨h.1, hk _ h.2⟩
  · split at h
    · split at h
      · rename_i hc; rw [if_pos hc]; exact numT_mono hk h
      · exact h.elim
    · exact h.elim

theorem binT_mono {P : Program} {op : BinOp} {t : TypeId} {x y : At} (hk : ∀ v, k v → k' v) (h : binT P op t x y k) : binT P op t x y k' := by
  unfold binT at h ⊢
  (repeat' split at h) <;> first | exact h.elim | exact hk _ h | exact ⟨h.1, hk _ h.2⟩ | exact binC_mono (fun v hv => hk _ hv) h | (simp_all; done)

theorem unT_mono {op : UnOp} {x : At} (hk : ∀ v, k v → k' v) (h : unT op x k) : unT op x k' := by
  unfold unT at h ⊢
  (repeat' split at h) <;> first | exact h.elim | exact hk _ h | exact ⟨h.1, hk _ h.2⟩ | (simp_all; done)

theorem extractT_mono {x : At} {i : Nat} (hk : ∀ v, k v → k' v) (h : extractT x i k) : extractT x i k' := by
  unfold extractT at h ⊢
  (repeat' split at h) <;> first | exact h.elim | exact hk _ h | exact ⟨h.1, hk _ h.2⟩ | (simp_all; done)

theorem strAtT_mono {x i : At} (hk : ∀ v, k v → k' v) (h : strAtT x i k) : strAtT x i k' := by
  unfold strAtT at h ⊢
  (repeat' split at h) <;> first | exact h.elim | exact hk _ h | exact ⟨h.1, hk _ h.2⟩ | (simp_all; done)

theorem boundT_mono {y : Option At} {d : Nat} {k1 k2 : Nat → Prop} (hk : ∀ n, k1 n → k2 n) (hb : boundT y d k1) : boundT y d k2 := by
  unfold boundT at hb ⊢
  split at hb
  · exact hk _ hb
  · exact ⟨hb.1, hk _ hb.2⟩
  · exact hb.elim

theorem sliceT_mono {P : Program} {t : TypeId} {x : At} {lo hi : Option At} (hk : ∀ v, k v → k' v) (h : sliceT P t x lo hi k) : sliceT P t x lo hi k' := by
  unfold sliceT at h ⊢
  split at h
  · split at h
    · exact boundT_mono (fun a ha => boundT_mono (fun b hb => ⟨hb.1, hk _ hb.2⟩) ha) h
    · exact h.elim
  · split at h
    · skip
      split at h
      · exact boundT_mono (fun a ha => boundT_mono (fun b hb => ⟨hb.1, hk _ hb.2⟩) ha) h
      · exact h.elim
    · exact h.elim
  · split at h
    · skip
      split at h
      · exact boundT_mono (fun a ha => boundT_mono (fun b hb => ⟨hb.1, hb.2.1, hk _ hb.2.2⟩) ha) h
      · exact h.elim
    · exact h.elim
  · exact h.elim

theorem fieldAddrT_mono {P : Program} {m : List (Nm × Nat × Rt)} {t : TypeId} {x : At} {i : Nat} (hk : ∀ v, k v → k' v) (h : fieldAddrT P m t x i k) : fieldAddrT P m t x i k' := by
  unfold fieldAddrT at h ⊢
  split at h
  · skip
    split at h
    · skip
      split at h
      · split at h
        · exact hk _ h
        · exact h.elim
      · exact hk _ h
      · exact h.elim
    · exact h.elim
  · exact h.elim

theorem indexAddrT_mono {P : Program} {m : List (Nm × Nat × Rt)} {t : TypeId} {x i : At} (hk : ∀ v, k v → k' v) (h : indexAddrT P m t x i k) : indexAddrT P m t x i k' := by
  unfold indexAddrT at h ⊢
  split at h
  · split at h
    · skip
      split at h
      · split at h
        · exact ⟨h.1, hk _ h.2⟩
        · exact h.elim
      · split at h
        · skip
          split at h
          · skip
            split at h
            · exact ⟨h.1, hk _ h.2⟩
            · exact h.elim
          · exact h.elim
        · exact h.elim
      · exact h.elim
    · skip
      split at h
      · split at h
        · exact ⟨h.1, hk _ h.2⟩
        · exact h.elim
      · exact h.elim
    · exact h.elim
  · exact h.elim

theorem loadT_mono {P : Program} {m : List (Nm × Nat × Rt)} {t : TypeId} {x : At} (hk : ∀ v, k v → k' v) (h : loadT P m t x k) : loadT P m t x k' := by
  unfold loadT at h ⊢
  split at h
  · skip
    split at h
    · split at h
      · skip
        split at h
        · exact hk _ h
        · exact h.elim
      · skip
        split at h
        · exact hk _ h
        · exact h.elim
    · split at h
      · exact ⟨h.1, hk _ h.2⟩
      · exact h.elim
    · split at h
      · skip
        split at h
        · exact hk _ h
        · exact h.elim
      · skip
        split at h
        · exact hk _ h
        · exact h.elim
    · exact h.elim
  · exact h.elim

theorem fieldT_mono {P : Program} {t : TypeId} {x : At} {i : Nat} (hk : ∀ v, k v → k' v) (h : fieldT P t x i k) : fieldT P t x i k' := by
  unfold fieldT at h ⊢
  split at h
  · skip
    split at h
    · skip
      split at h
      · exact hk _ h
      · exact h.elim
    · skip
      split at h
      · exact hk _ h
      · exact h.elim
    · exact h.elim
  · exact h.elim

theorem nilCheckT_mono {x : At} (hk : ∀ v, k v → k' v) (h : nilCheckT x k) : nilCheckT x k' := by
  unfold nilCheckT at h ⊢
  split at h
  · exact hk _ h
  · exact hk _ h
  · exact hk _ h
  · exact h.elim

theorem buildT_mono {P : Program} {t : TypeId} {ps : List (Nat × At)} (hk : ∀ v, k v → k' v) (h : buildT P t ps k) : buildT P t ps k' := by
  unfold buildT at h ⊢
  split at h
  · skip
    split at h
    · exact hk _ h
    · exact h.elim
  · exact h.elim

theorem convT_mono {P : Program} {su du : TypeId} {x : At} (hk : ∀ v, k v → k' v) (h : convT P su du x k) : convT P su du x k' := by
  unfold convT at h ⊢
  split at h
  · skip
    split at h
    · split at h
      · exact hk _ h
      · exact h.elim
    · exact h.elim
  · skip
    split at h
    · skip
      split at h
      · exact hk _ h
      · exact hk _ h
      · exact h.elim
    · exact h.elim
  · exact h.elim

theorem qT_mono {e : En} {o : Oper} {s : St} (hk : ∀ v, k v → k' v) (h : qT e o s k) : qT e o s k' := by
  unfold qT at h ⊢
  cases ho : o.op with
  | move x => rw [ho] at h; exact hk _ h
  | assign x => rw [ho] at h; exact hk _ h
  | pick c x y => rw [ho] at h; exact pickT_mono hk h
  | binOp op t x y z => rw [ho] at h; exact binT_mono hk h
  | unOp op t x => rw [ho] at h; exact unT_mono hk h
  | load t x => rw [ho] at h; exact loadT_mono hk h
  | field t x i => rw [ho] at h; exact fieldT_mono hk h
  | fieldAddr t x i => rw [ho] at h; exact fieldAddrT_mono hk h
  | indexAddr t x i => rw [ho] at h; exact indexAddrT_mono hk h
  | index t x i =>
    rw [ho] at h
    dsimp only at h ⊢
    split at h
    · exact strAtT_mono hk h
    · exact h.elim
  | extract x i => rw [ho] at h; exact extractT_mono hk h
  | convert su du x => rw [ho] at h; exact convT_mono hk h
  | slice t x lo hi mx =>
    rw [ho] at h
    cases mx with
    | some _ => exact h.elim
    | none => exact sliceT_mono hk h
  | nilCheck x => rw [ho] at h; exact nilCheckT_mono hk h
  | build t ps => rw [ho] at h; exact buildT_mono hk h
  | call c =>
    rw [ho] at h
    dsimp only at h ⊢
    split at h
    · skip
      split at h
      · exact lenT_mono (fun n hn => hk _ hn) h
      · exact h.elim
    · exact h.elim
  | _ => rw [ho] at h; exact h.elim
end

section
variable {k k' : St → Prop} {s : St}

theorem allocT_ext {P : Program} {t : TypeId} {d : Tmp} (hk : ∀ s', Ext s s' → k s' → k' s') (h : allocT P s t d k) : allocT P s t d k' := by
  unfold allocT at h ⊢
  split at h
  · skip
    split at h
    · exact hk _ (((Ext_fresh _ _).trans (Ext_root _ _ _)).trans (Ext_put _ _ _)) h
    · exact h.elim
  · exact h.elim

theorem boxT_ext {x : Operand} {d : Tmp} (hk : ∀ s', Ext s s' → k s' → k' s') (h : boxT s x d k) : boxT s x d k' := by
  unfold boxT at h ⊢
  split at h
  · skip
    split at h
    · exact hk _ (((Ext_fresh _ _).trans (Ext_root _ _ _)).trans (Ext_put _ _ _)) h
    · exact h.elim
  · exact h.elim

theorem buildSliceT_ext {P : Program} {E : Ut} {t : TypeId} {n : Nat} {ps : Array (Nat × Operand)} {d : Tmp} (hk : ∀ s', Ext s s' → k s' → k' s') (h : buildSliceT P E s t n ps d k) : buildSliceT P E s t n ps d k' := by
  unfold buildSliceT at h ⊢
  split at h
  · skip
    split at h
    · skip
      split at h
      · skip
        dsimp only at h ⊢
        split at h
        · skip
          split at h
          · skip
            exact hk _ ((((Ext_frzAts _ _).trans (Ext_fresh _ _)).trans (Ext_root _ _ _)).trans (Ext_put _ _ _)) h
          · exact h.elim
        · exact h.elim
      · exact h.elim
    · exact h.elim
  · exact h.elim

theorem putT_ext {p : Pl} {t : Tt} (hk : ∀ s', Ext s s' → k s' → k' s') (h : putT s p t k) : putT s p t k' := by
  unfold putT at h ⊢
  split at h
  · exact h.elim
  · skip
    split at h
    · skip
      split at h
      · exact hk _ ⟨Nat.le_succ _, fun _ _ _ h _ => h, ExtM_set _ _ (Nat.le_refl _) _⟩ h
      · exact h.elim
    · exact h.elim

theorem storesT_ext : ∀ {ts : List Tt} {s : St} {p : Pl}, (∀ s', Ext s s' → k s' → k' s') → storesT s p ts k → storesT s p ts k'
  | [], s, p, hk, h => hk _ (Ext.refl s) h
  | t :: ts, s, p, hk, h => by
    cases t with
    | rf q =>
      simp only [storesT] at h ⊢
      split at h
      · skip
        split at h
        · skip
          exact putT_ext (fun s' he hs' => storesT_ext (fun s'' he' => hk s'' (((Ext_drop _ _).trans he).trans he')) hs') h
        · exact h.elim
      · exact h.elim
    | any => exact h.elim
    | d c => cases c with
      | any => exact h.elim
      | _ => exact putT_ext (fun s' he hs' => storesT_ext (fun s'' he' => hk s'' (he.trans he')) hs') h
    | _ => exact putT_ext (fun s' he hs' => storesT_ext (fun s'' he' => hk s'' (he.trans he')) hs') h

theorem storeT_ext {P : Program} {t : TypeId} {x v : At} (hk : ∀ s', Ext s s' → k s' → k' s') (h : storeT P s t x v k) : storeT P s t x v k' := by
  unfold storeT at h ⊢
  split at h
  · skip
    split at h
    · exact storesT_ext hk h
    · exact h.elim
  · exact h.elim

theorem baseT_ext {u : U} {v : At} {s' : St} {sub : List Sh} {l : List (El u)} (h : baseT s u v = some (s', sub, l)) : Ext s s' := by
  unfold baseT at h
  split at h
  · simp only [Option.some.injEq, Prod.mk.injEq] at h
    obtain ⟨rfl, _⟩ := h; exact Ext.refl _
  · split at h
    · split at h
      · rename_i htake
        simp only [Option.some.injEq, Prod.mk.injEq] at h
        obtain ⟨rfl, _⟩ := h
        unfold takeT at htake
        split at htake
        · cases htake
        · split at htake
          · simp only [Option.some.injEq] at htake
            rw [← htake]
            exact ⟨Nat.le_succ _, ExtT_kill (Nat.le_refl _), (ExtM_set _ _ (Nat.le_refl _) s.m).trans (ExtM_kill (Nat.le_refl _))⟩
          · cases htake
      · cases h
    · cases h
  · cases h

theorem appendT_ext {P : Program} {E : Ut} {t u : TypeId} {x y : Operand} {d : Tmp} (hk : ∀ s', Ext s s' → k s' → k' s') (h : appendT P E s t u x y d k) : appendT P E s t u x y d k' := by
  unfold appendT at h ⊢
  dsimp only at h ⊢
  split at h
  · skip
    split at h
    · skip
      split at h
      · skip
        split at h
        · rename_i h3 h4
          split at h
          · skip
            exact ⟨h.1, hk _ (((((Ext_frzAt _ _).trans (baseT_ext h4)).trans (Ext_fresh _ _)).trans (Ext_root _ _ _)).trans (Ext_put _ _ _)) h.2⟩
          · exact h.elim
        · exact h.elim
      · exact h.elim
    · exact h.elim
  · exact h.elim

theorem lT_ext {e : En} (he : e.ok) {o : Oper} (hk : ∀ s', Ext s s' → k s' → k' s') (h : lT e o s k) : lT e o s k' := by
  unfold lT at h ⊢
  cases ho : o.op with
  | store t x v => rw [ho] at h; exact storeT_ext (fun s' he hs' => hk _ (he.trans (Ext_put _ _ _)) hs') h
  | alloc t =>
    rw [ho] at h
    cases hd : o.dst with
    | none => rw [hd] at h; exact h.elim
    | some d => rw [hd] at h; exact allocT_ext hk h
  | box t x =>
    rw [ho] at h
    cases hd : o.dst with
    | none => rw [hd] at h; exact h.elim
    | some d => rw [hd] at h; exact boxT_ext hk h
  | buildSlice t n ps =>
    rw [ho] at h
    cases hd : o.dst with
    | none => rw [hd] at h; exact h.elim
    | some d => rw [hd] at h; exact buildSliceT_ext hk h
  | call c =>
    rw [ho] at h
    dsimp only at h ⊢
    split at h
    · skip
      cases hd : o.dst with
      | none => rw [hd] at h; exact h.elim
      | some d => rw [hd] at h; exact appendT_ext hk h
    · skip
      split at h
      · rename_i C hg
        exact (En.ok_get he hg).ext _ _ _ _ (fun s' v hE hs' => hk _ (hE.trans (Ext_put _ _ _)) hs') h
      · exact h.elim
    · exact h.elim
  | _ => rw [ho] at h; exact h.elim

theorem opT_ext {e : En} (he : e.ok) {o : Oper} (hk : ∀ s', Ext s s' → k s' → k' s') (h : opT e o s k) : opT e o s k' := by
  unfold opT at h ⊢
  split at h
  · rename_i hq
    exact qT_mono (fun v hv => hk _ ((Ext_preF _ _).trans (Ext_put _ _ _)) hv) h
  · exact lT_ext he hk h
end

/-! ### an operation is sound -/

section
variable {P : Program} {g : G} {Q : Exit → S → Prop} {s : St}

/-- as AO, over typed states -/
def AOt (P : Program) (g : G) (o : Oper) (k : St → Prop) (Q : Exit → S → Prop) (s : St) : Prop :=
  ∀ a w, R g s.toS a w → o.wp P a w (fun a' w' => ∃ s' : St, k s' ∧ R g s'.toS a' w') (lift g Q)

theorem AOt_base {o : Oper} {k : St → Prop} {s1 : St} (hR : ∀ a w, R g s.toS a w → R g s1.toS a w) (h : AO P g o (upS k) Q s1.toS) : AOt P g o k Q s := fun a w hs =>
  Oper_wp_mono (fun a' w' ⟨s', ⟨t, e, hk⟩, hR'⟩ => ⟨t, hk, R_SEq e hR'⟩) (fun _ _ _ h => h) (h a w (hR a w hs))

theorem AOt_lT {e : En} (he : e.ok) {o : Oper} {k : St → Prop} (hc : opC g.nt o = true) (hq : isQ o = false) (h : lT e o s k) : AOt e.P g o k Q s := by
  intro a w hR
  obtain ⟨H, γ, F, hX⟩ := hR
  have hn := ND_of hX
  -- by the abstract machine's operation
  have base : ∀ {s1 : St}, (∃ H' F', RX g s1.toS a w H' γ F') → opK e.P [] o s1.toS (upS k) → o.wp e.P a w (fun a' w' => ∃ s' : St, k s' ∧ R g s'.toS a' w') (lift g Q) := by
    intro s1 ⟨H', F', hX1⟩ hop
    exact Oper_wp_mono (fun a' w' ⟨s', ⟨t, e, hk⟩, hR'⟩ => ⟨t, hk, R_SEq e hR'⟩) (fun _ _ _ h => h) (AO_opK (Q := Q) CT.ok0 hc hop a w ⟨H', γ, F', hX1⟩)
  have hcc := hc
  unfold opC at hcc
  rw [Bool.and_eq_true] at hcc
  obtain ⟨hd, hcc⟩ := hcc
  unfold lT at h
  cases ho : o.op with
  | store t x v =>
    rw [ho] at h hcc
    simp only [Bool.and_eq_true] at hcc
    refine base (s1 := s) ⟨H, F, hX⟩ ?_
    unfold opK
    rw [ho]
    dsimp only
    rw [evA_toV hcc.1, evA_toV hcc.2]
    exact storeT_ok (fun t' hk => ⟨_, put_SEq t' o.dst .any, hk⟩) hn h
  | alloc t =>
    rw [ho] at h
    cases hdd : o.dst with
    | none => rw [hdd] at h; exact h.elim
    | some d =>
      rw [hdd] at h
      refine base (s1 := s) ⟨H, F, hX⟩ ?_
      unfold opK
      rw [ho, hdd]
      exact allocT_ok hn h
  | box t x =>
    rw [ho] at h hcc
    cases hdd : o.dst with
    | none => rw [hdd] at h; exact h.elim
    | some d =>
      rw [hdd] at h
      refine base (s1 := s) ⟨H, F, hX⟩ ?_
      unfold opK
      rw [ho, hdd]
      exact boxT_ok hn hcc h
  | buildSlice t n ps =>
    rw [ho] at h hcc
    cases hdd : o.dst with
    | none => rw [hdd] at h; exact h.elim
    | some d =>
      rw [hdd] at h
      have hX1 := RXt_frzAts (ps.toList.map fun x => evA s x.2) s H F hX
      refine base hX1 ?_
      unfold opK
      rw [ho, hdd]
      obtain ⟨H1, F1, h1⟩ := hX1
      exact buildSliceT_ok hcc (ND_of h1) h
  | call c =>
    rw [ho] at h hcc
    obtain ⟨callee, args, argTypes⟩ := c
    obtain ⟨args⟩ := args
    obtain ⟨argTypes⟩ := argTypes
    dsimp only at h hcc
    cases callee with
    | builtin b =>
      cases b with
      | append =>
        match args, argTypes, h with
        | [x, y], [t, u], h =>
          have h1 : okOp x = true ∧ okOp y = true := by simpa using hcc
          cases hdd : o.dst with
          | none => rw [hdd] at h; exact h.elim
          | some d =>
            rw [hdd] at h
            have hX1 := RXt_frzAt hX (evA s y)
            refine base hX1 ?_
            unfold opK
            rw [ho, hdd]
            obtain ⟨H1, F1, h2⟩ := hX1
            exact appendT_ok h1.1 h1.2 (ND_of h2) h
      | _ => exact h.elim
    | value v =>
      cases v with
      | func f =>
        dsimp only at h
        cases hg : e.cs.get f with
        | none => rw [hg] at h; exact h.elim
        | some C =>
          rw [hg] at h
          have hC := En.ok_get he hg
          have hr : (execOp a.eval o).run e.P w = .ok (.enter f (args.map a.eval).toArray) w := by
            simp only [execOp, ho, resolve, Act.eval, Deferred.ofValue, Sem.run_bind, Sem.run_pure, Result.andThen_ok, invoke]
            rw [hC.run]
            simp
          unfold Oper.wp
          rw [hr]
          refine Calls.mono (hC.call g s a w H γ F args _ hX hcc h) (fun e' w' ⟨r, s', av, H', γ', F', k1, k2, k3, k4⟩ => ?_)
          subst k1
          exact ⟨_, k2, H', γ', F', RX_SEq (put_SEq s' o.dst av) (k4.put hd k3)⟩
      | _ => exact h.elim
    | invoke r n => exact h.elim
  | _ => rw [ho] at h; exact h.elim

theorem AOt_opT {e : En} (he : e.ok) {o : Oper} {k : St → Prop} (hc : opC g.nt o = true) (h : opT e o s k) : AOt e.P g o k Q s := by
  unfold opT at h
  split at h
  · rename_i hq
    intro a w ⟨H, γ, F, hX⟩
    obtain ⟨H1, F1, hX1⟩ := RXt_preF hX o
    obtain ⟨z, d, B, _, e1, e2, e3⟩ := qK_ok hX1 hc (qT_ok hX1 hc h)
    obtain ⟨v', rfl, hk⟩ := e3
    unfold Oper.wp
    rw [e1 w (fun _ _ => rfl)]
    exact ⟨_, hk, H1, γ, F1, RX_SEq (put_SEq _ _ _) (hX1.put (opC_dst hc) e2)⟩
  · rename_i hq
    exact AOt_lT he hc hq h

/-! ### regions -/

theorem AO_SEq {o : Oper} {K : S → Prop} {s s' : S} (e : SEq s s') (h : AO P g o K Q s') : AO P g o K Q s := fun a w hR => h a w (R_SEq e hR)
theorem AL_SEq {ops rest : List Oper} {s s' : S} (e : SEq s s') (h : AL P g ops rest Q s') : AL P g ops rest Q s := fun a w hR => h a w (R_SEq e hR)

theorem AO_of_t {o : Oper} {K : S → Prop} (h : AOt P g o (fun t => K t.toS) Q s) : AO P g o K Q s.toS := fun a w hR =>
  Oper_wp_mono (fun a' w' ⟨s', hk, hR'⟩ => ⟨s'.toS, hk, hR'⟩) (fun _ _ _ h => h) (h a w hR)

theorem gtA_eq {d : Nat} {v : At} (h : gtA s.t d = v) : getT s.toS.t d = v.toV := by rw [← h]; exact gtA_toS d s.t

theorem put_SEq' (s : St) (d : Nat) (b : Bool) : SEq (s.toS.put (some d) (.one (.c (.d (.bool b))))) (s.put (some d) (sct (.bo b))).toS := put_SEq s (some d) (sct (.bo b))
theorem put2_SEq (s : St) (d : Nat) (b : Bool) (o : Option Tmp) : SEq ((s.toS.put (some d) (.one (.c (.d (.bool b))))).put o (.tup [])) ((s.put (some d) (sct (.bo b))).put o (.tup [])).toS := by
  have h1 := put_SEq' s d b
  have h2 := put_SEq (s.put (some d) (sct (.bo b))) o (.tup [])
  refine ⟨fun i => ?_, ?_⟩
  · rw [← h2.1 i]
    cases o with
    | none => exact h1.1 i
    | some o => show getT (setT _ o _) i = getT (setT _ o _) i; rw [getT_setT, getT_setT, h1.1 i]; rfl
  · rw [← h2.2]; cases o <;> exact h1.2

theorem AL_opsT {e : En} (he : e.ok) {k : St → Prop} {all : List Oper} : ∀ {rest : List Oper} {s : St}, opsC g.nt all rest = true → opsT e all rest s k → (∀ t : St, k t → Q .normal t.toS) → AL e.P g all rest Q s.toS
  | [], s, _, h, hQ => AL_nil (hQ s h)
  | o :: r, s, hc, h, hQ => by
    simp only [opsC, Bool.and_eq_true] at hc
    obtain ⟨⟨hc1, hc2⟩, hc3⟩ := hc
    simp only [opsT] at h
    have run : ∀ {s : St}, opT e o s (fun s' => opsT e all r s' k) → AO e.P g o (AL e.P g all r Q) Q s.toS := fun {s} h =>
      AO_of_t (fun a w hR => Oper_wp_mono (fun a' w' ⟨s', hk, hR'⟩ => ⟨s', AL_opsT he hc3 hk hQ, hR'⟩) (fun _ _ _ h => h) (AOt_opT he hc1 h a w hR))
    cases hg : o.guard with
    | none =>
      rw [hg] at h
      exact AL_cons hg (run h)
    | some q =>
      obtain ⟨j, want⟩ := q
      rw [hg] at h hc2
      dsimp only at h hc2
      cases hj : (all[j]?).bind (·.dst) with
      | none => rw [hj] at h; exact h.elim
      | some d =>
        rw [hj] at h hc2
        dsimp only at h hc2
        split at h
        · rename_i c hcc
          have hgt : getT s.toS.t d = .one (.c (.d (.bool c))) := gtA_eq hcc
          cases want with
          | true =>
            dsimp only at h
            refine AL_guard hg hj hgt hc2 (opC_dst hc1) (fun hc => ?_) (fun hc => ?_)
            · subst hc; rw [if_pos rfl] at h; exact AO_SEq (put_SEq' s d true) (run h)
            · subst hc; rw [if_neg (by simp)] at h; exact AL_SEq (put2_SEq s d _ _) (AL_opsT he hc3 h hQ)
          | false =>
            dsimp only at h
            refine AL_guard hg hj hgt hc2 (opC_dst hc1) (fun hc => ?_) (fun hc => ?_)
            · subst hc; rw [if_neg (by simp)] at h; exact AO_SEq (put_SEq' s d false) (run h)
            · subst hc; rw [if_pos (by rfl)] at h; exact AL_SEq (put2_SEq s d _ _) (AL_opsT he hc3 h hQ)
        · rename_i hcc
          exact AL_unguard hg hj (gtA_eq hcc) (opC_dst hc1) (AL_SEq (put_SEq s o.dst (.tup [])) (AL_opsT he hc3 h hQ))
        · exact h.elim

theorem opsT_ext {e : En} (he : e.ok) {all : List Oper} {k k' : St → Prop} : ∀ {rest : List Oper} {s : St}, (∀ s', Ext s s' → k s' → k' s') → opsT e all rest s k → opsT e all rest s k'
  | [], s, hk, h => hk s (Ext.refl s) h
  | o :: r, s, hk, h => by
    have run : ∀ {s1 : St}, Ext s s1 → opT e o s1 (fun s' => opsT e all r s' k) → opT e o s1 (fun s' => opsT e all r s' k') := fun {s1} h1 h =>
      opT_ext he (fun s' h2 hs' => opsT_ext he (fun s'' h3 => hk s'' ((h1.trans h2).trans h3)) hs') h
    have rest : ∀ {s1 : St}, Ext s s1 → opsT e all r s1 k → opsT e all r s1 k' := fun {s1} h1 h => opsT_ext he (fun s'' h3 => hk s'' (h1.trans h3)) h
    simp only [opsT] at h ⊢
    split at h
    · exact run (Ext.refl s) h
    · rename_i j want hg
      split at h
      · rename_i d hj
        split at h
        · rename_i c hcc
          cases want <;> cases c <;> simp only [Bool.false_eq_true, if_true, if_false] at h ⊢
          · exact run (Ext_put _ _ _) h
          · exact rest ((Ext_put _ _ _).trans (Ext_put _ _ _)) h
          · exact rest ((Ext_put _ _ _).trans (Ext_put _ _ _)) h
          · exact run (Ext_put _ _ _) h
        · exact rest (Ext_put _ _ _) h
        · exact h.elim
      · exact h.elim

end
end Go.Am
end
