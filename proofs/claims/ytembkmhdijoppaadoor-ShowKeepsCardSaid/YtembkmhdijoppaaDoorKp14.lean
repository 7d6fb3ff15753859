/-
  Part 14: AmN10 · AmN11 · AmE13.
-/
import Derived.Test.YtembkmhdijoppaaDoorKp13
set_option linter.unusedSimpArgs false
set_option linter.unusedVariables false
set_option linter.unusedSectionVars false
set_option linter.unnecessarySimpa false
section
namespace Go.Am
open Go
set_option linter.unusedVariables false
set_option linter.unusedSimpArgs false

/-- r is what b and w come to, or too much -/
def Bd (d : Nat) : Int := 562949953421312 + 20001 * ((min d 10 : Nat) : Int)
theorem bd_ge (d : Nat) : 562949953421312 ≤ Bd d ∧ Bd d ≤ 562949953621322 := by unfold Bd; omega
def Pc (d : Nat) (b : Int) (w : Nat) (r : Int) : Prop := (20000 < r ∧ r ≤ Bd d) ∨ (r = b + (w : Int) ∧ r ≤ 20000)

def short (s : List UInt8) : Prop := s.length ≤ 140737488355328

theorem cnt_P {α : Type} {d : Nat} (go : List α → Int → Int) (s : Int → α → Int) (w : α → Nat) (h0 : ∀ b, go [] b = b) (h1 : ∀ x r b, go (x :: r) b = if b ≤ 20000 then go r (s b x) else b) (ok : α → Prop)
    (hs : ∀ b x, ok x → 0 ≤ b → b ≤ 20000 → Pc d b (w x) (s b x)) : ∀ (l : List α) (b : Int), (∀ x ∈ l, ok x) → 0 ≤ b → b ≤ Bd d → Pc d b (l.map w).sum (go l b)
  | [], b, _, h2, h3 => by
    rw [h0]; unfold Pc
    simp only [List.map_nil, List.sum_nil]
    omega
  | x :: r, b, hok, h2, h3 => by
    rw [h1]
    by_cases hb : b ≤ 20000
    · rw [if_pos hb]
      have hx := hs b x (hok x (by simp)) h2 hb
      have hB := bd_ge d
      have h4 : 0 ≤ s b x ∧ s b x ≤ Bd d := by unfold Pc at hx; omega
      have ih := cnt_P go s w h0 h1 ok hs r (s b x) (fun y hy => hok y (by simp [hy])) h4.1 h4.2
      unfold Pc at hx ih ⊢
      simp only [List.map_cons, List.sum_cons]
      omega
    · rw [if_neg hb]
      unfold Pc
      omega

theorem plus_eq {n : Int} {k : Nat} (h1 : 0 ≤ n) (h2 : n ≤ 1152921504606846976) (h3 : k ≤ 1152921504606846976) : Lt.plus n k = n + (k : Int) := by
  unfold Lt.plus
  exact wrap_small (by omega) (by omega)
theorem wrap_eq {n : Int} (h1 : 0 ≤ n) (h2 : n ≤ 4611686018427387904) : IntKind.i64.wrap n = n := wrap_small (by omega) (by omega)

def wVar (v : Lt.Var) : Nat := v.Name.length + v.Type_.length
def wVars (l : List Lt.Var) : Nat := l.length + (l.map wVar).sum
def wArg (a : Lt.Arg) : Nat := a.S.length
def wArgs (l : List Lt.Arg) : Nat := l.length + (l.map wArg).sum
def wBind (b : Lt.Bind) : Nat := 1 + b.Name.length + b.A.S.length
def wFrame (f : Lt.Frame) : Nat := f.Func.length + f.Block.length + (f.Vars.map wBind).sum
def wObj (o : Lt.Virt) : Nat := o.Class.length + wArgs o.Vals
def wInstr (x : Lt.Instr) : Nat := 1 + x.Dst.length + x.Frames.length + x.Objs.length + x.Name.length + wArgs x.Args + (x.Frames.map wFrame).sum + (x.Objs.map wObj).sum
def wIn (b : Lt.In) : Nat := 1 + b.Block.length + b.A.S.length
def wPhi (x : Lt.Phi) : Nat := 1 + x.Dst.length + (x.Ins.map wIn).sum
def wTo (t : List UInt8) : Nat := 1 + t.length
def wBlock (b : Lt.Block) : Nat := 1 + b.Name.length + b.End.A.S.length + (b.End.To.map wTo).sum + (b.Phis.map wPhi).sum + (b.Code.map wInstr).sum
def wFunc (f : Lt.Func) : Nat := 1 + f.Name.length + f.Result.length + wVars f.Params + wVars f.Vars + (f.Blocks.map wBlock).sum
def wClass (c : Lt.Class) : Nat := c.Name.length + wVars c.Fields
def wExtern (x : Lt.Extern) : Nat := 1 + x.Name.length
def wProg (p : Lt.Program) : Nat := wVars p.Globals + (p.Classes.map wClass).sum + (p.Externs.map wExtern).sum + (p.Funcs.map wFunc).sum

/-- texts that memory can hold -/
def sVar (v : Lt.Var) : Prop := short v.Name ∧ short v.Type_
def sArg (a : Lt.Arg) : Prop := short a.S
def sBind (b : Lt.Bind) : Prop := short b.Name ∧ sArg b.A
def sFrame (f : Lt.Frame) : Prop := short f.Func ∧ short f.Block ∧ ∀ b ∈ f.Vars, sBind b
def sObj (o : Lt.Virt) : Prop := short o.Class ∧ ∀ a ∈ o.Vals, sArg a
def sInstr (x : Lt.Instr) : Prop := short x.Dst ∧ short x.Name ∧ (∀ a ∈ x.Args, sArg a) ∧ (∀ f ∈ x.Frames, sFrame f) ∧ ∀ o ∈ x.Objs, sObj o
def sIn (b : Lt.In) : Prop := short b.Block ∧ sArg b.A
def sPhi (x : Lt.Phi) : Prop := short x.Dst ∧ ∀ i ∈ x.Ins, sIn i
def sBlock (b : Lt.Block) : Prop := short b.Name ∧ sArg b.End.A ∧ (∀ t ∈ b.End.To, short t) ∧ (∀ x ∈ b.Phis, sPhi x) ∧ ∀ i ∈ b.Code, sInstr i
def sFunc (f : Lt.Func) : Prop := short f.Name ∧ short f.Result ∧ (∀ v ∈ f.Params, sVar v) ∧ (∀ v ∈ f.Vars, sVar v) ∧ ∀ b ∈ f.Blocks, sBlock b
def sClass (c : Lt.Class) : Prop := short c.Name ∧ ∀ v ∈ c.Fields, sVar v
def sProg (p : Lt.Program) : Prop := (∀ c ∈ p.Classes, sClass c) ∧ (∀ v ∈ p.Globals, sVar v) ∧ (∀ e ∈ p.Externs, short e.Name) ∧ ∀ f ∈ p.Funcs, sFunc f

/-- one more, where it isn't too much yet -/
theorem upto_P {d : Nat} {b0 : Int} {w0 : Nat} {n : Int} {k : Nat} {r : Int} (hd : d < 9) (h0 : 0 ≤ b0) (h : Pc (d + 1) b0 w0 n) (hk : Pc d 0 k r) : Pc (d + 1) b0 (w0 + k) (Lt.upto 20000 n r) := by
  unfold Lt.upto
  unfold Pc Bd at h hk ⊢
  split
  · rw [wrap_eq (by omega) (by omega)]; omega
  · omega
/-- one more, asked or not -/
theorem more_P {d : Nat} {b0 : Int} {w0 : Nat} {n : Int} {k : Nat} (h0 : 0 ≤ b0) (h : Pc d b0 w0 n) (hk : k ≤ 140737488355328) : Pc d b0 (w0 + k) (if n ≤ 20000 then Lt.plus n k else n) := by
  unfold Pc Bd at h ⊢
  split
  · rw [plus_eq (by omega) (by omega) (by omega)]; omega
  · omega
theorem len_P {d : Nat} {k : Nat} (hk : k ≤ 140737488355328) : Pc d 0 k (k : Int) := by unfold Pc Bd; omega

theorem cVars_P {d : Nat} (l : List Lt.Var) (b : Int) (h : ∀ v ∈ l, sVar v) (h0 : 0 ≤ b) (h1 : b ≤ Bd d) : Pc d b (l.map wVar).sum (Lt.cVars 20000 l b) := by
  refine cnt_P (Lt.cVars 20000) (fun n v => if Lt.plus n v.Name.length ≤ 20000 then Lt.plus (Lt.plus n v.Name.length) v.Type_.length else Lt.plus n v.Name.length) wVar (fun _ => rfl) (fun _ _ _ => rfl) sVar (fun b x hx h0 h1 => ?_) l b h h0 h1
  have hn : Pc d b x.Name.length (Lt.plus b x.Name.length) := by
    have := hx.1; unfold short at this
    unfold Pc Bd; rw [plus_eq h0 (by omega) (by omega)]; omega
  exact more_P h0 hn hx.2
theorem countVars_P {d : Nat} (l : List Lt.Var) (h : ∀ v ∈ l, sVar v) : Pc d 0 (wVars l) (Lt.countVars l 20000) := by
  unfold Lt.countVars wVars
  split
  · rw [wrap_eq (by omega) (by omega)]; unfold Pc Bd; omega
  · have := cVars_P (d := d) l (l.length : Int) h (by omega) (by have := bd_ge d; omega)
    unfold Pc at this ⊢; omega
theorem cArgs_P {d : Nat} (l : List Lt.Arg) (b : Int) (h : ∀ v ∈ l, sArg v) (h0 : 0 ≤ b) (h1 : b ≤ Bd d) : Pc d b (l.map wArg).sum (Lt.cArgs 20000 l b) := by
  refine cnt_P (Lt.cArgs 20000) (fun n v => Lt.plus n v.S.length) wArg (fun _ => rfl) (fun _ _ _ => rfl) sArg (fun b x hx h0 h1 => ?_) l b h h0 h1
  unfold sArg short at hx
  unfold Pc Bd wArg; rw [plus_eq h0 (by omega) (by omega)]; omega
theorem countArgs_P {d : Nat} (l : List Lt.Arg) (h : ∀ v ∈ l, sArg v) : Pc d 0 (wArgs l) (Lt.countArgs l 20000) := by
  unfold Lt.countArgs wArgs
  split
  · rw [wrap_eq (by omega) (by omega)]; unfold Pc Bd; omega
  · have := cArgs_P (d := d) l (l.length : Int) h (by omega) (by have := bd_ge d; omega)
    unfold Pc at this ⊢; omega
theorem one_P {d : Nat} {b : Int} {k : Nat} (h0 : 0 ≤ b) (h1 : b ≤ 20000) (hk : k ≤ 140737488355328) : Pc d b (1 + k) (Lt.plus (IntKind.i64.wrap (b + 1)) k) := by
  rw [wrap_eq (by omega) (by omega), plus_eq (by omega) (by omega) (by omega)]; unfold Pc Bd; omega
theorem cBinds_P {d : Nat} (l : List Lt.Bind) (b : Int) (h : ∀ v ∈ l, sBind v) (h0 : 0 ≤ b) (h1 : b ≤ Bd d) : Pc d b (l.map wBind).sum (Lt.cBinds 20000 l b) := by
  refine cnt_P (Lt.cBinds 20000) (fun n b => if Lt.plus (IntKind.i64.wrap (n + 1)) b.Name.length ≤ 20000 then Lt.plus (Lt.plus (IntKind.i64.wrap (n + 1)) b.Name.length) b.A.S.length else Lt.plus (IntKind.i64.wrap (n + 1)) b.Name.length) wBind (fun _ => rfl) (fun _ _ _ => rfl) sBind (fun b x hx h0 h1 => ?_) l b h h0 h1
  exact more_P h0 (one_P h0 h1 hx.1) hx.2
theorem cIns_P {d : Nat} (l : List Lt.In) (b : Int) (h : ∀ v ∈ l, sIn v) (h0 : 0 ≤ b) (h1 : b ≤ Bd d) : Pc d b (l.map wIn).sum (Lt.cIns 20000 l b) := by
  refine cnt_P (Lt.cIns 20000) (fun n b => if Lt.plus (IntKind.i64.wrap (n + 1)) b.Block.length ≤ 20000 then Lt.plus (Lt.plus (IntKind.i64.wrap (n + 1)) b.Block.length) b.A.S.length else Lt.plus (IntKind.i64.wrap (n + 1)) b.Block.length) wIn (fun _ => rfl) (fun _ _ _ => rfl) sIn (fun b x hx h0 h1 => ?_) l b h h0 h1
  exact more_P h0 (one_P h0 h1 hx.1) hx.2
theorem Pc_then {d : Nat} {b : Int} {w w' : Nat} {n r : Int} (h0 : 0 ≤ b) (h : Pc d b w n) (h' : 0 ≤ n → n ≤ Bd d → Pc d n w' r) : Pc d b (w + w') r := by
  have hB := bd_ge d
  have h2 := h' (by unfold Pc at h; omega) (by unfold Pc at h; omega)
  unfold Pc at h h2 ⊢; omega
theorem plus_P {d : Nat} {b : Int} {k : Nat} (h0 : 0 ≤ b) (h1 : b ≤ 20000) (hk : k ≤ 140737488355328) : Pc d b k (Lt.plus b k) := by
  rw [plus_eq (by omega) (by omega) (by omega)]; unfold Pc Bd; omega
theorem cFrames_P {d : Nat} (l : List Lt.Frame) (b : Int) (h : ∀ v ∈ l, sFrame v) (h0 : 0 ≤ b) (h1 : b ≤ Bd d) : Pc d b (l.map wFrame).sum (Lt.cFrames 20000 l b) := by
  refine cnt_P (Lt.cFrames 20000) (fun n f => Lt.cBinds 20000 f.Vars (if Lt.plus n f.Func.length ≤ 20000 then Lt.plus (Lt.plus n f.Func.length) f.Block.length else Lt.plus n f.Func.length)) wFrame (fun _ => rfl) (fun _ _ _ => rfl) sFrame (fun b x hx h0 h1 => ?_) l b h h0 h1
  exact Pc_then h0 (more_P h0 (plus_P h0 h1 hx.1) hx.2.1) (cBinds_P x.Vars _ hx.2.2)
theorem cObjs_P {d : Nat} (hd : d < 9) (l : List Lt.Virt) (b : Int) (h : ∀ v ∈ l, sObj v) (h0 : 0 ≤ b) (h1 : b ≤ Bd (d + 1)) : Pc (d + 1) b (l.map wObj).sum (Lt.cObjs 20000 l b) := by
  refine cnt_P (Lt.cObjs 20000) (fun n o => if Lt.plus n o.Class.length ≤ 20000 then IntKind.i64.wrap (Lt.plus n o.Class.length + Lt.countArgs o.Vals 20000) else Lt.plus n o.Class.length) wObj (fun _ => rfl) (fun _ _ _ => rfl) sObj (fun b x hx h0 h1 => ?_) l b h h0 h1
  exact upto_P hd h0 (plus_P h0 h1 hx.1) (countArgs_P _ hx.2)
theorem cTo_P {d : Nat} (l : List (List UInt8)) (b : Int) (h : ∀ v ∈ l, short v) (h0 : 0 ≤ b) (h1 : b ≤ Bd d) : Pc d b (l.map wTo).sum (Lt.cTo 20000 l b) := by
  refine cnt_P (Lt.cTo 20000) (fun n t => Lt.plus (IntKind.i64.wrap (n + 1)) t.length) wTo (fun _ => rfl) (fun _ _ _ => rfl) short (fun b x hx h0 h1 => ?_) l b h h0 h1
  exact one_P h0 h1 hx
theorem cPhis_P {d : Nat} (l : List Lt.Phi) (b : Int) (h : ∀ v ∈ l, sPhi v) (h0 : 0 ≤ b) (h1 : b ≤ Bd d) : Pc d b (l.map wPhi).sum (Lt.cPhis 20000 l b) := by
  refine cnt_P (Lt.cPhis 20000) (fun n x => Lt.cIns 20000 x.Ins (Lt.plus (IntKind.i64.wrap (n + 1)) x.Dst.length)) wPhi (fun _ => rfl) (fun _ _ _ => rfl) sPhi (fun b x hx h0 h1 => ?_) l b h h0 h1
  exact Pc_then h0 (one_P h0 h1 hx.1) (cIns_P x.Ins _ hx.2)
theorem add_P {d : Nat} {b : Int} {w k : Nat} {n r : Int} (hd : d < 9) (h0 : 0 ≤ b) (hn : n = b + (w : Int)) (h1 : n ≤ 20000) (hk : Pc d 0 k r) : Pc (d + 1) b (w + k) (IntKind.i64.wrap (n + r)) := by
  unfold Pc Bd at hk ⊢
  rw [wrap_eq (by omega) (by omega)]; omega
theorem countInstr_P (x : Lt.Instr) (h : sInstr x) : Pc 1 0 (wInstr x) (Lt.countInstr x 20000) := by
  obtain ⟨h1, h2, h3, h4, h5⟩ := h
  unfold short at h1 h2
  unfold Lt.countInstr
  split
  · rename_i hc
    rw [wrap_eq (by omega) (by omega)]; unfold Pc Bd; omega
  · rename_i hc
    simp only [Bool.or_eq_true, decide_eq_true_eq, not_or] at hc
    have e : Lt.plus (Lt.plus (Lt.plus 1 x.Dst.length) x.Frames.length) x.Objs.length = 1 + (x.Dst.length : Int) + x.Frames.length + x.Objs.length := by
      have e1 := plus_eq (n := 1) (k := x.Dst.length) (by omega) (by omega) (by omega)
      have e2 := plus_eq (n := 1 + (x.Dst.length : Int)) (k := x.Frames.length) (by omega) (by omega) (by omega)
      have e3 := plus_eq (n := 1 + (x.Dst.length : Int) + x.Frames.length) (k := x.Objs.length) (by omega) (by omega) (by omega)
      rw [e1, e2, e3]
    have p1 : Pc 1 0 (1 + x.Dst.length + x.Frames.length + x.Objs.length) (Lt.plus (Lt.plus (Lt.plus 1 x.Dst.length) x.Frames.length) x.Objs.length) := by
      rw [e]; unfold Pc Bd; omega
    have p2 := upto_P (by omega) (by omega) p1 (len_P h2)
    have p3 := upto_P (by omega) (by omega) p2 (countArgs_P x.Args h3)
    have p4 := Pc_then (by omega) p3 (cFrames_P x.Frames _ h4)
    exact Pc_then (by omega) p4 (cObjs_P (by omega) x.Objs _ h5)
theorem cCode_P (l : List Lt.Instr) (b : Int) (h : ∀ v ∈ l, sInstr v) (h0 : 0 ≤ b) (h1 : b ≤ Bd 2) : Pc 2 b (l.map wInstr).sum (Lt.cCode 20000 l b) := by
  refine cnt_P (Lt.cCode 20000) (fun n x => IntKind.i64.wrap (n + Lt.countInstr x 20000)) wInstr (fun _ => rfl) (fun _ _ _ => rfl) sInstr (fun b x hx h0 h1 => ?_) l b h h0 h1
  have := add_P (b := b) (w := 0) (n := b) (by omega) h0 (by omega) h1 (countInstr_P x hx)
  rwa [Nat.zero_add] at this
theorem countBlock_P (x : Lt.Block) (h : sBlock x) : Pc 2 0 (wBlock x) (Lt.countBlock x 20000) := by
  obtain ⟨h1, h2, h3, h4, h5⟩ := h
  unfold sArg at h2
  unfold short at h1 h2
  unfold Lt.countBlock
  split
  · rw [wrap_eq (by omega) (by omega)]; unfold Pc Bd; omega
  · have p1 : Pc 2 0 (1 + x.Name.length) (Lt.plus 1 x.Name.length) := by
      rw [plus_eq (by omega) (by omega) (by omega)]; unfold Pc Bd; omega
    have p2 := upto_P (by omega) (by omega) p1 (len_P h2)
    have p3 := Pc_then (by omega) p2 (cTo_P x.End.To _ h3)
    have p4 := Pc_then (by omega) p3 (cPhis_P x.Phis _ h4)
    exact Pc_then (by omega) p4 (cCode_P x.Code _ h5)
theorem cBlocks_P (l : List Lt.Block) (b : Int) (h : ∀ v ∈ l, sBlock v) (h0 : 0 ≤ b) (h1 : b ≤ Bd 3) : Pc 3 b (l.map wBlock).sum (Lt.cBlocks 20000 l b) := by
  refine cnt_P (Lt.cBlocks 20000) (fun n x => IntKind.i64.wrap (n + Lt.countBlock x 20000)) wBlock (fun _ => rfl) (fun _ _ _ => rfl) sBlock (fun b x hx h0 h1 => ?_) l b h h0 h1
  have := add_P (b := b) (w := 0) (n := b) (by omega) h0 (by omega) h1 (countBlock_P x hx)
  rwa [Nat.zero_add] at this
theorem FewFunc_P (f : Lt.Func) (h : sFunc f) : Pc 3 0 (wFunc f) (Lt.FewFunc f 20000) := by
  obtain ⟨h1, h2, h3, h4, h5⟩ := h
  unfold short at h1 h2
  unfold Lt.FewFunc
  split
  · rw [wrap_eq (by omega) (by omega)]; unfold Pc Bd; omega
  · have p1 : Pc 3 0 (1 + f.Name.length) (Lt.plus 1 f.Name.length) := by
      rw [plus_eq (by omega) (by omega) (by omega)]; unfold Pc Bd; omega
    have p2 := upto_P (by omega) (by omega) p1 (len_P h2)
    have p3 := upto_P (by omega) (by omega) p2 (countVars_P f.Params h3)
    have p4 := upto_P (by omega) (by omega) p3 (countVars_P f.Vars h4)
    exact Pc_then (by omega) p4 (cBlocks_P f.Blocks _ h5)
theorem cFuncs_P (l : List Lt.Func) (b : Int) (h : ∀ v ∈ l, sFunc v) (h0 : 0 ≤ b) (h1 : b ≤ Bd 4) : Pc 4 b (l.map wFunc).sum (Lt.cFuncs 20000 l b) := by
  refine cnt_P (Lt.cFuncs 20000) (fun n x => IntKind.i64.wrap (n + Lt.FewFunc x 20000)) wFunc (fun _ => rfl) (fun _ _ _ => rfl) sFunc (fun b x hx h0 h1 => ?_) l b h h0 h1
  have := add_P (b := b) (w := 0) (n := b) (by omega) h0 (by omega) h1 (FewFunc_P x hx)
  rwa [Nat.zero_add] at this
theorem cClasses_P {d : Nat} (hd : d < 9) (l : List Lt.Class) (b : Int) (h : ∀ v ∈ l, sClass v) (h0 : 0 ≤ b) (h1 : b ≤ Bd (d + 1)) : Pc (d + 1) b (l.map wClass).sum (Lt.cClasses 20000 l b) := by
  refine cnt_P (Lt.cClasses 20000) (fun n c => if Lt.plus n c.Name.length ≤ 20000 then IntKind.i64.wrap (Lt.plus n c.Name.length + Lt.countVars c.Fields 20000) else Lt.plus n c.Name.length) wClass (fun _ => rfl) (fun _ _ _ => rfl) sClass (fun b x hx h0 h1 => ?_) l b h h0 h1
  exact upto_P hd h0 (plus_P h0 h1 hx.1) (countVars_P _ hx.2)
theorem cExterns_P {d : Nat} (l : List Lt.Extern) (b : Int) (h : ∀ v ∈ l, short v.Name) (h0 : 0 ≤ b) (h1 : b ≤ Bd d) : Pc d b (l.map wExtern).sum (Lt.cExterns 20000 l b) := by
  refine cnt_P (Lt.cExterns 20000) (fun n t => Lt.plus (IntKind.i64.wrap (n + 1)) t.Name.length) wExtern (fun _ => rfl) (fun _ _ _ => rfl) (fun v => short v.Name) (fun b x hx h0 h1 => ?_) l b h h0 h1
  exact one_P h0 h1 hx
theorem Few_w {p : Lt.Program} (h : sProg p) (hf : Lt.Few p 20000 = true) : wProg p ≤ 20000 ∧ p.Classes.length ≤ 50 := by
  obtain ⟨h1, h2, h3, h4⟩ := h
  unfold Lt.Few at hf
  split at hf
  · cases hf
  · rename_i hc
    simp only [Bool.or_eq_true, decide_eq_true_eq, not_or] at hc
    have p1 := countVars_P (d := 4) p.Globals h2
    have p2 := Pc_then (by omega) p1 (cClasses_P (d := 3) (by omega) p.Classes _ h1)
    have p3 := Pc_then (by omega) p2 (cExterns_P p.Externs _ h3)
    have p4 := Pc_then (by omega) p3 (cFuncs_P p.Funcs _ h4)
    simp only [decide_eq_true_eq] at hf
    unfold Pc Bd at p4
    unfold wProg
    omega
end Go.Am
end

section
namespace Go.Am
open Go
set_option linter.unusedVariables false
set_option linter.unusedSimpArgs false

theorem fm_le {α β : Type} (g : α → List β) (w : α → Nat) (k : Nat) : ∀ (l : List α), (∀ x ∈ l, (g x).length ≤ k * w x) → (l.flatMap g).length ≤ k * (l.map w).sum
  | [], _ => by simp
  | x :: r, h => by
    have h1 := h x (by simp)
    have h2 := fm_le g w k r (fun y hy => h y (by simp [hy]))
    simp only [List.flatMap_cons, List.length_append, List.map_cons, List.sum_cons, Nat.mul_add]
    omega
theorem sum1 {α : Type} (w : α → Nat) : ∀ (l : List α), (l.map fun x => 1 + w x).sum = l.length + (l.map w).sum
  | [] => by simp
  | x :: r => by
    have := sum1 w r
    simp only [List.map_cons, List.sum_cons, List.length_cons, this]
    omega

/-- how long words are, with what is between them -/
def lw (ws : List (List UInt8)) : Nat := (ws.map fun w => w.length + 1).sum
theorem lw_append (a b : List (List UInt8)) : lw (a ++ b) = lw a + lw b := by simp [lw]
theorem lw_cons (a : List UInt8) (b : List (List UInt8)) : lw (a :: b) = a.length + 1 + lw b := by simp [lw]
theorem lw_nil : lw [] = 0 := rfl
theorem jw_lw : ∀ (ws : List (List UInt8)) (b : Bool), (Lt.jw b ws).length ≤ lw ws
  | [], _ => by simp [Lt.jw]
  | w :: r, b => by
    have := jw_lw r true
    rw [Lt.jw, lw_cons]
    simp only [List.length_append]
    have : (if b = true then [32] else ([] : List UInt8)).length ≤ 1 := by split <;> simp
    omega
theorem lnT_lw (ws : List (List UInt8)) : (Lt.lnT ws).length ≤ lw ws + 1 := by
  have := jw_lw ws false
  simp only [Lt.lnT, List.length_append, List.length_cons, List.length_nil]
  omega

theorem rNum_len {n : Int} (h : Lt.inR n) : (Lt.rNum n).length ≤ 20 := numPut_len h
theorem hexR_len : ∀ (k : Nat) (x : Int) (l : List UInt8), (Lt.hexR k x l).length = k + l.length
  | 0, _, _ => by simp [Lt.hexR]
  | k + 1, x, l => by rw [Lt.hexR, hexR_len k]; simp; omega
theorem rWord_len {a : Lt.Arg} (h : a.ok) : (Lt.rWord a).length ≤ a.S.length + 25 := by
  have h1 := rNum_len h
  have h2 : (Lt.rFlo a.N).length = 18 := by simp [Lt.rFlo, hexR_len]
  unfold Lt.rWord
  repeat' split
  all_goals (try simp only [List.length_cons, List.length_nil])
  all_goals omega
theorem gw_len (n : Nat) : (gw.getD n default).length ≤ 10 := by
  have h : ∀ w ∈ gw, w.length ≤ 10 := by decide
  rw [List.getD]
  cases hn : gw[n]? with
  | none => simp; exact Nat.zero_le _
  | some w =>
    simp only [Option.getD_some]
    exact h w (List.mem_of_getElem? hn)
theorem rOf_len (op : Int) : (Lt.rOf op).1.Word.length ≤ 10 := by
  unfold Lt.rOf
  split
  · simp
  · exact gw_len _

theorem rVarsT_len (first : List UInt8) (hf : first.length ≤ 6) (l : List Lt.Var) : (Lt.rVarsT first l).length ≤ 20 * wVars l := by
  have := fm_le (fun v : Lt.Var => Lt.lnT [first, v.Name, v.Type_]) (fun v => 1 + wVar v) 20 l (fun v _ => by
    have := lnT_lw [first, v.Name, v.Type_]
    simp only [lw_cons, lw_nil] at this
    unfold wVar
    omega)
  rw [sum1] at this
  exact this

theorem words_len {l : List Lt.Arg} (h : Lt.argsOk l) : lw (l.map Lt.rWord) ≤ 30 * wArgs l := by
  induction l with
  | nil => simp [lw]
  | cons a r ih =>
    have h1 := ih (fun x hx => h x (List.mem_cons_of_mem _ hx))
    have h2 := rWord_len (h a (by simp))
    simp only [wArgs, List.map_cons, List.sum_cons, List.length_cons, lw_cons, wArg] at h1 ⊢
    omega

theorem bind_len {α : Type} (n : α → List UInt8) (a : α → Lt.Arg) (l : List α) (h : ∀ b ∈ l, (a b).ok) : lw (l.flatMap fun b => [n b, Lt.rWord (a b)]) ≤ 30 * (l.map fun b => 1 + (n b).length + (a b).S.length).sum := by
  induction l with
  | nil => simp [lw]
  | cons b r ih =>
    have h1 := ih (fun x hx => h x (List.mem_cons_of_mem _ hx))
    have h2 := rWord_len (h b (by simp))
    simp only [List.flatMap_cons, lw_append, lw_cons, lw_nil, List.map_cons, List.sum_cons]
    omega

theorem frame_len {f : Lt.Frame} (h : f.ok) (hn : Lt.inR f.At) : (Lt.lnT (Lt.rFrameW f)).length ≤ 40 * (1 + wFrame f) := by
  have h1 := lnT_lw (Lt.rFrameW f)
  have h2 := bind_len (fun b : Lt.Bind => b.Name) (fun b => b.A) f.Vars (fun b hb => h.2 b hb)
  have h3 := rNum_len hn
  simp only [Lt.rFrameW, lw_append, lw_cons, lw_nil, List.length_cons, List.length_nil] at h1
  unfold wFrame
  have : (f.Vars.map wBind).sum = (f.Vars.map fun b => 1 + b.Name.length + b.A.S.length).sum := rfl
  rw [this]
  simp only [Lt.rFrameW]
  omega
theorem virt_len {o : Lt.Virt} (h : o.ok) : (Lt.lnT (Lt.rVirtW o)).length ≤ 40 * (1 + wObj o) := by
  have h1 := lnT_lw (Lt.rVirtW o)
  have h2 := words_len (l := o.Vals) h
  simp only [Lt.rVirtW, lw_append, lw_cons, lw_nil, List.length_cons, List.length_nil] at h1
  unfold wObj
  simp only [Lt.rVirtW]
  omega
theorem words_take {l : List Lt.Arg} : lw ((l.take 1).map Lt.rWord) + lw ((l.drop 1).map Lt.rWord) = lw (l.map Lt.rWord) := by
  rw [← lw_append, ← List.map_append, List.take_append_drop]
theorem code_len {x : Lt.Instr} (h : x.ok) (hn : ∀ f ∈ x.Frames, Lt.inR f.At) : (Lt.rCodeT x).length ≤ 40 * wInstr x := by
  obtain ⟨okA, okF, okO⟩ := h
  have h1 := lnT_lw (Lt.rWords x)
  have h2 := words_len okA
  have h3 := rOf_len x.Op
  have h4 := fm_le (fun f => Lt.lnT (Lt.rFrameW f)) (fun f => 1 + wFrame f) 40 x.Frames (fun f hf => frame_len (okF f hf) (hn f hf))
  have h5 := fm_le (fun o => Lt.lnT (Lt.rVirtW o)) (fun o => 1 + wObj o) 40 x.Objs (fun o ho => virt_len (okO o ho))
  rw [sum1] at h4 h5
  have hh : lw (Lt.rHead x) ≤ x.Dst.length + 20 := by
    simp only [Lt.rHead, lw_append, lw_cons, lw_nil]
    split
    · simp only [lw_cons, lw_nil, List.length_cons, List.length_nil]; omega
    · simp only [lw_nil]; omega
  have hw : lw (Lt.rWords x) ≤ x.Dst.length + x.Name.length + 21 + lw (x.Args.map Lt.rWord) := by
    unfold Lt.rWords
    split
    · have := words_take (l := x.Args)
      simp only [lw_append, lw_cons, lw_nil]
      omega
    · simp only [lw_append]
      split
      · simp only [lw_cons, lw_nil]; omega
      · simp only [lw_nil]; omega
  simp only [Lt.rCodeT, List.length_append]
  unfold wInstr
  omega
theorem to_len (l : List (List UInt8)) : lw l = (l.map wTo).sum := by
  unfold lw wTo
  congr 1
  exact List.map_congr_left (fun x _ => by omega)
theorem kind_word (n : Nat) : (([[], [106, 117, 109, 112], [98, 114, 97, 110, 99, 104], [114, 101, 116], [116, 114, 97, 112]] : List (List UInt8)).getD n default).length ≤ 10 := by
  match n with
  | 0 => decide
  | 1 => decide
  | 2 => decide
  | 3 => decide
  | 4 => decide
  | n + 5 => simp; exact Nat.zero_le _
theorem end_len {t : Lt.Term} (h : t.ok) : (Lt.rEndT t).length ≤ 70 + t.A.S.length + (t.To.map wTo).sum := by
  unfold Lt.rEndT
  split
  · simp
  · have h1 := lnT_lw (Lt.rEndW t)
    have h2 := rWord_len h.1
    have h3 := rNum_len h.2
    have h4 := kind_word t.Kind.toNat
    have h5 := to_len t.To
    unfold Lt.rEndW at h1 ⊢
    simp only [lw_append, lw_cons, lw_nil] at h1
    have h6 : lw (if t.Kind = 2 ∨ t.Kind = 3 then [Lt.rWord t.A] else []) ≤ t.A.S.length + 26 := by
      split
      · simp only [lw_cons, lw_nil]; omega
      · simp only [lw_nil]; omega
    have h7 : lw (if t.Kind = 4 then [Lt.rNum t.N] else []) ≤ 21 := by
      split
      · simp only [lw_cons, lw_nil]; omega
      · simp only [lw_nil]; omega
    omega
theorem phi_len {x : Lt.Phi} (h : x.ok) : (Lt.lnT (Lt.rPhiW x)).length ≤ 40 * wPhi x := by
  have h1 := lnT_lw (Lt.rPhiW x)
  have h2 := bind_len (fun b : Lt.In => b.Block) (fun b => b.A) x.Ins (fun b hb => h.2 b hb)
  simp only [Lt.rPhiW, lw_append, lw_cons, lw_nil, List.length_cons, List.length_nil] at h1
  unfold wPhi
  have : (x.Ins.map wIn).sum = (x.Ins.map fun b => 1 + b.Block.length + b.A.S.length).sum := rfl
  rw [this]
  simp only [Lt.rPhiW]
  omega
theorem block_len {b : Lt.Block} (h : b.ok) (hn : ∀ i ∈ b.Code, ∀ f ∈ i.Frames, Lt.inR f.At) : (Lt.rBlockT b).length ≤ 100 * wBlock b := by
  have h1 := lnT_lw [[98, 108, 111, 99, 107], b.Name]
  simp only [lw_cons, lw_nil, List.length_cons, List.length_nil] at h1
  have h2 := fm_le (fun x => Lt.lnT (Lt.rPhiW x)) wPhi 40 b.Phis (fun x hx => phi_len (h.1 x hx))
  have h3 := fm_le Lt.rCodeT wInstr 40 b.Code (fun x hx => code_len (h.2.1 x hx) (hn x hx))
  have h4 := end_len h.2.2
  simp only [Lt.rBlockT, List.length_append]
  unfold wBlock
  omega
theorem func_len {f : Lt.Func} (h : f.ok) (hn : ∀ b ∈ f.Blocks, ∀ i ∈ b.Code, ∀ r ∈ i.Frames, Lt.inR r.At) : (Lt.rFuncT f).length ≤ 100 * wFunc f := by
  have h1 := lnT_lw [[102, 117, 110, 99], f.Name, f.Result]
  simp only [lw_cons, lw_nil, List.length_cons, List.length_nil] at h1
  have h2 := fm_le Lt.rBlockT wBlock 100 f.Blocks (fun x hx => block_len (h x hx) (hn x hx))
  have h3 := rVarsT_len [112, 97, 114, 97, 109] (by decide) f.Params
  have h4 := rVarsT_len [118, 97, 114] (by decide) f.Vars
  simp only [Lt.rFuncT, List.length_append]
  unfold wFunc
  omega
theorem class_len (c : Lt.Class) : (Lt.rClassT c).length ≤ 20 * (1 + wClass c) := by
  have h1 := lnT_lw [[99, 108, 97, 115, 115], c.Name]
  simp only [lw_cons, lw_nil, List.length_cons, List.length_nil] at h1
  have h3 := rVarsT_len [102, 105, 101, 108, 100] (by decide) c.Fields
  simp only [Lt.rClassT, List.length_append]
  unfold wClass
  omega
theorem extern_len {c : Lt.Extern} (h : Lt.inR c.N) : (Lt.rExternT c).length ≤ 40 * wExtern c := by
  have h1 := lnT_lw [[101, 120, 116, 101, 114, 110], c.Name, Lt.rNum c.N]
  have h2 := rNum_len h
  simp only [lw_cons, lw_nil, List.length_cons, List.length_nil] at h1
  simp only [Lt.rExternT]
  unfold wExtern
  omega

theorem Few_len {p : Lt.Program} (hs : sProg p) (h : p.ok) (he : ∀ e ∈ p.Externs, Lt.inR e.N) (hn : ∀ f ∈ p.Funcs, ∀ b ∈ f.Blocks, ∀ i ∈ b.Code, ∀ r ∈ i.Frames, Lt.inR r.At) (hf : Lt.Few p 20000 = true) : (Lt.rLines p).length ≤ Lt.room := by
  obtain ⟨hw, hc⟩ := Few_w hs hf
  have h1 := fm_le Lt.rClassT (fun c => 1 + wClass c) 20 p.Classes (fun c _ => class_len c)
  rw [sum1] at h1
  have h2 := fm_le Lt.rExternT wExtern 40 p.Externs (fun x hx => extern_len (he x hx))
  have h3 := fm_le Lt.rFuncT wFunc 100 p.Funcs (fun x hx => func_len (h x hx) (hn x hx))
  have h4 := rVarsT_len [103, 108, 111, 98, 97, 108] (by decide) p.Globals
  have h5 : (if p.SSA = true then Lt.lnT [[115, 115, 97]] else []).length ≤ 10 := by split <;> decide
  unfold wProg at hw
  unfold Lt.rLines Lt.room
  simp only [List.length_append]
  omega
end Go.Am
end

section
namespace Go.Am

theorem AW_bodyT {e : En} (he : e.ok) (hm : e.P.follows .mixedOrders = true) {fn : Func} {an : An} {ps rs : List U} {g : G} (hg : g.nt = fn.ntmps) (hc : chkC fn.ntmps (fn.body.getD .skip) = true) {x : Fl ps} {KK : Fl rs → Prop} {K : AV → Prop}
    (hK : ∀ r, KK r → K (resA rs r).toV) (h : bodyT e fn an ps rs x KK) : AW e.P g (fn.body.getD .skip) (retQ e.P fn.results.toList K) ⟨entryT 0 (avs0 ps x), []⟩ := by
  have h1 := AW_wpT he hm (g := g) _ an (entS ps x) _ (by rw [hg]; exact hc) h
  have e0 : (entS ps x).toS = ⟨entryT 0 (avs0 ps x), []⟩ := drop_toS.S_ext (entT_toS 0 ps x) rfl
  rw [e0] at h1
  refine AW_postR h1 (fun ex s' a w h' hR => ?_)
  cases ex with
  | normal =>
    obtain ⟨t, rfl, ht⟩ := h'
    exact retT_ok hK ht hR
  | ret =>
    obtain ⟨t, rfl, ht⟩ := h'
    exact retT_ok hK ht hR
  | exit i => exact h'.elim (fun t ht => ht.2.elim)
  | _ => exact h'.elim

end Go.Am
end
