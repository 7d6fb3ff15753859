/-
  Part 10: AmShelf · AmBldCall · AmArr · AmSem · AmData · AmTy · AmJoin · AmNice · AmF · AmLoop · AmLaw1 · AmLaw2.
-/
import Derived.Test.YtembkmhdijoppaaUn9
import Derived.Test.YtembkmhdijoppaaProg
set_option linter.unusedSimpArgs false
set_option linter.unusedVariables false
set_option linter.unusedSectionVars false
set_option linter.unnecessarySimpa false
section
namespace Go.Proofs
open Go.Shelf
def Try.lays169_ren : Go.Shelf.Ren := ⟨fun | 169 => 35 | n => n, fun | 70 => 90 | 9 => 9 | 0 => 0 | 72 => 93 | 37 => 91 | 127 => 120 | 3 => 3 | 5 => 5 | n => n, fun | n => n⟩
theorem Try.lays169 : Go.Proofs.Lays.n169 Try.prog Try.lays169_ren := {
  mixed := by kernel_rfl
  f169 := Try.func35.trans (congrArg some (by kernel_rfl))
  t0 := Try.underlying0
  a0 := Try.isAgg0
  z0 := Try.sizeOf0
  v0 := Try.zeroValue0
  t3 := Try.underlying3
  a3 := Try.isAgg3
  z3 := Try.sizeOf3
  v3 := Try.zeroValue3
  t9 := Try.underlying9
  a9 := Try.isAgg9
  z9 := Try.sizeOf9
  v9 := Try.zeroValue9
  t37 := Try.underlying91
  a37 := Try.isAgg91
  z37 := Try.sizeOf91
  v37 := Try.zeroValue91
  t70 := Try.underlying90
  a70 := Try.isAgg90
  z70 := Try.sizeOf90
  v70 := Try.zeroValue90
  t72 := Try.underlying93
  a72 := Try.isAgg93
  z72 := Try.sizeOf93
  v72 := Try.zeroValue93
  t127 := Try.underlying120
  a127 := Try.isAgg120
  z127 := Try.sizeOf120
  v127 := Try.zeroValue120 }
theorem Try.Builder_Extra_169 : Builder.Extra Try.prog Try.lays169_ren := {
  sizeBuilder := by kernel_rfl
  liesBuilder := by kernel_rfl
  t5 := Try.underlying5
  a5 := Try.isAgg5
  z5 := Try.sizeOf5
  v5 := Try.zeroValue5
  infoByte := by kernel_rfl
  cellsByte := by kernel_rfl
  sizeByte := by kernel_rfl
  neB5 := by decide }
open Go.RowKit in
/-- (*strings.Builder).String: "String returns the accumulated string.": OF A BUILDER THAT HOLDS AT LEAST ONE BYTE. ✋ THE MODEL FREEZES THOSE BYTES IN THE BUFFER (unsafe.String): a later write INTO them ends the model's run without an answer; a later append BEHIND them goes on. The statement's order of evaluation is drawn: one draw. (LAID: no walk: one application.) -/
theorem Try.Builder_String (B b : Nat) (l : List UInt8) (w : World) (h : Lib.IsBuilder 93 5 B b (Lib.byteCells l) w) (h0 : l ≠ []) :
    Calls Try.prog 35 #[.pointer (some ⟨b, 0, none⟩)] w fun e w' => e = .returned (.string ⟨l.toArray⟩) ∧ Below B w w' := Any.Builder_String Try.lays169 Try.Builder_Extra_169 B b l w h h0
open Go.RowKit in
/-- (*strings.Builder).String OF A BUILDER THAT HOLDS NO BYTE: the empty string. (Its buffer is nil, or a row of which it has taken nothing yet; where that row has NO capacity the model lays one new block for unsafe.SliceData's 'some address'.) One draw. (LAID: no walk: one application.) -/
theorem Try.Builder_String_empty (B b : Nat) (w : World) (h : Lib.IsBuilder 93 5 B b [] w) (hBw : B ≤ w.heap.size) :
    Calls Try.prog 35 #[.pointer (some ⟨b, 0, none⟩)] w fun e w' => e = .returned (.string ⟨#[]⟩) ∧ Below B w w' := Any.Builder_String_empty Try.lays169 Try.Builder_Extra_169 B b w h hBw
open Go.RowKit in
/-- (*strings.Builder).String: "String returns the accumulated string.": WHATEVER THE BUILDER HOLDS. (LAID: no walk: one application.) -/
theorem Try.Builder_String_any (B b : Nat) (l : List UInt8) (w : World) (h : Lib.IsBuilder 93 5 B b (Lib.byteCells l) w) (hBw : B ≤ w.heap.size) :
    Calls Try.prog 35 #[.pointer (some ⟨b, 0, none⟩)] w fun e w' => e = .returned (.string ⟨l.toArray⟩) ∧ Below B w w' := Any.Builder_String_any Try.lays169 Try.Builder_Extra_169 B b l w h hBw
end Go.Proofs
end

section
namespace Go.Am
open Go.RowKit Go.Proofs

section
variable {P : Program} {g : G} {s : S} {H : FH} {b : Nat} {Q : Exit → S × List UInt8 → Prop} {x : S × List UInt8}

theorem wp_preKH {cs : CT} {Q : Exit → Act → World → Prop} {all tail : List Oper} {k : S → Prop} (hQ : ∀ s' a' w' γ' F', k s' → RX g s' a' w' H γ' F' → wpList P all.toArray Q tail a' w') :
    ∀ (pre : List Oper) (s : S) (a : Act) (w : World) (γ : Gam) (F : Nm → Fp), pre.all keepsH = true → opsC g.nt all pre = true → opsK P cs all pre s k → RX g s a w H γ F → wpList P all.toArray Q (pre ++ tail) a w
  | [], s, a, w, γ, F, _, _, h, hX => hQ s a w γ F h hX
  | o :: r, s, a, w, γ, F, hk, hc, h, hX => by
    simp only [List.all_cons, Bool.and_eq_true] at hk
    simp only [opsC, Bool.and_eq_true] at hc
    have hg : o.guard = none := by
      have := hk.1
      simp only [keepsH, Bool.and_eq_true, Option.isNone_iff_eq_none] at this
      exact this.1
    simp only [opsK, hg] at h
    refine wpList_plain hg (fun K hK => Oper_wp_mono (fun a' w' ⟨s', γ', F', h1, h2⟩ => hK _ _ (wp_preKH hQ r s' a' w' γ' F' hk.2 hc.2 h1 h2)) (fun _ _ _ h => h) (wp_opKH (Q := Q) hk.1 hc.1.1 h hX))

theorem RX_below {a : Act} {w w' : World} {γ : Gam} {F : Nm → Fp} (h : RX g s a w H γ F) (hm : s.m = []) (hH : ∀ b' o', H b' o' ≠ none → b' < g.w0.heap.size) (hb : Below g.w0.heap.size w w') : RX g s a w' H γ F := by
  have hK : Keeps w γ s.m w' γ s.m := Keeps_grow h.mem (fun c hc => by rw [hm] at hc; exact absurd rfl hc)
  refine ⟨⟨fun b' o' y hy => ?_, fun y hy => by rw [hm] at hy; simp at hy, h.mem.keys, h.mem.le1, fun c hc => by rw [hm] at hc; exact absurd rfl hc, fun c hc => by rw [hm] at hc; exact absurd rfl hc⟩, ?_, h.nt, h.df, fun i => AR_keeps hK (fun _ _ _ h => h) (h.t i)⟩
  · have hlt : b' < g.w0.heap.size := hH b' o' (by rw [hy]; simp)
    rw [hb.cell hlt]
    exact h.mem.agree b' o' y hy
  · exact ⟨Nat.le_trans h.fr.size hb.size, hb.os.trans h.fr.os, hb.tape.trans h.fr.tape, hb.output.trans h.fr.output, fun k hk h0 => (hb.block k hk).trans (h.fr.block k hk h0), h.fr.hold, h.fr.hnew, h.fr.tt⟩

/-- a region that ends in a call on the builder -/
theorem BW_call {cs : CT} (ks : List Nat) (pre : List Oper) (o : Oper) (l' : List UInt8) {id : Nat} (hk : pre.all keepsH = true) (hc : opsC g.nt (pre ++ [o]) pre = true) (hg : o.guard = none) (hd : okD g.nt o.dst = true) (hH : ∀ b' o', H b' o' ≠ none → b' < g.w0.heap.size)
    (s1 : S) (hm1 : s1.m = [])
    (hcall : ∀ a w γ F, RX g s1 a w H γ F → Lib.IsBuilder 93 5 g.w0.heap.size b (Lib.byteCells x.2) w → g.w0.heap.size ≤ w.heap.size →
        o.wp P a w (fun a' w' => (∃ y, a' = a.put o.dst y) ∧ Lib.IsBuilder 93 5 g.w0.heap.size b (Lib.byteCells l') w' ∧ Below g.w0.heap.size w w') (fun _ _ _ => False))
    (hQ : Q .normal (⟨keepT ks (s1.put o.dst .any).t, []⟩, l'))
    (h : RK P cs (pre ++ [o]) pre x.1 (fun s' => s' = s1)) : BW P g H b (.region id (pre ++ [o]).toArray false) Q x := by
  intro a w ⟨hm, ⟨γ, F, hX⟩, hB⟩
  have htot : tot F x.1.m = fun _ => 0 := by rw [hm]; rfl
  let g2 : G := ⟨g.nt, w, H, fun _ => 0, g.out⟩
  have hX2 : RX g2 x.1 a w H γ F := ⟨hX.mem, ⟨Nat.le_refl _, rfl, rfl, rfl, fun _ _ _ => rfl, fun _ _ _ h => h, fun _ _ h1 h2 => absurd h2 h1, fun c hc => by rw [htot] at hc; exact absurd rfl hc⟩, hX.nt, hX.df, hX.t⟩
  refine wp_region_lit (wp_preKH (g := g2) (H := H) (fun s' a' w' γ' F' hk' hX' => ?_) pre x.1 a w γ F hk hc h.out hX2)
  subst hk'
  have hf := hX'.fr
  have hXg : RX g s' a' w' H γ' F' := ⟨hX'.mem, hX.fr.trans (by rw [htot]; exact hf), hX'.nt, hX'.df, hX'.t⟩
  have hB' := isBuilder_keeps hB hf.size hf.os hf.tape hf.output (fun k hk => hf.block k hk rfl)
  have hsz : g.w0.heap.size ≤ w'.heap.size := hXg.fr.size
  refine wpList_plain hg (fun K hK => Oper_wp_mono (fun a2 w2 ⟨⟨y, hy⟩, h1, h2⟩ => hK _ _ (wpList_nil ?_)) (fun _ _ _ h => h.elim) (hcall a' w' γ' F' hXg hB' hsz))
  subst hy
  have hX2 := (RX_below hXg hm1 hH h2).put hd (v := .any) (y := y) trivial
  have hX3 := RX_keepT ks hX2
  have hm3 : (s'.put o.dst .any).m = [] := by
    cases o.dst <;> exact hm1
  refine ⟨_, hQ, rfl, ⟨γ', F', ?_⟩, h1⟩
  rw [hm3] at hX3
  exact hX3

/-- what a call of a function with a body is -/
theorem wp_callf {o : Oper} {c : Call} {f : Nat} {a : Act} {w : World} {N : Act → World → Prop} {Q : Exit → Act → World → Prop} (ho : o.op = .call c) (hf : c.callee = .value (.func f)) (hrun : ∀ args w, (callFunc f args).run P w = .ok (.enter f args) w)
    (h : Calls P f (c.args.map a.eval) w (fun e w' => ∃ v, e = .returned v ∧ N (a.put o.dst v) w')) : o.wp P a w N Q := by
  obtain ⟨callee, args, tys⟩ := c
  dsimp only at hf h
  subst hf
  have hr : (execOp a.eval o).run P w = .ok (.enter f (args.map a.eval)) w := by
    simp only [execOp, ho, resolve, Act.eval, Deferred.ofValue, Sem.run_bind, Sem.run_pure, Result.andThen_ok, invoke]
    rw [hrun]
    simp
  unfold Oper.wp
  rw [hr]
  refine Calls.mono h (fun e w' ⟨v, he, hn⟩ => ?_)
  subst he
  exact hn

/-- a new builder leaves the state -/
theorem to_bld {a : Act} {w : World} {γ : Gam} {F : Nm → Fp} {t : List (Nat × AV)} {n : Nm} (h : RX g ⟨t, [(n, ⟨true, [.d (.v (.pointer none)), .nil]⟩)]⟩ a w H γ F) (hn : n.tyd = some 93) (h0 : ∀ k, g.own0 k = 0) {i : Nat} (hi : getT t i = .one (.c (.pl ⟨n, 0, []⟩))) :
    ∃ b, Lib.IsBuilder 93 5 g.w0.heap.size b (Lib.byteCells []) w ∧ a.tmps.getD i undef = .pointer (some ⟨b, 0, none⟩) ∧ RX g ⟨t.map fun x => (x.1, x.2.kill (badR n)), []⟩ a w H γ F := by
  have hR := h.mem.roots _ (List.mem_singleton.2 rfl)
  unfold RootR at hR
  rw [if_pos rfl] at hR
  obtain ⟨b, cs, ty, fz, f, e1, e2, ⟨e3, e4⟩, e5, e6, e7⟩ := hR
  have hty := e4 _ hn
  subst hty
  unfold okFr at e3
  subst e3
  have hcs : cs = #[.pointer none, .slice none 0 0] := by
    obtain ⟨cs⟩ := cs
    unfold Ts at e6
    dsimp only at e6 e5
    match cs, e5, e6 with
    | [x, y], _, e6 =>
      obtain ⟨v, r, f1, f2, hv, _, k1, k2⟩ := e6
      obtain ⟨rfl, rfl⟩ := List.cons.inj hv
      obtain ⟨v, r, f1, f2, hv, _, k3, k4⟩ := k2
      obtain ⟨rfl, rfl⟩ := List.cons.inj hv
      obtain ⟨_, m, k1⟩ := k1
      obtain ⟨_, k3⟩ := k3
      have e1 : x = .pointer none := by cases m <;> exact k1.1
      rw [e1, k3]
  subst hcs
  have hti := h.t i
  rw [hi] at hti
  obtain ⟨_, _, ad, had, hval⟩ := hti
  have had' : ad = ⟨b, 0, none⟩ := by
    simp only [plA] at had
    dsimp only at e1
    rw [e1] at had
    simpa using had.symm
  subst had'
  have hB : g.w0.heap.size ≤ b := by
    rcases h.fr.tt b (by
      show F n b + 0 ≠ 0
      have := e7 b
      dsimp only at this
      rw [if_pos rfl] at this
      omega) with h' | h'
    · exact absurd (h0 b) h'
    · exact h'
  refine ⟨b, .inl ⟨hB, .slice none 0 0, e2, World.ownsRow_nil _ _ _ _, by simp [Value.ownBlock]⟩, hval, ?_⟩
  have hd := RX_drop h n
  have e : S.drop ⟨t, [(n, ⟨true, [.d (.v (.pointer none)), .nil]⟩)]⟩ n = ⟨t.map fun x => (x.1, x.2.kill (badR n)), []⟩ := by
    simp [S.drop, delR, killM, killT]
  rw [e] at hd
  exact hd

end

theorem run_of_func {P : Program} {f : Nat} {fn : Func} {c : Code} (hf : P.funcs[f]? = some fn) (hname : (fn.name == "runtime.NumGoroutine") = false) (hb : fn.body = some c) (args : Array Value) (w : World) : (callFunc f args).run P w = .ok (.enter f args) w := by
  have h1 : fn.name ≠ "runtime.NumGoroutine" := by simpa using hname
  simp [callFunc, hf, h1, hb]

end Go.Am
end

section
namespace Go.Am

def T.isD : T → Bool
  | .d _ => true
  | _ => false

/-- pointers into root n's block, when that is frozen: row: its cells -/
def T.frB (n : Nm) (row : List D) : T → T
  | .pl p => match p.path with
    | [] => if p.root = n then .el row p.off else .pl p
    | _ => (T.pl p).kill (badR n)
  | t => t.kill (badR n)

def S.frzB (n : Nm) (s : S) : S :=
  match getR s.m n with
  | some ⟨true, cells⟩ => if cells.all T.isD = true then ⟨mapT (AV.map (T.frB n (cells.map T.toD))) s.t, killM (badR n) (delR s.m n)⟩ else s
  | _ => s

theorem FRow_of_x {H : FH} {row : List D} {b o : Nat} (h : ∀ j, j < row.length → ∃ y, H b (o + j) = some y ∧ FDx H (row.getD j default) y) : ∃ m, FRow H m row b o := by
  have key : ∀ n, n ≤ row.length → ∃ m, ∀ j, j < n → ∃ y, H b (o + j) = some y ∧ FD H m (row.getD j default) y := by
    intro n
    induction n with
    | zero => exact fun _ => ⟨0, fun j hj => by omega⟩
    | succ n ih =>
      intro hn
      obtain ⟨m1, h1⟩ := ih (by omega)
      obtain ⟨y, hy, m2, hf⟩ := h n (by omega)
      refine ⟨m1 + m2, fun j hj => ?_⟩
      by_cases hjn : j = n
      · subst hjn; exact ⟨y, hy, FD_mono (fun _ _ _ h => h) _ _ _ _ (by omega) hf⟩
      · obtain ⟨z, hz, hf⟩ := h1 j (by omega)
        exact ⟨z, hz, FD_mono (fun _ _ _ h => h) _ _ _ _ (by omega) hf⟩
  exact key row.length (Nat.le_refl _)

section
variable {P : Program} {g : G} {s : S} {a : Act} {w : World} {H : FH} {γ : Gam} {F : Nm → Fp}

theorem tot_del_eq {F : Nm → Fp} {m : Mm} {n : Nm} {r : Root} (hk : getR m n = some r) (c : Nat) : tot F (delR m n) c + F n c = tot F m c := by
  induction m with
  | nil => simp [getR] at hk
  | cons x m ih =>
    obtain ⟨k, y⟩ := x
    simp only [getR, delR] at hk ⊢
    by_cases hkn : k = n
    · subst hkn; rw [if_pos rfl, tot_cons]; dsimp only; omega
    · rw [if_neg hkn] at hk
      rw [if_neg hkn, tot_cons, tot_cons]
      have := ih hk
      dsimp only at this ⊢
      omega

theorem RX_frzB (h : RX g s a w H γ F) (n : Nm) : ∃ H', RX g (s.frzB n) a w H' γ F := by
  unfold S.frzB
  split
  rotate_left
  · exact ⟨H, h⟩
  rename_i cells hr
  split
  rotate_left
  · exact ⟨H, h⟩
  rename_i hall
  have hR := h.mem.roots _ (getR_mem hr)
  unfold RootR at hR
  rw [if_pos rfl] at hR
  obtain ⟨b, cs, ty, fz, f, e1, e2, e3, e4, e5, e6⟩ := hR
  dsimp only at e1 e4 e5 e6
  have hd := RX_drop h n
  have hdm : (s.drop n).m = killM (badR n) (delR s.m n) := rfl
  have tdel : ∀ c, tot F (killM (badR n) (delR s.m n)) c + F n c = tot F s.m c := fun c => by rw [tot_killM]; exact tot_del_eq hr c
  let H' : FH := fun k o => if k = b then w.cell? ⟨k, o, none⟩ else H k o
  have hFb : F n b ≠ 0 := by
    have := e6 b; rw [if_pos rfl] at this; omega
  have htb : tot F s.m b ≠ 0 := by have := tdel b; omega
  have hH : ∀ k o y, H k o = some y → H' k o = some y := by
    intro k o y hy
    simp only [H']
    split
    · exact h.mem.agree k o y hy
    · exact hy
  have hag : ∀ k o y, H' k o = some y → w.cell? ⟨k, o, none⟩ = some y := by
    intro k o y hy
    simp only [H'] at hy
    split at hy
    · exact hy
    · exact h.mem.agree k o y hy
  have hmem := hd.mem
  rw [hdm] at hmem
  have hKr : Keeps w γ (killM (badR n) (delR s.m n)) w γ (killM (badR n) (delR s.m n)) := ⟨fun q hq => ⟨hq, rfl⟩, fun q hq => ⟨hq, rfl⟩⟩
  have hcell : ∀ j, w.cell? ⟨b, j, none⟩ = cs[j]? := fun j => by simp [World.cell?, e2]
  have hrow : ∃ m, FRow H' m (cells.map T.toD) b 0 := by
    refine FRow_of_x (fun j hj => ?_)
    rw [List.length_map] at hj
    have hcj : cells[j]? = some cells[j] := List.getElem?_eq_getElem hj
    obtain ⟨v, q, v1, v2, _⟩ := Ts_get e5 hcj
    have hisD := List.all_eq_true.1 hall cells[j] (List.getElem_mem hj)
    refine ⟨v, ?_, ?_⟩
    · simp only [H', if_true, Nat.zero_add]
      rw [hcell]
      simpa using v1
    · rw [List.getD, List.getElem?_map, hcj]
      simp only [Option.map_some, Option.getD_some]
      generalize cells[j] = t at v2 hisD
      cases t with
      | d x => exact FDx_mono hH v2.2
      | _ => simp [T.isD] at hisD
  refine ⟨H', ⟨?_, ?_, h.nt, h.df, fun i => ?_⟩⟩
  · refine ⟨hag, fun x hx => RootR_keeps hKr hH rfl (fun _ _ => rfl) (hmem.roots x hx), hmem.keys, hmem.le1, hmem.lt, fun k hk o => ?_⟩
    have hkb : k ≠ b := by
      intro e; subst e
      have h1 := tdel k; have h2 := h.mem.le1 k; dsimp only at hk; omega
    simp only [H']
    rw [if_neg hkb]
    exact hmem.nofz k hk o
  · refine ⟨h.fr.size, h.fr.os, h.fr.tape, h.fr.output, h.fr.block, fun k o y hy => hH _ _ _ (h.fr.hold k o y hy), fun k o h1 h2 => ?_, fun k hk => h.fr.tt k ?_⟩
    · by_cases hkb : k = b
      · subst hkb; exact h.fr.tt k htb
      · simp only [H'] at h1
        rw [if_neg hkb] at h1
        exact h.fr.hnew k o h1 h2
    · have h1 := tdel k; dsimp only at hk; omega
  · show AR w H' γ _ (getT (mapT _ s.t) i) _
    rw [getT_mapT rfl]
    refine AR_map (fun t y ht => ?_) (h.t i)
    have hk := fun (t : T) (ht : TR w H γ s.m t (fun _ => 0) y) => TR_kill (KeepsB_del (n := n)) hH (fun _ hb => absurd rfl hb) ht
    cases t with
    | pl p =>
      obtain ⟨pn, po, pp⟩ := p
      cases pp with
      | nil =>
        simp only [T.frB]
        split
        · rename_i hc
          subst hc
          obtain ⟨_, _, ad, had, hy⟩ := ht
          obtain ⟨m, hm⟩ := hrow
          have : ad = ⟨b, po, none⟩ := by
            simp only [plA, e1, Option.some.injEq] at had; exact had.symm
          subst this
          exact ⟨fun _ => rfl, b, 0, m, by rw [hy, Nat.zero_add], hm⟩
        · rename_i hc
          have := hk _ ht
          have hb : badR n false ⟨pn, po, []⟩ = false := by simp [badR, hc]
          simp only [T.kill, hb, Bool.false_eq_true, if_false] at this
          exact this
      | cons st q => exact hk _ ht
    | _ => exact hk _ ht

theorem R_frzB (h : R g s a w) (n : Nm) : R g (s.frzB n) a w := by
  obtain ⟨H, γ, F, h⟩ := h
  obtain ⟨H', h'⟩ := RX_frzB h n
  exact ⟨H', γ, F, h'⟩

variable {Q : Exit → S → Prop}

/-- temporary t's slices are frozen -/
theorem frA (t : Nat) {c : Code} {s s1 : S} (h : AW P g c Q s1)
    (e : ∀ K : S → Prop, K s1 → K (frzV s (getT s.t t)) := by intro K hK; simp only [push_cast, ↓reduceIte, Nat.reduceAdd, Nat.reduceSub, Nat.reduceMul, Nat.reduceEqDiff, Nat.reduceLeDiff, reduceCtorEq, Nat.reduceBEq, Nat.reduceLT, Int.reduceToNat, Int.reduceLE]; exact hK) : AW P g c Q s := by
  have h2 := e (fun s' => AW P g c Q s') h
  intro a w ⟨H, γ, F, hX⟩
  obtain ⟨H', F', hX'⟩ := RX_frzV hX (getT s.t t)
  exact h2 a w ⟨H', γ, F', hX'⟩

/-- root n's block is frozen -/
theorem frB (n : Nm) {c : Code} {s s1 : S} (h : AW P g c Q s1)
    (e : ∀ K : S → Prop, K s1 → K (s.frzB n) := by intro K hK; simp only [push_cast, ↓reduceIte, Nat.reduceAdd, Nat.reduceSub, Nat.reduceMul, Nat.reduceEqDiff, Nat.reduceLeDiff, reduceCtorEq, Nat.reduceBEq, Nat.reduceLT, Int.reduceToNat, Int.reduceLE]; exact hK) : AW P g c Q s := by
  have h2 := e (fun s' => AW P g c Q s') h
  intro a w hR
  exact h2 a w (R_frzB hR n)

end

/-! arrays of numbers -/

def tI (k : IntKind) (n : Int) : T := .d (.int k n)
def dI (k : IntKind) (n : Int) : D := .int k n

theorem tI_owned (k : IntKind) (n : Int) : (tI k n).owned = false := rfl
theorem tI_all (k : IntKind) (L : List Int) : (L.map (tI k)).all T.isD = true := by
  rw [List.all_eq_true]; intro x hx; rw [List.mem_map] at hx; obtain ⟨n, _, rfl⟩ := hx; rfl
theorem tI_toD (k : IntKind) (L : List Int) : (L.map (tI k)).map T.toD = L.map (dI k) := by
  rw [List.map_map]; rfl
theorem tI_set (k : IntKind) (L : List Int) (n : Nat) (v : Int) : (L.map (tI k)).set n (.d (.int k v)) = (L.set n v).map (tI k) := by
  rw [List.map_set]; rfl
theorem tI_kill (k : IntKind) (L : List Int) (bad : Bool → Pl → Bool) : (L.map (tI k)).map (T.kill bad) = L.map (tI k) := by
  rw [List.map_map]; rfl
theorem decBy_dI (L : List Int) : decBy (L.map fun n => [dI .u8 n]) = some (L.map fun n => UInt8.ofNat n.toNat) := by
  induction L with
  | nil => rfl
  | cons n L ih => rw [List.map_cons, dI, decBy, ih]; rfl
theorem decBy_sub (L : List Int) (N a b : Nat) : decBy ((((((L.map (dI .u8)).drop 0).take N).drop a).take b).map fun x => [x]) = some (((((L.take N).drop a).take b)).map fun n => UInt8.ofNat n.toNat) := by
  rw [List.drop_zero, ← List.map_take, ← List.map_drop, ← List.map_take, List.map_map]
  exact decBy_dI _
theorem decBy_sub' (L : List Int) (N a b : Nat) : decBy (((((L.map (dI .u8)).take N).drop a).take b).map fun x => [x]) = some (((((L.take N).drop a).take b)).map fun n => UInt8.ofNat n.toNat) := decBy_sub L N a b
theorem decBy_mm (L : List Int) : decBy ((L.map (dI .u8)).map fun x => [x]) = some (L.map fun n => UInt8.ofNat n.toNat) := by
  rw [List.map_map]; exact decBy_dI L
theorem decBy_rB (l : List UInt8) : decBy (l.map rB.enc) = some l := by
  induction l with
  | nil => rfl
  | cons b l ih =>
    rw [List.map_cons]
    show decBy ([D.int .u8 (b.toNat : Int)] :: _) = _
    rw [decBy, ih]
    simp

attribute [push_cast] Pl.at roomO lookO setO okO
attribute [push_cast high] tI_owned
attribute [push_cast] T.isD T.frB S.frzB mapT frzRoot tI_all tI_toD tI_set tI_kill decBy_sub decBy_sub' decBy_mm decBy_rB Nat.zero_add Nat.add_zero Nat.mul_one Nat.sub_zero T.toD List.replicate_succ List.replicate_zero

end Go.Am
end

section
namespace Go.Am

/-- a region's operations, over memory itself -/
structure SK (P : Program) (cs : CT) (all : List Oper) (g : G) (Q : Exit → S → Prop) (r : List Oper) (s : S) : Prop where
  out : cs.Ok P → opsC g.nt all r = true → AL P g all r Q s

section
variable {P : Program} {cs : CT} {all : List Oper} {g : G} {Q : Exit → S → Prop}

theorem SK_step {o : Oper} {r : List Oper} {s : S} (e : ∀ K : S → Prop, (∀ s', SK P cs all g Q r s' → K s') → stepK P cs all o s K) : SK P cs all g Q (o :: r) s := by
  refine ⟨fun hcs hc => ?_⟩
  simp only [opsC, Bool.and_eq_true] at hc
  obtain ⟨⟨hc1, hc2⟩, hc3⟩ := hc
  have h := e (AL P g all r Q) (fun s' h => h.out hcs hc3)
  unfold stepK at h
  cases hg : o.guard with
  | none =>
    rw [hg] at h
    exact AL_cons hg (AO_opK hcs hc1 h)
  | some q =>
    obtain ⟨j, want⟩ := q
    rw [hg] at h hc2
    dsimp only at h hc2
    cases hj : (all[j]?).bind (·.dst) with
    | none => rw [hj] at h; exact h.elim
    | some d =>
      rw [hj] at h hc2
      dsimp only at h hc2
      split at h
      · rename_i c hcc
        obtain ⟨h3, h4⟩ := gsel_dest h
        have hdst : okD g.nt o.dst = true := by
          unfold opC at hc1; rw [Bool.and_eq_true] at hc1; exact hc1.1
        exact AL_guard hg hj hcc hc2 hdst (fun e => AO_opK hcs hc1 (h3 e)) (fun e => h4 e)
      · rename_i hcc
        exact AL_unguard hg hj hcc (opC_dst hc1) h
      · exact h.elim

theorem stS {o : Oper} {r : List Oper} {s s' : S} (h : SK P cs all g Q r s')
    (e : ∀ K : S → Prop, K s' → stepK P cs all o s K := by intro K hK; simp only [push_cast, ↓reduceIte, Nat.reduceAdd, Nat.reduceSub, Nat.reduceMul, Nat.reduceEqDiff, Nat.reduceLeDiff, reduceCtorEq, Nat.reduceBEq, Nat.reduceLT, Int.reduceToNat, Int.reduceLE, hx]; intros; exact hK) : SK P cs all g Q (o :: r) s :=
  SK_step fun K hK => e K (hK _ h)

theorem stGS {o : Oper} {r : List Oper} {s s' : S} {p : Prop} (h : p → SK P cs all g Q r s')
    (e : ∀ K : S → Prop, (p → K s') → stepK P cs all o s K := by intro K hK; simp only [push_cast, ↓reduceIte, Nat.reduceAdd, Nat.reduceSub, Nat.reduceMul, Nat.reduceEqDiff, Nat.reduceLeDiff, reduceCtorEq, Nat.reduceBEq, Nat.reduceLT, Int.reduceToNat, Int.reduceLE, hx]; intro hp; exact hK hp) : SK P cs all g Q (o :: r) s :=
  SK_step fun K hK => e K (fun hp => hK _ (h hp))

/-- temporary t's slices are frozen -/
theorem frS (t : Nat) {r : List Oper} {s s1 : S} (h : SK P cs all g Q r s1)
    (e : ∀ K : S → Prop, K s1 → K (frzV s (getT s.t t)) := by intro K hK; simp only [push_cast, ↓reduceIte, Nat.reduceAdd, Nat.reduceSub, Nat.reduceMul, Nat.reduceEqDiff, Nat.reduceLeDiff, reduceCtorEq, Nat.reduceBEq, Nat.reduceLT, Int.reduceToNat, Int.reduceLE]; exact hK) : SK P cs all g Q r s := by
  refine ⟨fun hcs hc => ?_⟩
  have h2 := e (fun s' => AL P g all r Q s') (h.out hcs hc)
  intro a w ⟨H, γ, F, hX⟩
  obtain ⟨H', F', hX'⟩ := RX_frzV hX (getT s.t t)
  exact h2 a w ⟨H', γ, F', hX'⟩

theorem enS {s s1 : S} {ks : List Nat} {ds : List Nm} (h : Q .normal s1)
    (e : ∀ K : S → Prop, K s1 → K (s.cut ks ds) := by intro K hK; simp only [push_cast, ↓reduceIte, Nat.reduceAdd, Nat.reduceSub, Nat.reduceMul, Nat.reduceEqDiff, Nat.reduceLeDiff, reduceCtorEq, Nat.reduceBEq, Nat.reduceLT, Int.reduceToNat, Int.reduceLE]; exact hK) :
    SK P cs all g (fun e s => match e with | .normal => Q .normal (s.cut ks ds) | e => Q e s) [] s :=
  ⟨fun _ _ => AL_nil (e (fun s => Q .normal s) h)⟩

theorem rgS (ks : List Nat) (ds : List Nm) {s : S} {id : Nat} {l : List Oper} (h : SK P cs l g (fun e s => match e with | .normal => Q .normal (s.cut ks ds) | e => Q e s) l s)
    (hcs : cs.Ok P := by exact hcs)
    (hc : opsC g.nt l l = true := by rw [hn]; rfl) : AW P g (.region id l.toArray false) Q s :=
  AW_post (f := S.cut ks ds) (fun _ _ _ h => R_cut ks ds h) (AW_region (h.out hcs hc))
end
end Go.Am
end

section
open Go Go.Am
namespace Lt

structure Var where
  Name : List UInt8
  Type_ : List UInt8
  deriving Inhabited, DecidableEq

def Var.enc (x : Var) : List D := [.str x.Name, .str x.Type_]

def Var.dec : List D → Option Var
  | [.str v0, .str v1] => some ⟨v0, v1⟩
  | _ => none

theorem Var.dec_inv : ∀ (l : List D) (x : Var), Var.dec l = some x → l = x.enc := by
  intro l x h
  unfold Var.dec at h
  split at h
  · simp only [Option.some.injEq] at h; subst h; rfl
  · simp at h

def Var.rw : Rw Var := ⟨Var.enc, Var.dec, Var.dec_inv⟩

theorem Var.dec_enc (x : Var) : Var.rw.dec (Var.rw.enc x) = some x := by
  show Var.dec x.enc = some x
  simp only [Var.enc, Var.dec]

theorem decL_Var (l : List Var) : decL Var.rw (l.map Var.enc) = some l := decL_map Var.rw Var.dec_enc l

theorem Var.eta (x : Var) : (⟨x.Name, x.Type_⟩ : Var) = x := rfl

theorem Var.rwe (x : Var) : Var.rw.enc x = x.enc := rfl
theorem Var.rwd (l : List D) : Var.rw.dec l = Var.dec l := rfl

theorem Var.rwm : Var.rw.enc = Var.enc := rfl

theorem Var.rows (l : List Var) : (∀ x ∈ l.map Var.enc, x.length = 2) = True := by
  simp [Var.enc]

theorem okRows_Var (l : List Var) : okRows 2 (l.map Var.enc) = True := okRows_map 2 Var.enc l (fun _ => ⟨rfl, rfl⟩)
attribute [push_cast] okRows_Var

attribute [push_cast] Var.enc Var.dec decL_Var Var.eta Var.rwe Var.rwd Var.rwm Var.rows

structure Class where
  Name : List UInt8
  Fields : List Var
  deriving Inhabited, DecidableEq

def Class.enc (x : Class) : List D := [.str x.Name, .li (x.Fields.map Var.enc)]

def Class.dec : List D → Option Class
  | [.str v0, .li v1] => (decL Var.rw v1).bind fun w1 => some ⟨v0, w1⟩
  | _ => none

theorem Class.dec_inv : ∀ (l : List D) (x : Class), Class.dec l = some x → l = x.enc := by
  intro l x h
  unfold Class.dec at h
  split at h
  · simp only [Option.bind_eq_some_iff, Option.some.injEq] at h
    obtain ⟨w1, hw1, rfl⟩ := h
    rw [decL_inv hw1]; rfl
  · simp at h

def Class.rw : Rw Class := ⟨Class.enc, Class.dec, Class.dec_inv⟩

theorem Class.dec_enc (x : Class) : Class.rw.dec (Class.rw.enc x) = some x := by
  show Class.dec x.enc = some x
  simp only [Class.enc, Class.dec, Option.bind_some, decL_Var]

theorem decL_Class (l : List Class) : decL Class.rw (l.map Class.enc) = some l := decL_map Class.rw Class.dec_enc l

theorem Class.eta (x : Class) : (⟨x.Name, x.Fields⟩ : Class) = x := rfl

theorem Class.rwe (x : Class) : Class.rw.enc x = x.enc := rfl
theorem Class.rwd (l : List D) : Class.rw.dec l = Class.dec l := rfl

theorem Class.rwm : Class.rw.enc = Class.enc := rfl

theorem Class.rows (l : List Class) : (∀ x ∈ l.map Class.enc, x.length = 2) = True := by
  simp [Class.enc]

theorem okRows_Class (l : List Class) : okRows 2 (l.map Class.enc) = True := okRows_map 2 Class.enc l (fun _ => ⟨rfl, rfl⟩)
attribute [push_cast] okRows_Class

attribute [push_cast] Class.enc Class.dec decL_Class Class.eta Class.rwe Class.rwd Class.rwm Class.rows

structure Extern where
  Name : List UInt8
  N : Int
  deriving Inhabited, DecidableEq

def Extern.enc (x : Extern) : List D := [.str x.Name, .int .i64 x.N]

def Extern.dec : List D → Option Extern
  | [.str v0, .int .i64 v1] => some ⟨v0, v1⟩
  | _ => none

theorem Extern.dec_inv : ∀ (l : List D) (x : Extern), Extern.dec l = some x → l = x.enc := by
  intro l x h
  unfold Extern.dec at h
  split at h
  · simp only [Option.some.injEq] at h; subst h; rfl
  · simp at h

def Extern.rw : Rw Extern := ⟨Extern.enc, Extern.dec, Extern.dec_inv⟩

theorem Extern.dec_enc (x : Extern) : Extern.rw.dec (Extern.rw.enc x) = some x := by
  show Extern.dec x.enc = some x
  simp only [Extern.enc, Extern.dec]

theorem decL_Extern (l : List Extern) : decL Extern.rw (l.map Extern.enc) = some l := decL_map Extern.rw Extern.dec_enc l

theorem Extern.eta (x : Extern) : (⟨x.Name, x.N⟩ : Extern) = x := rfl

theorem Extern.rwe (x : Extern) : Extern.rw.enc x = x.enc := rfl
theorem Extern.rwd (l : List D) : Extern.rw.dec l = Extern.dec l := rfl

theorem Extern.rwm : Extern.rw.enc = Extern.enc := rfl

theorem Extern.rows (l : List Extern) : (∀ x ∈ l.map Extern.enc, x.length = 2) = True := by
  simp [Extern.enc]

theorem okRows_Extern (l : List Extern) : okRows 2 (l.map Extern.enc) = True := okRows_map 2 Extern.enc l (fun _ => ⟨rfl, rfl⟩)
attribute [push_cast] okRows_Extern

attribute [push_cast] Extern.enc Extern.dec decL_Extern Extern.eta Extern.rwe Extern.rwd Extern.rwm Extern.rows

structure Arg where
  Kind : Int
  S : List UInt8
  N : Int
  deriving Inhabited, DecidableEq

def Arg.enc (x : Arg) : List D := [.int .i64 x.Kind, .str x.S, .int .i64 x.N]

def Arg.dec : List D → Option Arg
  | [.int .i64 v0, .str v1, .int .i64 v2] => some ⟨v0, v1, v2⟩
  | _ => none

theorem Arg.dec_inv : ∀ (l : List D) (x : Arg), Arg.dec l = some x → l = x.enc := by
  intro l x h
  unfold Arg.dec at h
  split at h
  · simp only [Option.some.injEq] at h; subst h; rfl
  · simp at h

def Arg.rw : Rw Arg := ⟨Arg.enc, Arg.dec, Arg.dec_inv⟩

theorem Arg.dec_enc (x : Arg) : Arg.rw.dec (Arg.rw.enc x) = some x := by
  show Arg.dec x.enc = some x
  simp only [Arg.enc, Arg.dec]

theorem decL_Arg (l : List Arg) : decL Arg.rw (l.map Arg.enc) = some l := decL_map Arg.rw Arg.dec_enc l

theorem Arg.eta (x : Arg) : (⟨x.Kind, x.S, x.N⟩ : Arg) = x := rfl

theorem Arg.rwe (x : Arg) : Arg.rw.enc x = x.enc := rfl
theorem Arg.rwd (l : List D) : Arg.rw.dec l = Arg.dec l := rfl

theorem Arg.rwm : Arg.rw.enc = Arg.enc := rfl

theorem Arg.rows (l : List Arg) : (∀ x ∈ l.map Arg.enc, x.length = 3) = True := by
  simp [Arg.enc]

theorem okRows_Arg (l : List Arg) : okRows 3 (l.map Arg.enc) = True := okRows_map 3 Arg.enc l (fun _ => ⟨rfl, rfl⟩)
attribute [push_cast] okRows_Arg

attribute [push_cast] Arg.enc Arg.dec decL_Arg Arg.eta Arg.rwe Arg.rwd Arg.rwm Arg.rows

structure In where
  Block : List UInt8
  A : Arg
  deriving Inhabited, DecidableEq

def In.enc (x : In) : List D := [.str x.Block, .int .i64 x.A.Kind, .str x.A.S, .int .i64 x.A.N]

def In.dec : List D → Option In
  | [.str v0, .int .i64 v1, .str v2, .int .i64 v3] => some ⟨v0, ⟨v1, v2, v3⟩⟩
  | _ => none

theorem In.dec_inv : ∀ (l : List D) (x : In), In.dec l = some x → l = x.enc := by
  intro l x h
  unfold In.dec at h
  split at h
  · simp only [Option.some.injEq] at h; subst h; rfl
  · simp at h

def In.rw : Rw In := ⟨In.enc, In.dec, In.dec_inv⟩

theorem In.dec_enc (x : In) : In.rw.dec (In.rw.enc x) = some x := by
  show In.dec x.enc = some x
  simp only [In.enc, In.dec]

theorem decL_In (l : List In) : decL In.rw (l.map In.enc) = some l := decL_map In.rw In.dec_enc l

theorem In.eta (x : In) : (⟨x.Block, x.A⟩ : In) = x := rfl

theorem In.rwe (x : In) : In.rw.enc x = x.enc := rfl
theorem In.rwd (l : List D) : In.rw.dec l = In.dec l := rfl

theorem In.rwm : In.rw.enc = In.enc := rfl

theorem In.rows (l : List In) : (∀ x ∈ l.map In.enc, x.length = 4) = True := by
  simp [In.enc]

theorem okRows_In (l : List In) : okRows 4 (l.map In.enc) = True := okRows_map 4 In.enc l (fun _ => ⟨rfl, rfl⟩)
attribute [push_cast] okRows_In

attribute [push_cast] In.enc In.dec decL_In In.eta In.rwe In.rwd In.rwm In.rows

structure Phi where
  Dst : List UInt8
  Ins : List In
  deriving Inhabited, DecidableEq

def Phi.enc (x : Phi) : List D := [.str x.Dst, .li (x.Ins.map In.enc)]

def Phi.dec : List D → Option Phi
  | [.str v0, .li v1] => (decL In.rw v1).bind fun w1 => some ⟨v0, w1⟩
  | _ => none

theorem Phi.dec_inv : ∀ (l : List D) (x : Phi), Phi.dec l = some x → l = x.enc := by
  intro l x h
  unfold Phi.dec at h
  split at h
  · simp only [Option.bind_eq_some_iff, Option.some.injEq] at h
    obtain ⟨w1, hw1, rfl⟩ := h
    rw [decL_inv hw1]; rfl
  · simp at h

def Phi.rw : Rw Phi := ⟨Phi.enc, Phi.dec, Phi.dec_inv⟩

theorem Phi.dec_enc (x : Phi) : Phi.rw.dec (Phi.rw.enc x) = some x := by
  show Phi.dec x.enc = some x
  simp only [Phi.enc, Phi.dec, Option.bind_some, decL_In]

theorem decL_Phi (l : List Phi) : decL Phi.rw (l.map Phi.enc) = some l := decL_map Phi.rw Phi.dec_enc l

theorem Phi.eta (x : Phi) : (⟨x.Dst, x.Ins⟩ : Phi) = x := rfl

theorem Phi.rwe (x : Phi) : Phi.rw.enc x = x.enc := rfl
theorem Phi.rwd (l : List D) : Phi.rw.dec l = Phi.dec l := rfl

theorem Phi.rwm : Phi.rw.enc = Phi.enc := rfl

theorem Phi.rows (l : List Phi) : (∀ x ∈ l.map Phi.enc, x.length = 2) = True := by
  simp [Phi.enc]

theorem okRows_Phi (l : List Phi) : okRows 2 (l.map Phi.enc) = True := okRows_map 2 Phi.enc l (fun _ => ⟨rfl, rfl⟩)
attribute [push_cast] okRows_Phi

attribute [push_cast] Phi.enc Phi.dec decL_Phi Phi.eta Phi.rwe Phi.rwd Phi.rwm Phi.rows

structure Bind where
  Name : List UInt8
  A : Arg
  deriving Inhabited, DecidableEq

def Bind.enc (x : Bind) : List D := [.str x.Name, .int .i64 x.A.Kind, .str x.A.S, .int .i64 x.A.N]

def Bind.dec : List D → Option Bind
  | [.str v0, .int .i64 v1, .str v2, .int .i64 v3] => some ⟨v0, ⟨v1, v2, v3⟩⟩
  | _ => none

theorem Bind.dec_inv : ∀ (l : List D) (x : Bind), Bind.dec l = some x → l = x.enc := by
  intro l x h
  unfold Bind.dec at h
  split at h
  · simp only [Option.some.injEq] at h; subst h; rfl
  · simp at h

def Bind.rw : Rw Bind := ⟨Bind.enc, Bind.dec, Bind.dec_inv⟩

theorem Bind.dec_enc (x : Bind) : Bind.rw.dec (Bind.rw.enc x) = some x := by
  show Bind.dec x.enc = some x
  simp only [Bind.enc, Bind.dec]

theorem decL_Bind (l : List Bind) : decL Bind.rw (l.map Bind.enc) = some l := decL_map Bind.rw Bind.dec_enc l

theorem Bind.eta (x : Bind) : (⟨x.Name, x.A⟩ : Bind) = x := rfl

theorem Bind.rwe (x : Bind) : Bind.rw.enc x = x.enc := rfl
theorem Bind.rwd (l : List D) : Bind.rw.dec l = Bind.dec l := rfl

theorem Bind.rwm : Bind.rw.enc = Bind.enc := rfl

theorem Bind.rows (l : List Bind) : (∀ x ∈ l.map Bind.enc, x.length = 4) = True := by
  simp [Bind.enc]

theorem okRows_Bind (l : List Bind) : okRows 4 (l.map Bind.enc) = True := okRows_map 4 Bind.enc l (fun _ => ⟨rfl, rfl⟩)
attribute [push_cast] okRows_Bind

attribute [push_cast] Bind.enc Bind.dec decL_Bind Bind.eta Bind.rwe Bind.rwd Bind.rwm Bind.rows

structure Frame where
  Func : List UInt8
  Block : List UInt8
  At : Int
  Vars : List Bind
  deriving Inhabited, DecidableEq

def Frame.enc (x : Frame) : List D := [.str x.Func, .str x.Block, .int .i64 x.At, .li (x.Vars.map Bind.enc)]

def Frame.dec : List D → Option Frame
  | [.str v0, .str v1, .int .i64 v2, .li v3] => (decL Bind.rw v3).bind fun w3 => some ⟨v0, v1, v2, w3⟩
  | _ => none

theorem Frame.dec_inv : ∀ (l : List D) (x : Frame), Frame.dec l = some x → l = x.enc := by
  intro l x h
  unfold Frame.dec at h
  split at h
  · simp only [Option.bind_eq_some_iff, Option.some.injEq] at h
    obtain ⟨w3, hw3, rfl⟩ := h
    rw [decL_inv hw3]; rfl
  · simp at h

def Frame.rw : Rw Frame := ⟨Frame.enc, Frame.dec, Frame.dec_inv⟩

theorem Frame.dec_enc (x : Frame) : Frame.rw.dec (Frame.rw.enc x) = some x := by
  show Frame.dec x.enc = some x
  simp only [Frame.enc, Frame.dec, Option.bind_some, decL_Bind]

theorem decL_Frame (l : List Frame) : decL Frame.rw (l.map Frame.enc) = some l := decL_map Frame.rw Frame.dec_enc l

theorem Frame.eta (x : Frame) : (⟨x.Func, x.Block, x.At, x.Vars⟩ : Frame) = x := rfl

theorem Frame.rwe (x : Frame) : Frame.rw.enc x = x.enc := rfl
theorem Frame.rwd (l : List D) : Frame.rw.dec l = Frame.dec l := rfl

theorem Frame.rwm : Frame.rw.enc = Frame.enc := rfl

theorem Frame.rows (l : List Frame) : (∀ x ∈ l.map Frame.enc, x.length = 4) = True := by
  simp [Frame.enc]

theorem okRows_Frame (l : List Frame) : okRows 4 (l.map Frame.enc) = True := okRows_map 4 Frame.enc l (fun _ => ⟨rfl, rfl⟩)
attribute [push_cast] okRows_Frame

attribute [push_cast] Frame.enc Frame.dec decL_Frame Frame.eta Frame.rwe Frame.rwd Frame.rwm Frame.rows

structure Virt where
  Class : List UInt8
  Vals : List Arg
  deriving Inhabited, DecidableEq

def Virt.enc (x : Virt) : List D := [.str x.Class, .li (x.Vals.map Arg.enc)]

def Virt.dec : List D → Option Virt
  | [.str v0, .li v1] => (decL Arg.rw v1).bind fun w1 => some ⟨v0, w1⟩
  | _ => none

theorem Virt.dec_inv : ∀ (l : List D) (x : Virt), Virt.dec l = some x → l = x.enc := by
  intro l x h
  unfold Virt.dec at h
  split at h
  · simp only [Option.bind_eq_some_iff, Option.some.injEq] at h
    obtain ⟨w1, hw1, rfl⟩ := h
    rw [decL_inv hw1]; rfl
  · simp at h

def Virt.rw : Rw Virt := ⟨Virt.enc, Virt.dec, Virt.dec_inv⟩

theorem Virt.dec_enc (x : Virt) : Virt.rw.dec (Virt.rw.enc x) = some x := by
  show Virt.dec x.enc = some x
  simp only [Virt.enc, Virt.dec, Option.bind_some, decL_Arg]

theorem decL_Virt (l : List Virt) : decL Virt.rw (l.map Virt.enc) = some l := decL_map Virt.rw Virt.dec_enc l

theorem Virt.eta (x : Virt) : (⟨x.Class, x.Vals⟩ : Virt) = x := rfl

theorem Virt.rwe (x : Virt) : Virt.rw.enc x = x.enc := rfl
theorem Virt.rwd (l : List D) : Virt.rw.dec l = Virt.dec l := rfl

theorem Virt.rwm : Virt.rw.enc = Virt.enc := rfl

theorem Virt.rows (l : List Virt) : (∀ x ∈ l.map Virt.enc, x.length = 2) = True := by
  simp [Virt.enc]

theorem okRows_Virt (l : List Virt) : okRows 2 (l.map Virt.enc) = True := okRows_map 2 Virt.enc l (fun _ => ⟨rfl, rfl⟩)
attribute [push_cast] okRows_Virt

attribute [push_cast] Virt.enc Virt.dec decL_Virt Virt.eta Virt.rwe Virt.rwd Virt.rwm Virt.rows

structure Instr where
  Op : Int
  Dst : List UInt8
  Name : List UInt8
  Args : List Arg
  Frames : List Frame
  Objs : List Virt
  deriving Inhabited, DecidableEq

def Instr.enc (x : Instr) : List D := [.int .i64 x.Op, .str x.Dst, .str x.Name, .li (x.Args.map Arg.enc), .li (x.Frames.map Frame.enc), .li (x.Objs.map Virt.enc)]

def Instr.dec : List D → Option Instr
  | [.int .i64 v0, .str v1, .str v2, .li v3, .li v4, .li v5] => (decL Arg.rw v3).bind fun w3 => (decL Frame.rw v4).bind fun w4 => (decL Virt.rw v5).bind fun w5 => some ⟨v0, v1, v2, w3, w4, w5⟩
  | _ => none

theorem Instr.dec_inv : ∀ (l : List D) (x : Instr), Instr.dec l = some x → l = x.enc := by
  intro l x h
  unfold Instr.dec at h
  split at h
  · simp only [Option.bind_eq_some_iff, Option.some.injEq] at h
    obtain ⟨w3, hw3, w4, hw4, w5, hw5, rfl⟩ := h
    rw [decL_inv hw3, decL_inv hw4, decL_inv hw5]; rfl
  · simp at h

def Instr.rw : Rw Instr := ⟨Instr.enc, Instr.dec, Instr.dec_inv⟩

theorem Instr.dec_enc (x : Instr) : Instr.rw.dec (Instr.rw.enc x) = some x := by
  show Instr.dec x.enc = some x
  simp only [Instr.enc, Instr.dec, Option.bind_some, decL_Arg, decL_Frame, decL_Virt]

theorem decL_Instr (l : List Instr) : decL Instr.rw (l.map Instr.enc) = some l := decL_map Instr.rw Instr.dec_enc l

theorem Instr.eta (x : Instr) : (⟨x.Op, x.Dst, x.Name, x.Args, x.Frames, x.Objs⟩ : Instr) = x := rfl

theorem Instr.rwe (x : Instr) : Instr.rw.enc x = x.enc := rfl
theorem Instr.rwd (l : List D) : Instr.rw.dec l = Instr.dec l := rfl

theorem Instr.rwm : Instr.rw.enc = Instr.enc := rfl

theorem Instr.rows (l : List Instr) : (∀ x ∈ l.map Instr.enc, x.length = 6) = True := by
  simp [Instr.enc]

theorem okRows_Instr (l : List Instr) : okRows 6 (l.map Instr.enc) = True := okRows_map 6 Instr.enc l (fun _ => ⟨rfl, rfl⟩)
attribute [push_cast] okRows_Instr

attribute [push_cast] Instr.enc Instr.dec decL_Instr Instr.eta Instr.rwe Instr.rwd Instr.rwm Instr.rows

structure Term where
  Kind : Int
  A : Arg
  To : List (List UInt8)
  N : Int
  deriving Inhabited, DecidableEq

def Term.enc (x : Term) : List D := [.int .i64 x.Kind, .int .i64 x.A.Kind, .str x.A.S, .int .i64 x.A.N, .li (x.To.map rS.enc), .int .i64 x.N]

def Term.dec : List D → Option Term
  | [.int .i64 v0, .int .i64 v1, .str v2, .int .i64 v3, .li v4, .int .i64 v5] => (decL rS v4).bind fun w4 => some ⟨v0, ⟨v1, v2, v3⟩, w4, v5⟩
  | _ => none

theorem Term.dec_inv : ∀ (l : List D) (x : Term), Term.dec l = some x → l = x.enc := by
  intro l x h
  unfold Term.dec at h
  split at h
  · simp only [Option.bind_eq_some_iff, Option.some.injEq] at h
    obtain ⟨w4, hw4, rfl⟩ := h
    rw [decL_inv hw4]; rfl
  · simp at h

def Term.rw : Rw Term := ⟨Term.enc, Term.dec, Term.dec_inv⟩

theorem Term.dec_enc (x : Term) : Term.rw.dec (Term.rw.enc x) = some x := by
  show Term.dec x.enc = some x
  simp only [Term.enc, Term.dec, Option.bind_some, decL_rS]

theorem decL_Term (l : List Term) : decL Term.rw (l.map Term.enc) = some l := decL_map Term.rw Term.dec_enc l

theorem Term.eta (x : Term) : (⟨x.Kind, x.A, x.To, x.N⟩ : Term) = x := rfl

theorem Term.rwe (x : Term) : Term.rw.enc x = x.enc := rfl
theorem Term.rwd (l : List D) : Term.rw.dec l = Term.dec l := rfl

theorem Term.rwm : Term.rw.enc = Term.enc := rfl

theorem Term.rows (l : List Term) : (∀ x ∈ l.map Term.enc, x.length = 6) = True := by
  simp [Term.enc]

theorem okRows_Term (l : List Term) : okRows 6 (l.map Term.enc) = True := okRows_map 6 Term.enc l (fun _ => ⟨rfl, rfl⟩)
attribute [push_cast] okRows_Term

attribute [push_cast] Term.enc Term.dec decL_Term Term.eta Term.rwe Term.rwd Term.rwm Term.rows

structure Block where
  Name : List UInt8
  Phis : List Phi
  Code : List Instr
  End : Term
  deriving Inhabited, DecidableEq

def Block.enc (x : Block) : List D := [.str x.Name, .li (x.Phis.map Phi.enc), .li (x.Code.map Instr.enc), .int .i64 x.End.Kind, .int .i64 x.End.A.Kind, .str x.End.A.S, .int .i64 x.End.A.N, .li (x.End.To.map rS.enc), .int .i64 x.End.N]

def Block.dec : List D → Option Block
  | [.str v0, .li v1, .li v2, .int .i64 v3, .int .i64 v4, .str v5, .int .i64 v6, .li v7, .int .i64 v8] => (decL Phi.rw v1).bind fun w1 => (decL Instr.rw v2).bind fun w2 => (decL rS v7).bind fun w7 => some ⟨v0, w1, w2, ⟨v3, ⟨v4, v5, v6⟩, w7, v8⟩⟩
  | _ => none

theorem Block.dec_inv : ∀ (l : List D) (x : Block), Block.dec l = some x → l = x.enc := by
  intro l x h
  unfold Block.dec at h
  split at h
  · simp only [Option.bind_eq_some_iff, Option.some.injEq] at h
    obtain ⟨w1, hw1, w2, hw2, w7, hw7, rfl⟩ := h
    rw [decL_inv hw1, decL_inv hw2, decL_inv hw7]; rfl
  · simp at h

def Block.rw : Rw Block := ⟨Block.enc, Block.dec, Block.dec_inv⟩

theorem Block.dec_enc (x : Block) : Block.rw.dec (Block.rw.enc x) = some x := by
  show Block.dec x.enc = some x
  simp only [Block.enc, Block.dec, Option.bind_some, decL_Instr, decL_Phi, decL_rS]

theorem decL_Block (l : List Block) : decL Block.rw (l.map Block.enc) = some l := decL_map Block.rw Block.dec_enc l

theorem Block.eta (x : Block) : (⟨x.Name, x.Phis, x.Code, x.End⟩ : Block) = x := rfl

theorem Block.rwe (x : Block) : Block.rw.enc x = x.enc := rfl
theorem Block.rwd (l : List D) : Block.rw.dec l = Block.dec l := rfl

theorem Block.rwm : Block.rw.enc = Block.enc := rfl

theorem Block.rows (l : List Block) : (∀ x ∈ l.map Block.enc, x.length = 9) = True := by
  simp [Block.enc]

theorem okRows_Block (l : List Block) : okRows 9 (l.map Block.enc) = True := okRows_map 9 Block.enc l (fun _ => ⟨rfl, rfl⟩)
attribute [push_cast] okRows_Block

attribute [push_cast] Block.enc Block.dec decL_Block Block.eta Block.rwe Block.rwd Block.rwm Block.rows

structure Func where
  Name : List UInt8
  Result : List UInt8
  Params : List Var
  Vars : List Var
  Blocks : List Block
  deriving Inhabited, DecidableEq

def Func.enc (x : Func) : List D := [.str x.Name, .str x.Result, .li (x.Params.map Var.enc), .li (x.Vars.map Var.enc), .li (x.Blocks.map Block.enc)]

def Func.dec : List D → Option Func
  | [.str v0, .str v1, .li v2, .li v3, .li v4] => (decL Var.rw v2).bind fun w2 => (decL Var.rw v3).bind fun w3 => (decL Block.rw v4).bind fun w4 => some ⟨v0, v1, w2, w3, w4⟩
  | _ => none

theorem Func.dec_inv : ∀ (l : List D) (x : Func), Func.dec l = some x → l = x.enc := by
  intro l x h
  unfold Func.dec at h
  split at h
  · simp only [Option.bind_eq_some_iff, Option.some.injEq] at h
    obtain ⟨w2, hw2, w3, hw3, w4, hw4, rfl⟩ := h
    rw [decL_inv hw2, decL_inv hw3, decL_inv hw4]; rfl
  · simp at h

def Func.rw : Rw Func := ⟨Func.enc, Func.dec, Func.dec_inv⟩

theorem Func.dec_enc (x : Func) : Func.rw.dec (Func.rw.enc x) = some x := by
  show Func.dec x.enc = some x
  simp only [Func.enc, Func.dec, Option.bind_some, decL_Block, decL_Var]

theorem decL_Func (l : List Func) : decL Func.rw (l.map Func.enc) = some l := decL_map Func.rw Func.dec_enc l

theorem Func.eta (x : Func) : (⟨x.Name, x.Result, x.Params, x.Vars, x.Blocks⟩ : Func) = x := rfl

theorem Func.rwe (x : Func) : Func.rw.enc x = x.enc := rfl
theorem Func.rwd (l : List D) : Func.rw.dec l = Func.dec l := rfl

theorem Func.rwm : Func.rw.enc = Func.enc := rfl

theorem Func.rows (l : List Func) : (∀ x ∈ l.map Func.enc, x.length = 5) = True := by
  simp [Func.enc]

theorem okRows_Func (l : List Func) : okRows 5 (l.map Func.enc) = True := okRows_map 5 Func.enc l (fun _ => ⟨rfl, rfl⟩)
attribute [push_cast] okRows_Func

attribute [push_cast] Func.enc Func.dec decL_Func Func.eta Func.rwe Func.rwd Func.rwm Func.rows

structure Program where
  SSA : Bool
  Classes : List Class
  Globals : List Var
  Externs : List Extern
  Funcs : List Func
  deriving Inhabited, DecidableEq

def Program.enc (x : Program) : List D := [.bool x.SSA, .li (x.Classes.map Class.enc), .li (x.Globals.map Var.enc), .li (x.Externs.map Extern.enc), .li (x.Funcs.map Func.enc)]

def Program.dec : List D → Option Program
  | [.bool v0, .li v1, .li v2, .li v3, .li v4] => (decL Class.rw v1).bind fun w1 => (decL Var.rw v2).bind fun w2 => (decL Extern.rw v3).bind fun w3 => (decL Func.rw v4).bind fun w4 => some ⟨v0, w1, w2, w3, w4⟩
  | _ => none

theorem Program.dec_inv : ∀ (l : List D) (x : Program), Program.dec l = some x → l = x.enc := by
  intro l x h
  unfold Program.dec at h
  split at h
  · simp only [Option.bind_eq_some_iff, Option.some.injEq] at h
    obtain ⟨w1, hw1, w2, hw2, w3, hw3, w4, hw4, rfl⟩ := h
    rw [decL_inv hw1, decL_inv hw2, decL_inv hw3, decL_inv hw4]; rfl
  · simp at h

def Program.rw : Rw Program := ⟨Program.enc, Program.dec, Program.dec_inv⟩

theorem Program.dec_enc (x : Program) : Program.rw.dec (Program.rw.enc x) = some x := by
  show Program.dec x.enc = some x
  simp only [Program.enc, Program.dec, Option.bind_some, decL_Class, decL_Extern, decL_Func, decL_Var]

theorem decL_Program (l : List Program) : decL Program.rw (l.map Program.enc) = some l := decL_map Program.rw Program.dec_enc l

theorem Program.eta (x : Program) : (⟨x.SSA, x.Classes, x.Globals, x.Externs, x.Funcs⟩ : Program) = x := rfl

theorem Program.rwe (x : Program) : Program.rw.enc x = x.enc := rfl
theorem Program.rwd (l : List D) : Program.rw.dec l = Program.dec l := rfl

theorem Program.rwm : Program.rw.enc = Program.enc := rfl

theorem Program.rows (l : List Program) : (∀ x ∈ l.map Program.enc, x.length = 5) = True := by
  simp [Program.enc]

theorem okRows_Program (l : List Program) : okRows 5 (l.map Program.enc) = True := okRows_map 5 Program.enc l (fun _ => ⟨rfl, rfl⟩)
attribute [push_cast] okRows_Program

attribute [push_cast] Program.enc Program.dec decL_Program Program.eta Program.rwe Program.rwd Program.rwm Program.rows

structure Line where
  N : Int
  Words : List (List UInt8)
  deriving Inhabited, DecidableEq

def Line.enc (x : Line) : List D := [.int .i64 x.N, .li (x.Words.map rS.enc)]

def Line.dec : List D → Option Line
  | [.int .i64 v0, .li v1] => (decL rS v1).bind fun w1 => some ⟨v0, w1⟩
  | _ => none

theorem Line.dec_inv : ∀ (l : List D) (x : Line), Line.dec l = some x → l = x.enc := by
  intro l x h
  unfold Line.dec at h
  split at h
  · simp only [Option.bind_eq_some_iff, Option.some.injEq] at h
    obtain ⟨w1, hw1, rfl⟩ := h
    rw [decL_inv hw1]; rfl
  · simp at h

def Line.rw : Rw Line := ⟨Line.enc, Line.dec, Line.dec_inv⟩

theorem Line.dec_enc (x : Line) : Line.rw.dec (Line.rw.enc x) = some x := by
  show Line.dec x.enc = some x
  simp only [Line.enc, Line.dec, Option.bind_some, decL_rS]

theorem decL_Line (l : List Line) : decL Line.rw (l.map Line.enc) = some l := decL_map Line.rw Line.dec_enc l

theorem Line.eta (x : Line) : (⟨x.N, x.Words⟩ : Line) = x := rfl

theorem Line.rwe (x : Line) : Line.rw.enc x = x.enc := rfl
theorem Line.rwd (l : List D) : Line.rw.dec l = Line.dec l := rfl

theorem Line.rwm : Line.rw.enc = Line.enc := rfl

theorem Line.rows (l : List Line) : (∀ x ∈ l.map Line.enc, x.length = 2) = True := by
  simp [Line.enc]

theorem okRows_Line (l : List Line) : okRows 2 (l.map Line.enc) = True := okRows_map 2 Line.enc l (fun _ => ⟨rfl, rfl⟩)
attribute [push_cast] okRows_Line

attribute [push_cast] Line.enc Line.dec decL_Line Line.eta Line.rwe Line.rwd Line.rwm Line.rows

structure Sheet where
  l : List Line
  deriving Inhabited, DecidableEq

def Sheet.enc (x : Sheet) : List D := [.li (x.l.map Line.enc)]

def Sheet.dec : List D → Option Sheet
  | [.li v0] => (decL Line.rw v0).bind fun w0 => some ⟨w0⟩
  | _ => none

theorem Sheet.dec_inv : ∀ (l : List D) (x : Sheet), Sheet.dec l = some x → l = x.enc := by
  intro l x h
  unfold Sheet.dec at h
  split at h
  · simp only [Option.bind_eq_some_iff, Option.some.injEq] at h
    obtain ⟨w0, hw0, rfl⟩ := h
    rw [decL_inv hw0]; rfl
  · simp at h

def Sheet.rw : Rw Sheet := ⟨Sheet.enc, Sheet.dec, Sheet.dec_inv⟩

theorem Sheet.dec_enc (x : Sheet) : Sheet.rw.dec (Sheet.rw.enc x) = some x := by
  show Sheet.dec x.enc = some x
  simp only [Sheet.enc, Sheet.dec, Option.bind_some, decL_Line]

theorem decL_Sheet (l : List Sheet) : decL Sheet.rw (l.map Sheet.enc) = some l := decL_map Sheet.rw Sheet.dec_enc l

theorem Sheet.eta (x : Sheet) : (⟨x.l⟩ : Sheet) = x := rfl

theorem Sheet.rwe (x : Sheet) : Sheet.rw.enc x = x.enc := rfl
theorem Sheet.rwd (l : List D) : Sheet.rw.dec l = Sheet.dec l := rfl

theorem Sheet.rwm : Sheet.rw.enc = Sheet.enc := rfl

theorem Sheet.rows (l : List Sheet) : (∀ x ∈ l.map Sheet.enc, x.length = 1) = True := by
  simp [Sheet.enc]

theorem okRows_Sheet (l : List Sheet) : okRows 1 (l.map Sheet.enc) = True := okRows_map 1 Sheet.enc l (fun _ => ⟨rfl, rfl⟩)
attribute [push_cast] okRows_Sheet

attribute [push_cast] Sheet.enc Sheet.dec decL_Sheet Sheet.eta Sheet.rwe Sheet.rwd Sheet.rwm Sheet.rows

structure Form where
  Word : List UInt8
  Dst : Bool
  Named : Bool
  Least : Int
  Most : Int
  deriving Inhabited, DecidableEq

def Form.enc (x : Form) : List D := [.str x.Word, .bool x.Dst, .bool x.Named, .int .i64 x.Least, .int .i64 x.Most]

def Form.dec : List D → Option Form
  | [.str v0, .bool v1, .bool v2, .int .i64 v3, .int .i64 v4] => some ⟨v0, v1, v2, v3, v4⟩
  | _ => none

theorem Form.dec_inv : ∀ (l : List D) (x : Form), Form.dec l = some x → l = x.enc := by
  intro l x h
  unfold Form.dec at h
  split at h
  · simp only [Option.some.injEq] at h; subst h; rfl
  · simp at h

def Form.rw : Rw Form := ⟨Form.enc, Form.dec, Form.dec_inv⟩

theorem Form.dec_enc (x : Form) : Form.rw.dec (Form.rw.enc x) = some x := by
  show Form.dec x.enc = some x
  simp only [Form.enc, Form.dec]

theorem decL_Form (l : List Form) : decL Form.rw (l.map Form.enc) = some l := decL_map Form.rw Form.dec_enc l

theorem Form.eta (x : Form) : (⟨x.Word, x.Dst, x.Named, x.Least, x.Most⟩ : Form) = x := rfl

theorem Form.rwe (x : Form) : Form.rw.enc x = x.enc := rfl
theorem Form.rwd (l : List D) : Form.rw.dec l = Form.dec l := rfl

theorem Form.rwm : Form.rw.enc = Form.enc := rfl

theorem Form.rows (l : List Form) : (∀ x ∈ l.map Form.enc, x.length = 5) = True := by
  simp [Form.enc]

theorem okRows_Form (l : List Form) : okRows 5 (l.map Form.enc) = True := okRows_map 5 Form.enc l (fun _ => ⟨rfl, rfl⟩)
attribute [push_cast] okRows_Form

attribute [push_cast] Form.enc Form.dec decL_Form Form.eta Form.rwe Form.rwd Form.rwm Form.rows

def Sheet.cenc (x : Sheet) : List T := [.ow [.fr, .fr] (x.l.map Line.enc)]
def Sheet.cdec : List T → Option Sheet
  | [.ow sub v0] => if sub.all Sh.isFr = true ∧ sub.length = 2 then (decL Line.rw v0).bind fun w0 => some ⟨w0⟩ else none
  | [.nil] => some ⟨[]⟩
  | _ => none
theorem Sheet.cs_inv (l : List T) (x : Sheet) (h : Sheet.cdec l = some x) : ownCells [(0, [.fr, .fr])] l = x.cenc := by
  unfold Sheet.cdec at h
  split at h
  · split at h
    · rename_i sub v0 hs
      simp only [Option.bind_eq_some_iff, Option.some.injEq] at h
      obtain ⟨w0, h0, rfl⟩ := h
      rw [decL_inv h0]
      have e : sub = [.fr, .fr] := by rw [allFr hs.1, hs.2]; rfl
      subst e; rfl
    · simp at h
  · simp only [Option.some.injEq] at h; subst h; rfl
  · simp at h
theorem Sheet.cs_ren (l : List T) (x : Sheet) (n : Nm) (h : Sheet.cdec l = some x) : Sheet.cdec (l.map (T.ren n (.out 0))) = some x := by
  unfold Sheet.cdec at h
  split at h
  · exact h
  · exact h
  · simp at h
def Sheet.cs : Cs1 Sheet := ⟨0, Sheet.cenc, Sheet.cdec, [(0, [.fr, .fr])], Sheet.cs_inv, fun _ => rfl, Sheet.cs_ren⟩
theorem Sheet.cs_enc (x : Sheet) : Sheet.cs.enc x = x.cenc := rfl
theorem Sheet.cs_dec (l : List T) : Sheet.cs.dec l = Sheet.cdec l := rfl
attribute [push_cast] Sheet.cs_enc Sheet.cs_dec Sheet.cenc Sheet.cdec

theorem rS_rows (l : List (List UInt8)) : (∀ x ∈ l.map rS.enc, x.length = 1) = True := by simp [rS]
attribute [push_cast] rS_rows
end Lt
end

section
namespace Go.Am
open Go.Proofs

theorem ty2 : ty Try.prog 2 = ⟨true, false, 1, 8, .int .i64⟩ := by kernel_rfl
theorem ty3 : ty Try.prog 3 = ⟨true, false, 1, 8, .int .i64⟩ := by kernel_rfl
theorem ty4 : ty Try.prog 4 = ⟨true, false, 1, 1, .bool⟩ := by kernel_rfl
theorem ty5 : ty Try.prog 5 = ⟨true, false, 1, 1, .int .u8⟩ := by kernel_rfl
theorem ty9 : ty Try.prog 9 = ⟨true, false, 1, 16, .str⟩ := by kernel_rfl
theorem ty22 : ty Try.prog 22 = ⟨true, false, 1, 24, .sl 51⟩ := by kernel_rfl
theorem ty23 : ty Try.prog 23 = ⟨true, false, 1, 24, .sl 70⟩ := by kernel_rfl
theorem ty24 : ty Try.prog 24 = ⟨true, false, 1, 24, .sl 53⟩ := by kernel_rfl
theorem ty25 : ty Try.prog 25 = ⟨true, false, 1, 24, .sl 33⟩ := by kernel_rfl
theorem ty27 : ty Try.prog 27 = ⟨true, true, 5, 104, .st [(0, 1, some false), (1, 1, some false), (2, 1, some false), (3, 1, some false), (4, 1, some false)]⟩ := by kernel_rfl
theorem ty31 : ty Try.prog 31 = ⟨true, false, 1, 24, .sl 42⟩ := by kernel_rfl
theorem ty33 : ty Try.prog 33 = ⟨true, true, 5, 104, .st [(0, 1, some false), (1, 1, some false), (2, 1, some false), (3, 1, some false), (4, 1, some false)]⟩ := by kernel_rfl
theorem ty34 : ty Try.prog 34 = ⟨true, false, 1, 24, .sl 9⟩ := by kernel_rfl
theorem ty36 : ty Try.prog 36 = ⟨true, true, 3, 32, .st [(0, 1, some false), (1, 1, some false), (2, 1, some false)]⟩ := by kernel_rfl
theorem ty38 : ty Try.prog 38 = ⟨true, true, 6, 72, .st [(0, 1, some false), (1, 3, some true), (4, 1, some false), (5, 1, some false)]⟩ := by kernel_rfl
theorem ty39 : ty Try.prog 39 = ⟨true, false, 1, 24, .sl 79⟩ := by kernel_rfl
theorem ty40 : ty Try.prog 40 = ⟨true, false, 1, 24, .sl 87⟩ := by kernel_rfl
theorem ty42 : ty Try.prog 42 = ⟨true, true, 9, 136, .st [(0, 1, some false), (1, 1, some false), (2, 1, some false), (3, 6, some true)]⟩ := by kernel_rfl
theorem ty44 : ty Try.prog 44 = ⟨true, false, 1, 8, .int .i64⟩ := by kernel_rfl
theorem ty51 : ty Try.prog 51 = ⟨true, true, 2, 40, .st [(0, 1, some false), (1, 1, some false)]⟩ := by kernel_rfl
theorem ty53 : ty Try.prog 53 = ⟨true, true, 2, 24, .st [(0, 1, some false), (1, 1, some false)]⟩ := by kernel_rfl
theorem ty59 : ty Try.prog 59 = ⟨true, false, 1, 24, .sl 75⟩ := by kernel_rfl
theorem ty61 : ty Try.prog 61 = ⟨true, true, 1, 24, .st [(0, 1, some false)]⟩ := by kernel_rfl
theorem ty70 : ty Try.prog 70 = ⟨true, true, 2, 32, .st [(0, 1, some false), (1, 1, some false)]⟩ := by kernel_rfl
theorem ty75 : ty Try.prog 75 = ⟨true, true, 2, 32, .st [(0, 1, some false), (1, 1, some false)]⟩ := by kernel_rfl
theorem ty77 : ty Try.prog 77 = ⟨true, false, 1, 24, .sl 81⟩ := by kernel_rfl
theorem ty79 : ty Try.prog 79 = ⟨true, true, 2, 40, .st [(0, 1, some false), (1, 1, some false)]⟩ := by kernel_rfl
theorem ty81 : ty Try.prog 81 = ⟨true, true, 4, 48, .st [(0, 1, some false), (1, 3, some true)]⟩ := by kernel_rfl
theorem ty83 : ty Try.prog 83 = ⟨true, false, 1, 24, .sl 36⟩ := by kernel_rfl
theorem ty84 : ty Try.prog 84 = ⟨true, false, 1, 24, .sl 115⟩ := by kernel_rfl
theorem ty85 : ty Try.prog 85 = ⟨true, false, 1, 24, .sl 119⟩ := by kernel_rfl
theorem ty87 : ty Try.prog 87 = ⟨true, true, 6, 112, .st [(0, 1, some false), (1, 1, some false), (2, 1, some false), (3, 1, some false), (4, 1, some false), (5, 1, some false)]⟩ := by kernel_rfl
theorem ty91 : ty Try.prog 91 = ⟨true, false, 1, 24, .sl 5⟩ := by kernel_rfl
theorem ty93 : ty Try.prog 93 = ⟨true, true, 2, 32, .st [(0, 1, some false), (1, 1, some false)]⟩ := by kernel_rfl
theorem ty105 : ty Try.prog 105 = ⟨true, true, 20, 20, .ar 20 5⟩ := by kernel_rfl
theorem ty109 : ty Try.prog 109 = ⟨true, true, 5, 40, .st [(0, 1, some false), (1, 1, some false), (2, 1, some false), (3, 1, some false), (4, 1, some false)]⟩ := by kernel_rfl
theorem ty113 : ty Try.prog 113 = ⟨true, false, 1, 24, .sl 117⟩ := by kernel_rfl
theorem ty115 : ty Try.prog 115 = ⟨true, true, 4, 64, .st [(0, 1, some false), (1, 1, some false), (2, 1, some false), (3, 1, some false)]⟩ := by kernel_rfl
theorem ty117 : ty Try.prog 117 = ⟨true, true, 4, 48, .st [(0, 1, some false), (1, 3, some true)]⟩ := by kernel_rfl
theorem ty119 : ty Try.prog 119 = ⟨true, true, 2, 40, .st [(0, 1, some false), (1, 1, some false)]⟩ := by kernel_rfl
theorem ty126 : ty Try.prog 126 = ⟨true, false, 1, 8, .int .u64⟩ := by kernel_rfl
theorem ty127 : ty Try.prog 127 = ⟨true, false, 1, 8, .int .u64⟩ := by kernel_rfl
theorem zc5 : zcells Try.prog 5 = some [.int .u8 0] := by kernel_rfl
theorem zc9 : zcells Try.prog 9 = some [.string ⟨#[]⟩] := by kernel_rfl
theorem zc27 : zcells Try.prog 27 = some [.bool false, .slice none 0 0, .slice none 0 0, .slice none 0 0, .slice none 0 0] := by kernel_rfl
theorem zc33 : zcells Try.prog 33 = some [.string ⟨#[]⟩, .string ⟨#[]⟩, .slice none 0 0, .slice none 0 0, .slice none 0 0] := by kernel_rfl
theorem zc36 : zcells Try.prog 36 = some [.int .i64 0, .string ⟨#[]⟩, .int .i64 0] := by kernel_rfl
theorem zc42 : zcells Try.prog 42 = some [.string ⟨#[]⟩, .slice none 0 0, .slice none 0 0, .int .i64 0, .int .i64 0, .string ⟨#[]⟩, .int .i64 0, .slice none 0 0, .int .i64 0] := by kernel_rfl
theorem zc51 : zcells Try.prog 51 = some [.string ⟨#[]⟩, .slice none 0 0] := by kernel_rfl
theorem zc53 : zcells Try.prog 53 = some [.string ⟨#[]⟩, .int .i64 0] := by kernel_rfl
theorem zc70 : zcells Try.prog 70 = some [.string ⟨#[]⟩, .string ⟨#[]⟩] := by kernel_rfl
theorem zc75 : zcells Try.prog 75 = some [.int .i64 0, .slice none 0 0] := by kernel_rfl
theorem zc79 : zcells Try.prog 79 = some [.string ⟨#[]⟩, .slice none 0 0] := by kernel_rfl
theorem zc81 : zcells Try.prog 81 = some [.string ⟨#[]⟩, .int .i64 0, .string ⟨#[]⟩, .int .i64 0] := by kernel_rfl
theorem zc87 : zcells Try.prog 87 = some [.int .i64 0, .string ⟨#[]⟩, .string ⟨#[]⟩, .slice none 0 0, .slice none 0 0, .slice none 0 0] := by kernel_rfl
theorem zc93 : zcells Try.prog 93 = some [.pointer none, .slice none 0 0] := by kernel_rfl
theorem zc105 : zcells Try.prog 105 = some [.int .u8 0, .int .u8 0, .int .u8 0, .int .u8 0, .int .u8 0, .int .u8 0, .int .u8 0, .int .u8 0, .int .u8 0, .int .u8 0, .int .u8 0, .int .u8 0, .int .u8 0, .int .u8 0, .int .u8 0, .int .u8 0, .int .u8 0, .int .u8 0, .int .u8 0, .int .u8 0] := by kernel_rfl
theorem zc109 : zcells Try.prog 109 = some [.string ⟨#[]⟩, .bool false, .bool false, .int .i64 0, .int .i64 0] := by kernel_rfl
theorem zc115 : zcells Try.prog 115 = some [.string ⟨#[]⟩, .string ⟨#[]⟩, .int .i64 0, .slice none 0 0] := by kernel_rfl
theorem zc117 : zcells Try.prog 117 = some [.string ⟨#[]⟩, .int .i64 0, .string ⟨#[]⟩, .int .i64 0] := by kernel_rfl
theorem zc119 : zcells Try.prog 119 = some [.string ⟨#[]⟩, .slice none 0 0] := by kernel_rfl
theorem zs27 : zst Try.prog 27 = some ([.bool false, .slice none 0 0, .slice none 0 0, .slice none 0 0, .slice none 0 0], [(0, 1), (1, 1), (2, 1), (3, 1), (4, 1)]) := by kernel_rfl
theorem zs33 : zst Try.prog 33 = some ([.string ⟨#[]⟩, .string ⟨#[]⟩, .slice none 0 0, .slice none 0 0, .slice none 0 0], [(0, 1), (1, 1), (2, 1), (3, 1), (4, 1)]) := by kernel_rfl
theorem zs36 : zst Try.prog 36 = some ([.int .i64 0, .string ⟨#[]⟩, .int .i64 0], [(0, 1), (1, 1), (2, 1)]) := by kernel_rfl
theorem zs38 : zst Try.prog 38 = some ([.int .i64 0, .int .i64 0, .string ⟨#[]⟩, .int .i64 0, .slice none 0 0, .int .i64 0], [(0, 1), (1, 3), (4, 1), (5, 1)]) := by kernel_rfl
theorem zs42 : zst Try.prog 42 = some ([.string ⟨#[]⟩, .slice none 0 0, .slice none 0 0, .int .i64 0, .int .i64 0, .string ⟨#[]⟩, .int .i64 0, .slice none 0 0, .int .i64 0], [(0, 1), (1, 1), (2, 1), (3, 6)]) := by kernel_rfl
theorem zs61 : zst Try.prog 61 = some ([.slice none 0 0], [(0, 1)]) := by kernel_rfl
theorem zs75 : zst Try.prog 75 = some ([.int .i64 0, .slice none 0 0], [(0, 1), (1, 1)]) := by kernel_rfl
theorem zs109 : zst Try.prog 109 = some ([.string ⟨#[]⟩, .bool false, .bool false, .int .i64 0, .int .i64 0], [(0, 1), (1, 1), (2, 1), (3, 1), (4, 1)]) := by kernel_rfl
theorem eq36 : eqTab Try.prog 36 = some [(0, .i), (1, .s), (2, .i)] := by kernel_rfl
theorem eq53 : eqTab Try.prog 53 = some [(0, .s), (1, .i)] := by kernel_rfl
theorem eq70 : eqTab Try.prog 70 = some [(0, .s), (1, .s)] := by kernel_rfl
theorem eq81 : eqTab Try.prog 81 = some [(0, .s), (1, .i), (2, .s), (3, .i)] := by kernel_rfl
theorem eq117 : eqTab Try.prog 117 = some [(0, .s), (1, .i), (2, .s), (3, .i)] := by kernel_rfl
attribute [push_cast] ty2 ty3 ty4 ty5 ty9 ty22 ty23 ty24 ty25 ty27 ty31 ty33 ty34 ty36 ty38 ty39 ty40 ty42 ty44 ty51 ty53 ty59 ty61 ty70 ty75 ty77 ty79 ty81 ty83 ty84 ty85 ty87 ty91 ty93 ty105 ty109 ty113 ty115 ty117 ty119 ty126 ty127 zc5 zc9 zc27 zc33 zc36 zc42 zc51 zc53 zc70 zc75 zc79 zc81 zc87 zc93 zc105 zc109 zc115 zc117 zc119 zs27 zs33 zs36 zs38 zs42 zs61 zs75 zs109 eq36 eq53 eq70 eq81 eq117
end Go.Am
end

section
namespace Lt

/-- words, a blank ahead of each but (where b is false) the first -/
def jw : Bool → List (List UInt8) → List UInt8
  | _, [] => []
  | b, w :: r => (if b then [32] else []) ++ w ++ jw true r

/-- lines -/
def joinB (l : List Line) : List UInt8 := l.flatMap fun x => jw false x.Words ++ [10]

theorem jw_take : ∀ (ws : List (List UInt8)) (b : Bool) (j : Nat), j < ws.length → jw b (ws.take (j + 1)) = jw b (ws.take j) ++ (if b || decide (0 < j) then [32] else []) ++ ws.getD j []
  | [], _, j, h => by simp at h
  | w :: r, b, 0, _ => by cases b <;> simp [jw]
  | w :: r, b, j + 1, h => by
    have := jw_take r true j (by simpa using h)
    rw [List.take_succ_cons, jw, this, List.take_succ_cons, jw]
    simp

theorem jw_prefix (ws : List (List UInt8)) (b : Bool) (j : Nat) : ∃ r, jw b ws = jw b (ws.take j) ++ r := by
  induction ws generalizing b j with
  | nil => exact ⟨[], by simp [jw]⟩
  | cons w r ih =>
    cases j with
    | zero => exact ⟨jw b (w :: r), by simp [jw]⟩
    | succ j =>
      obtain ⟨q, hq⟩ := ih true j
      exact ⟨q, by rw [List.take_succ_cons, jw, jw, hq]; simp⟩

theorem joinB_take (l : List Line) (i : Nat) (h : i < l.length) : joinB (l.take (i + 1)) = joinB (l.take i) ++ jw false (l.getD i default).Words ++ [10] := by
  have e : l.take (i + 1) = l.take i ++ [l.getD i default] := by
    rw [List.take_add_one, List.getD, List.getElem?_eq_getElem h]; rfl
  rw [e, joinB, List.flatMap_append]
  simp [joinB]

theorem joinB_prefix (l : List Line) (i : Nat) : ∃ r, joinB l = joinB (l.take i) ++ r := ⟨joinB (l.drop i), by rw [joinB, joinB, joinB, ← List.flatMap_append, List.take_append_drop]⟩

/-- what is written is no longer than the whole -/
theorem joinB_le (l : List Line) (i j : Nat) (h : i < l.length) : (joinB (l.take i)).length + (jw false ((l.getD i default).Words.take j)).length + 1 ≤ (joinB l).length := by
  obtain ⟨r, hr⟩ := joinB_prefix l (i + 1)
  obtain ⟨q, hq⟩ := jw_prefix (l.getD i default).Words false j
  rw [hr, joinB_take l i h, hq]
  simp
  omega

theorem jw_len : ∀ (ws : List (List UInt8)) (b : Bool), ws.length ≤ (jw b ws).length + 1
  | [], _ => by simp
  | [w], b => by simp
  | w :: v :: r, b => by
    have := jw_len (v :: r) true
    have h : (jw true (v :: r)).length ≥ (v :: r).length := by
      have aux : ∀ q : List (List UInt8), q.length ≤ (jw true q).length := by
        intro q
        induction q with
        | nil => simp
        | cons a q ih => simp [jw]; omega
      exact aux _
    rw [jw]
    simp only [List.length_append, List.length_cons] at *
    omega

theorem joinB_len : ∀ l : List Line, l.length ≤ (joinB l).length
  | [] => by simp
  | x :: l => by
    have := joinB_len l
    rw [joinB, List.flatMap_cons]
    rw [joinB] at this
    simp only [List.length_append, List.length_cons, List.length_nil]
    omega

end Lt
namespace Go.Am
open Go.RowKit Go.Proofs

section
variable {P : Program} {cs : CT} {all : List Oper} {g : G} {s : S} {H : FH} {b : Nat} {Q : Exit → S × List UInt8 → Prop} {x : S × List UInt8}

theorem reg_wp {id : Nat} {l : List Oper} {k : S → Prop} {a : Act} {w : World} {γ : Gam} {F : Nm → Fp} (hk : l.all keepsH = true) (hc : opsC g.nt l l = true) (h : opsK P cs l l s k) (hX : RX g s a w H γ F) :
    (Code.region id l.toArray false).wp P (fun e a' w' => e = .normal ∧ ∃ s' γ' F', k s' ∧ RX g s' a' w' H γ' F') a w :=
  wp_region_lit (wp_opsKH (Q := fun e a' w' => e = .normal ∧ ∃ s' γ' F', k s' ∧ RX g s' a' w' H γ' F') (fun s' a' w' γ' F' h1 h2 => ⟨rfl, s', γ', F', h1, h2⟩) l s a w γ F hk hc h hX)

/-- two regions, between which a variable stands -/
theorem BW_reg2 (ks : List Nat) (ds : List Nm) {id1 id2 : Nat} {l1 l2 : List Oper} {c d : Code} (K : S × List UInt8 → Prop) (hk1 : l1.all keepsH = true) (hk2 : l2.all keepsH = true) (hc1 : opsC g.nt l1 l1 = true) (hc2 : opsC g.nt l2 l2 = true)
    (s1 s2 : S) (hm2 : s2.m = []) (hK2 : K (s2, x.2))
    (h1 : RK P cs l1 l1 x.1 (fun s' => s' = s1)) (h2 : RK P cs l2 l2 s1 (fun s' => s'.cut ks ds = s2))
    (hK : ∀ x', K x' → BW P g H b c (fun e x => match e with | .normal => BW P g H b d Q x | e => Q e x) x') :
    BW P g H b (.seq (.region id1 l1.toArray false) (.seq (.seq (.region id2 l2.toArray false) c) d)) Q x := by
  intro a w ⟨hm, ⟨γ, F, hX⟩, hB⟩
  have htot : tot F x.1.m = fun _ => 0 := by rw [hm]; rfl
  let g2 : G := ⟨g.nt, w, H, fun _ => 0, g.out⟩
  have hX2 : RX g2 x.1 a w H γ F := ⟨hX.mem, ⟨Nat.le_refl _, rfl, rfl, rfl, fun _ _ _ => rfl, fun _ _ _ h => h, fun _ _ h1 h2 => absurd h2 h1, fun c hc => by rw [htot] at hc; exact absurd rfl hc⟩, hX.nt, hX.df, hX.t⟩
  refine wp_seq (Code.wp_mono (fun e a1 w1 ⟨he, s1', γ1, F1, e1, hX1⟩ => ?_) (reg_wp (g := g2) hk1 hc1 h1.out hX2))
  subst he; subst e1
  refine wp_seq (wp_seq (Code.wp_mono (fun e a2 w2 ⟨he, s2', γ2, F2, e2, hX2⟩ => ?_) (reg_wp (g := g2) hk2 hc2 h2.out hX1)))
  subst he; subst e2
  have hX3 := RX_drops ds (RX_keepT ks hX2)
  have hf := hX3.fr
  have hRB : RB g H b (s2'.cut ks ds, x.2) a2 w2 := ⟨hm2, ⟨γ2, F2, hX3.mem, hX.fr.trans (by rw [htot]; exact hf), hX3.nt, hX3.df, hX3.t⟩, isBuilder_keeps hB hf.size hf.os hf.tape hf.output (fun k hk => hf.block k hk rfl)⟩
  refine Code.wp_mono (fun e a w hl => ?_) (hK _ hK2 a2 w2 hRB)
  obtain ⟨s', q1, q2⟩ := hl
  cases e with
  | normal => exact q1 a w q2
  | exit _ => exact ⟨s', q1, q2⟩
  | goto _ => exact ⟨s', q1, q2⟩
  | ret => exact ⟨s', q1, q2⟩
  | panic _ => exact ⟨s', q1, q2⟩
  | outgrown => exact ⟨s', q1, q2⟩

theorem BW_keep (ks : List Nat) {c : Code} (h : BW P g H b c Q (⟨keepT ks x.1.t, x.1.m⟩, x.2)) : BW P g H b c Q x := fun a w ⟨hm, ⟨γ, F, hX⟩, hB⟩ => h a w ⟨hm, ⟨γ, F, RX_keepT ks hX⟩, hB⟩

end
end Go.Am
end

section
namespace Lt
open Go

def letter (c : Int) : Bool := (((decide (97 ≤ c)) && (decide (c ≤ 122))) || ((decide (65 ≤ c)) && (decide (c ≤ 90)))) || (decide (c = 95))
def wordDigit (c : Int) : Bool := (decide (48 ≤ c)) && (decide (c ≤ 57))
def kept (s : List UInt8) : Bool := ((decide (s = [110, 117, 108, 108])) || (decide (s = [105, 110, 116]))) || (decide (s = [102, 108, 111, 97, 116]))
/-- a byte that may stand in a name -/
def nameByte (c : UInt8) : Bool := letter ((c.toNat : Nat) : Int) || wordDigit ((c.toNat : Nat) : Int)
def Name (s : List UInt8) : Bool := (!decide (s = []) && decide (s.length ≤ 16) && letter (((s.getD 0 0).toNat : Nat) : Int) && !kept s) && s.all nameByte
def kind (s : List UInt8) : Bool := ((decide (s = [105, 110, 116])) || (decide (s = [102, 108, 111, 97, 116]))) || Name s
def typed (l : List Var) (most : Int) : Bool := decide ((l.length : Int) ≤ most) && l.all fun v => Name v.Name && kind v.Type_
def Plain (n : Int) : Int :=
  if ((decide ((IntKind.i64.wrap ((BitVec.ofInt IntKind.i64.bits n &&& BitVec.ofInt IntKind.i64.bits 9218868437227405312).toNat : Nat)) = 9218868437227405312)) && (!decide ((IntKind.i64.wrap ((BitVec.ofInt IntKind.i64.bits n &&& BitVec.ofInt IntKind.i64.bits 4503599627370495).toNat : Nat)) = 0))) = true then 9221120237041090560 else n
def wordRight (a : Arg) : Bool :=
  if a.Kind = 1 then Name a.S && decide (a.N = 0)
  else if a.Kind = 2 then decide (a.S = [])
  else if a.Kind = 3 then decide (a.S = []) && decide (Plain a.N = a.N)
  else if a.Kind = 4 then decide (a.S = []) && decide (a.N = 0)
  else if a.Kind = 5 then (decide (a.S = []) && decide (0 ≤ a.N)) && decide (a.N ≤ 999)
  else false
def argRight (objs : Bool) (a : Arg) : Bool := wordRight a && !(decide (a.Kind = 5) && !objs)
def showArgs (l : List Arg) (objs : Bool) : Bool := l.all (argRight objs)
def bindRight (b : Bind) : Bool := Name b.Name && argRight true b.A
def frame (f : Frame) : Bool := (Name f.Func && Name f.Block && decide (0 ≤ f.At) && decide (f.At ≤ 1024) && decide (f.Vars.length ≤ 16)) && f.Vars.all bindRight
def virt (o : Virt) : Bool := Name o.Class && decide (o.Vals.length ≤ 8) && showArgs o.Vals true

/-- the n-th word: k: how far yet; f: where the word ahead of place i begins -/
def nthG (l : List UInt8) : Nat → Int → Nat → Nat → List UInt8
  | 0, _, _, _ => []
  | k + 1, n, f, i =>
    if i < l.length then
      if (((l.getD i 0).toNat : Nat) : Int) = 32 then
        if IntKind.i64.wrap (n - 1) = 0 then (l.drop (f + 1)).take (i - (f + 1)) else nthG l k (IntKind.i64.wrap (n - 1)) i (i + 1)
      else nthG l k n f (i + 1)
    else []
def nth (l : List UInt8) (n : Int) : List UInt8 := nthG l (l.length + 1) n 0 1

def two : List UInt8 := 32 :: 97 :: 100 :: 100 :: 32 :: 115 :: 117 :: 98 :: 32 :: 109 :: 117 :: 108 :: 32 :: 100 :: 105 :: 118 :: 32 :: 114 :: 101 :: 109 :: 32 :: 97 :: 110 :: 100 :: 32 :: 111 :: 114 :: 32 :: 120 :: 111 :: 114 :: 32 :: 115 :: 104 :: 108 :: 32 :: 115 :: 104 :: 114 :: 32 :: 101 :: 113 :: 32 :: 110 :: 101 :: 32 :: 108 :: 116 :: 32 :: 108 :: 101 :: 32 :: 102 :: 97 :: 100 :: 100 :: 32 :: 102 :: 115 :: 117 :: 98 :: 32 :: 102 :: 109 :: 117 :: 108 :: 32 :: 102 :: 100 :: 105 :: 118 :: 32 :: 102 :: 101 :: 113 :: 32 :: 102 :: 108 :: 116 :: 32 :: 102 :: 108 :: 101 :: 32 :: []

def Of (op : Int) : Form × Bool :=
  if 1 ≤ op ∧ op ≤ 21 then (⟨nth two op, true, false, 2, 2⟩, true)
  else if 22 ≤ op ∧ op ≤ 24 then (⟨nth [32, 105, 116, 111, 102, 32, 102, 116, 111, 105, 32, 109, 111, 118, 32] (IntKind.i64.wrap (op - 21)), true, false, 1, 1⟩, true)
  else if op = 25 then (⟨[110, 101, 119], true, true, 0, 8⟩, true)
  else if op = 26 then (⟨[108, 111, 97, 100], true, true, 1, 1⟩, true)
  else if op = 27 then (⟨[115, 116, 111, 114, 101], false, true, 2, 2⟩, true)
  else if op = 28 then (⟨[115, 97, 109, 101], true, false, 2, 2⟩, true)
  else if op = 29 then (⟨[103, 108, 111, 97, 100], true, true, 0, 0⟩, true)
  else if op = 30 then (⟨[103, 115, 116, 111, 114, 101], false, true, 1, 1⟩, true)
  else if op = 31 then (⟨[99, 97, 108, 108], true, true, 0, 8⟩, true)
  else if op = 32 then (⟨[101, 120, 116], true, true, 0, 8⟩, true)
  else if op = 33 then (⟨[111, 117, 116], false, false, 1, 1⟩, true)
  else if op = 34 then (⟨[103, 117, 97, 114, 100], false, false, 0, 0⟩, true)
  else (⟨[], false, false, 0, 0⟩, false)

def instr (i : Instr) : Bool :=
  ((Of i.Op).2 && ((Of i.Op).1.Dst == !decide (i.Dst = [])) && ((Of i.Op).1.Named == !decide (i.Name = [])) && !((Of i.Op).1.Dst && !Name i.Dst) && !((Of i.Op).1.Named && !Name i.Name))
  && (decide ((Of i.Op).1.Least ≤ (i.Args.length : Int)) && decide ((i.Args.length : Int) ≤ (Of i.Op).1.Most) && showArgs i.Args false && decide (i.Frames.length ≤ 16) && decide (i.Objs.length ≤ 99))
  && (if i.Op ≠ 31 ∧ i.Op ≠ 34 then decide (i.Frames = []) && decide (i.Objs = []) else i.Frames.all frame && i.Objs.all virt)
def inRight (i : In) : Bool := Name i.Block && argRight false i.A
def phi (x : Phi) : Bool := (Name x.Dst && !decide (x.Ins = []) && decide (x.Ins.length ≤ 256)) && x.Ins.all inRight
def noArg (a : Arg) : Bool := decide (a = ⟨0, [], 0⟩)
def showEnd (t : Term) : Bool := t.To.all Name &&
  (if t.Kind = 1 then noArg t.A && decide (t.To.length = 1) && decide (t.N = 0)
   else if t.Kind = 2 then argRight false t.A && decide (t.To.length = 2) && decide (t.N = 0)
   else if t.Kind = 3 then argRight false t.A && decide (t.To.length = 0) && decide (t.N = 0)
   else if t.Kind = 4 then noArg t.A && decide (t.To.length = 0)
   else false)
def block (b : Block) : Bool := (Name b.Name && showEnd b.End) && (b.Phis.all phi && b.Code.all instr)
/-- blocks; long: how long those ahead are -/
def blocks : List Block → Nat → Bool
  | [], _ => true
  | b :: r, long => (decide (long + (b.Phis.length + b.Code.length) ≤ 1024) && block b) && blocks r (long + (b.Phis.length + b.Code.length))
def showFunction (f : Func) : Bool := (Name f.Name && kind f.Result && typed f.Params 6 && typed f.Vars 1024 && !decide (f.Blocks = []) && decide (f.Blocks.length ≤ 256)) && blocks f.Blocks 0
def classRight (c : Class) : Bool := Name c.Name && typed c.Fields 8
def externRight (x : Extern) : Bool := Name x.Name && decide (0 ≤ x.N) && decide (x.N ≤ 8)
def showRight (p : Program) : Bool :=
  (decide (p.Classes.length ≤ 8) && decide (p.Externs.length ≤ 8) && decide (p.Funcs.length ≤ 8) && typed p.Globals 8) &&
  (p.Classes.all classRight && (p.Externs.all externRight && p.Funcs.all showFunction))

/-! numbers -/

def digs (n : Nat) : List UInt8 := if n < 10 then [UInt8.ofNat (48 + n)] else digs (n / 10) ++ [UInt8.ofNat (48 + n % 10)]
def numDigit (n : Int) : Int := IntKind.u8.wrap (IntKind.i64.wrap (48 + (if n < 0 then IntKind.i64.wrap (0 - n) else n)))
def numPut (n : Int) : List UInt8 := (if n < 0 then [45] else []) ++ digs n.natAbs
def number (n : Int) : List UInt8 := numPut n
/-- the hexadecimal digit at shift x -/
def hexAt (u : Int) (x : Int) : UInt8 := ([48, 49, 50, 51, 52, 53, 54, 55, 56, 57, 97, 98, 99, 100, 101, 102] : List UInt8).getD (IntKind.u64.wrap ((BitVec.ofInt IntKind.u64.bits (Int.fdiv (IntKind.u64.wrap u) (2 ^ (min (IntKind.u64.wrap x).toNat IntKind.u64.bits))) &&& BitVec.ofInt IntKind.u64.bits 15).toNat : Nat)).toNat 0
def floPut (n : Int) : List UInt8 := [48, 102] ++ (List.range 16).map fun (i : Nat) => hexAt (Plain n) (60 - 4 * (i : Int))
def wordPut (a : Arg) : List UInt8 :=
  if wordRight a then
    if a.Kind = 2 then numPut a.N else if a.Kind = 3 then floPut a.N else if a.Kind = 4 then [110, 117, 108, 108] else if a.Kind = 5 then 35 :: numPut a.N else a.S
  else []
def puts (l : List Arg) : List (List UInt8) := l.map wordPut

/-! lines -/

def ln (w : List (List UInt8)) : Line := ⟨0, w⟩
def varsL (first : List UInt8) (l : List Var) : List Line := l.map fun v => ln [first, v.Name, v.Type_]
/-- an instruction's words -/
def words (i : Instr) : List (List UInt8) :=
  (if (Of i.Op).1.Dst then [i.Dst, [61]] else []) ++ [(Of i.Op).1.Word] ++
  (if i.Op = 26 ∨ i.Op = 27 then (puts i.Args).getD 0 default :: i.Name :: (puts i.Args).drop 1
   else (if (Of i.Op).1.Named then [i.Name] else []) ++ puts i.Args)
def frameW (f : Frame) : List (List UInt8) := [[97, 116], f.Func, f.Block, number f.At] ++ f.Vars.flatMap fun b => [b.Name, wordPut b.A]
def virtW (o : Virt) : List (List UInt8) := [[111, 98, 106], o.Class] ++ puts o.Vals
def codeL (i : Instr) : List Line := [ln (words i)] ++ i.Frames.map (fun f => ln (frameW f)) ++ i.Objs.map (fun o => ln (virtW o))
def phiW (x : Phi) : List (List UInt8) := [[112, 104, 105], x.Dst] ++ x.Ins.flatMap fun i => [i.Block, wordPut i.A]
def endW (t : Term) : List (List UInt8) :=
  if t.Kind = 1 then [[106, 117, 109, 112], t.To.getD 0 default]
  else if t.Kind = 2 then [[98, 114, 97, 110, 99, 104], wordPut t.A, t.To.getD 0 default, t.To.getD 1 default]
  else if t.Kind = 3 then [[114, 101, 116], wordPut t.A]
  else [[116, 114, 97, 112], numPut t.N]
def blockL (b : Block) : List Line := [ln [[98, 108, 111, 99, 107], b.Name]] ++ b.Phis.map (fun x => ln (phiW x)) ++ b.Code.flatMap codeL ++ [ln (endW b.End)]
def funcL (f : Func) : List Line := [ln [[102, 117, 110, 99], f.Name, f.Result]] ++ varsL [112, 97, 114, 97, 109] f.Params ++ varsL [118, 97, 114] f.Vars ++ f.Blocks.flatMap blockL
def classL (c : Class) : List Line := [ln [[99, 108, 97, 115, 115], c.Name]] ++ varsL [102, 105, 101, 108, 100] c.Fields
def externL (x : Extern) : Line := ln [[101, 120, 116, 101, 114, 110], x.Name, number x.N]
def progL (p : Program) : List Line := (if p.SSA then [ln [[115, 115, 97]]] else []) ++ p.Classes.flatMap classL ++ varsL [103, 108, 111, 98, 97, 108] p.Globals ++ p.Externs.map externL ++ p.Funcs.flatMap funcL

def sheetLine (s : Sheet) (w : List (List UInt8)) : Unit × Sheet := ((), ⟨s.l ++ [ln w]⟩)
def sheetVars (s : Sheet) (first : List UInt8) (l : List Var) : Unit × Sheet := ((), ⟨s.l ++ varsL first l⟩)
def sheetCode (s : Sheet) (i : Instr) : Unit × Sheet := ((), ⟨s.l ++ codeL i⟩)
def sheetEnd (s : Sheet) (t : Term) : Unit × Sheet := ((), ⟨s.l ++ [ln (endW t)]⟩)
def sheetFunction (s : Sheet) (f : Func) : Unit × Sheet := ((), ⟨s.l ++ funcL f⟩)
def Join (l : List Line) : List UInt8 := joinB l
def showText (p : Program) : List UInt8 × Int :=
  if showRight p then (if (joinB (progL p)).length ≤ 4194304 then (joinB (progL p), 0) else ([], 2)) else ([], 1)

/-! the document's -/

def sameVars (a b : List Var) : Bool := decide (a = b)
def sameArgs (a b : List Arg) : Bool := decide (a = b)
def SameInstr (a b : Instr) : Bool := decide (a = b)
def sameBlock (a b : Block) : Bool := decide (a = b)
def SameFunc (a b : Func) : Bool := decide (a = b)
def Same (a b : Program) : Bool := decide (a = b)

abbrev plus (n : Int) (k : Nat) : Int := IntKind.i64.wrap (n + (k : Int))
/-- n and k more, where n isn't too great yet -/
def upto (most n k : Int) : Int := if n ≤ most then IntKind.i64.wrap (n + k) else n
def cVars (most : Int) : List Var → Int → Int
  | [], n => n
  | v :: r, n => if n ≤ most then (let m := plus n v.Name.length; cVars most r (if m ≤ most then plus m v.Type_.length else m)) else n
def countVars (l : List Var) (most : Int) : Int := if most < (l.length : Int) then IntKind.i64.wrap (most + 1) else cVars most l (l.length : Int)
def cArgs (most : Int) : List Arg → Int → Int
  | [], n => n
  | a :: r, n => if n ≤ most then cArgs most r (plus n a.S.length) else n
def countArgs (l : List Arg) (most : Int) : Int := if most < (l.length : Int) then IntKind.i64.wrap (most + 1) else cArgs most l (l.length : Int)
def cBinds (most : Int) : List Bind → Int → Int
  | [], n => n
  | b :: r, n => if n ≤ most then (let m := plus (IntKind.i64.wrap (n + 1)) b.Name.length; cBinds most r (if m ≤ most then plus m b.A.S.length else m)) else n
def cFrames (most : Int) : List Frame → Int → Int
  | [], n => n
  | f :: r, n => if n ≤ most then (let m := plus n f.Func.length; cFrames most r (cBinds most f.Vars (if m ≤ most then plus m f.Block.length else m))) else n
def cObjs (most : Int) : List Virt → Int → Int
  | [], n => n
  | o :: r, n => if n ≤ most then (let m := plus n o.Class.length; cObjs most r (if m ≤ most then IntKind.i64.wrap (m + countArgs o.Vals most) else m)) else n
def countInstr (x : Instr) (most : Int) : Int :=
  if (decide (most < (x.Frames.length : Int))) || (decide (most < (x.Objs.length : Int))) then IntKind.i64.wrap (most + 1)
  else
    cObjs most x.Objs (cFrames most x.Frames (upto most (upto most (plus (plus (plus 1 x.Dst.length) x.Frames.length) x.Objs.length) (x.Name.length : Int)) (countArgs x.Args most)))
def cTo (most : Int) : List (List UInt8) → Int → Int
  | [], n => n
  | t :: r, n => if n ≤ most then cTo most r (plus (IntKind.i64.wrap (n + 1)) t.length) else n
def cIns (most : Int) : List In → Int → Int
  | [], n => n
  | b :: r, n => if n ≤ most then (let m := plus (IntKind.i64.wrap (n + 1)) b.Block.length; cIns most r (if m ≤ most then plus m b.A.S.length else m)) else n
def cPhis (most : Int) : List Phi → Int → Int
  | [], n => n
  | x :: r, n => if n ≤ most then cPhis most r (cIns most x.Ins (plus (IntKind.i64.wrap (n + 1)) x.Dst.length)) else n
def cCode (most : Int) : List Instr → Int → Int
  | [], n => n
  | x :: r, n => if n ≤ most then cCode most r (IntKind.i64.wrap (n + countInstr x most)) else n
def countBlock (b : Block) (most : Int) : Int :=
  if (decide (most < (b.Phis.length : Int))) || (decide (most < (b.Code.length : Int))) || (decide (most < (b.End.To.length : Int))) then IntKind.i64.wrap (most + 1)
  else
    cCode most b.Code (cPhis most b.Phis (cTo most b.End.To (upto most (plus 1 b.Name.length) (b.End.A.S.length : Int))))
def cBlocks (most : Int) : List Block → Int → Int
  | [], n => n
  | x :: r, n => if n ≤ most then cBlocks most r (IntKind.i64.wrap (n + countBlock x most)) else n
def FewFunc (f : Func) (most : Int) : Int :=
  if most < (f.Blocks.length : Int) then IntKind.i64.wrap (most + 1)
  else
    cBlocks most f.Blocks (upto most (upto most (upto most (plus 1 f.Name.length) (f.Result.length : Int)) (countVars f.Params most)) (countVars f.Vars most))
def cClasses (most : Int) : List Class → Int → Int
  | [], n => n
  | c :: r, n => if n ≤ most then (let m := plus n c.Name.length; cClasses most r (if m ≤ most then IntKind.i64.wrap (m + countVars c.Fields most) else m)) else n
def cExterns (most : Int) : List Extern → Int → Int
  | [], n => n
  | x :: r, n => if n ≤ most then cExterns most r (plus (IntKind.i64.wrap (n + 1)) x.Name.length) else n
def cFuncs (most : Int) : List Func → Int → Int
  | [], n => n
  | x :: r, n => if n ≤ most then cFuncs most r (IntKind.i64.wrap (n + FewFunc x most)) else n
def Few (p : Program) (most : Int) : Bool :=
  if (decide (50 < (p.Classes.length : Int))) || (decide (50 < (p.Externs.length : Int))) || (decide (50 < (p.Funcs.length : Int))) then false
  else decide (cFuncs most p.Funcs (cExterns most p.Externs (cClasses most p.Classes (countVars p.Globals most))) ≤ most)

def example6 (t : Term) : Program := ⟨false, [], [], [], [⟨[102], [105, 110, 116], [], [], [⟨[98], [], [], t⟩]⟩]⟩
def awake : Bool := true

/-! what is asked of what is handed in -/

def inR (n : Int) : Prop := -9223372036854775808 ≤ n ∧ n < 9223372036854775808
def Arg.ok (a : Arg) : Prop := inR a.N
def argsOk (l : List Arg) : Prop := ∀ a ∈ l, a.ok
def Bind.ok (b : Bind) : Prop := b.A.ok
def Frame.ok (f : Frame) : Prop := f.Vars.length ≤ 4611686018427387904 ∧ ∀ b ∈ f.Vars, b.ok
def Virt.ok (o : Virt) : Prop := argsOk o.Vals
def Instr.ok (i : Instr) : Prop := argsOk i.Args ∧ (∀ f ∈ i.Frames, f.ok) ∧ (∀ o ∈ i.Objs, o.ok)
def In.ok (i : In) : Prop := i.A.ok
def Phi.ok (x : Phi) : Prop := x.Ins.length ≤ 4611686018427387904 ∧ ∀ i ∈ x.Ins, i.ok
def Term.ok (t : Term) : Prop := t.A.ok ∧ inR t.N
def Block.ok (b : Block) : Prop := (∀ x ∈ b.Phis, x.ok) ∧ (∀ i ∈ b.Code, i.ok) ∧ b.End.ok
def Func.ok (f : Func) : Prop := ∀ b ∈ f.Blocks, b.ok
def Program.ok (p : Program) : Prop := ∀ f ∈ p.Funcs, f.ok

def room : Nat := 1099511627776
def preLine (s : Sheet) (_ : List (List UInt8)) : Prop := s.l.length < room
def preVars (s : Sheet) (_ : List UInt8) (l : List Var) : Prop := s.l.length + l.length ≤ room
def preCode (s : Sheet) (i : Instr) : Prop := i.ok ∧ instr i = true ∧ s.l.length + 200 ≤ room
def preEnd (s : Sheet) (t : Term) : Prop := t.ok ∧ showEnd t = true ∧ s.l.length + 1 ≤ room
def preFunction (s : Sheet) (f : Func) : Prop := f.ok ∧ showFunction f = true ∧ s.l.length + 1000000 ≤ room
def preNum (n : Int) : Prop := inR n
def prePut (a : Arg) : Prop := a.ok
def prePuts (l : List Arg) : Prop := argsOk l ∧ l.length ≤ 1000000
def preText (p : Program) : Prop := p.ok
def preJoin (l : List Line) : Prop := (joinB l).length ≤ 140737488355328
def preCI (x : Instr) (most : Int) : Prop := x.ok ∧ most ≤ 4611686018427387904
def preCB (b : Block) (most : Int) : Prop := b.ok ∧ most ≤ 4611686018427387904
def preFF (f : Func) (most : Int) : Prop := f.ok ∧ most ≤ 4611686018427387904
def preFew (p : Program) (most : Int) : Prop := p.ok ∧ most ≤ 4611686018427387904
def preSpoilt (p : Program) (s : List UInt8) : Prop := p.ok ∧ s.length ≤ 140737488355328
def preUnlike (p q : Program) : Prop := p.ok ∧ q.ok

/-! the statements -/

def ShowSpoilt (_ : Program) (_ : List UInt8) : Bool := true
def ShowUnlike (_ _ : Program) : Bool := true

end Lt
end

section
namespace Go.Am
set_option linter.unusedVariables false
def F_ShowSpoilt (a0_p : Lt.Program) (a1_name : List UInt8) (KK : (Bool) → Prop) : Prop :=
  ((!Lt.awake) = false → (Lt.preFew a0_p 20000)) ∧ if ((((!Lt.awake) || (!(Lt.Few a0_p 20000))) || (!(Lt.showRight a0_p))) || (decide ((a0_p.Funcs.length : Int) = 0))) = true then KK Lt.awake else (((0 : Int) ≤ 0 ∧ 0 < a0_p.Funcs.length)) ∧ ((((a0_p.Funcs.getD 0 default).Blocks).length ≤ 4611686018427387904 ∧ ((a0_p.Funcs.getD 0 default).Blocks).length * 136 ≤ 140737488355328)) ∧ (((0 : Int) ≤ 0 ∧ 0 < (((a0_p.Funcs.getD 0 default).Blocks).length : Int))) ∧ (((1 + (((((a0_p.Funcs.getD 0 default).Blocks).getD 0 default).End).To).length) ≤ 4611686018427387904 ∧ (1 + (((((a0_p.Funcs.getD 0 default).Blocks).getD 0 default).End).To).length) * 16 ≤ 140737488355328)) ∧ (((0 : Int) ≤ 0 ∧ 0 < (((a0_p.Funcs.getD 0 default).Blocks).length : Int))) ∧ (True) ∧ ((1 ≤ a0_p.Funcs.length)) ∧ (((1 + ((a0_p.Funcs.drop 1).take (a0_p.Funcs.length - 1)).length) ≤ 4611686018427387904 ∧ (1 + ((a0_p.Funcs.drop 1).take (a0_p.Funcs.length - 1)).length) * 104 ≤ 140737488355328)) ∧ (a1_name.length + [32].length ≤ 4611686018427387904) ∧ ((1 ≤ a0_p.Funcs.length)) ∧ (((1 + ((a0_p.Funcs.drop 1).take (a0_p.Funcs.length - 1)).length) ≤ 4611686018427387904 ∧ (1 + ((a0_p.Funcs.drop 1).take (a0_p.Funcs.length - 1)).length) * 104 ≤ 140737488355328)) ∧ ((1 ≤ a0_p.Funcs.length)) ∧ (((1 + ((a0_p.Funcs.drop 1).take (a0_p.Funcs.length - 1)).length) ≤ 4611686018427387904 ∧ (1 + ((a0_p.Funcs.drop 1).take (a0_p.Funcs.length - 1)).length) * 104 ≤ 140737488355328)) ∧ KK (((!(Lt.showRight (Lt.Program.mk a0_p.SSA a0_p.Classes a0_p.Globals a0_p.Externs ((Lt.Func.mk ((a0_p.Funcs.getD 0 default).Name) ((a0_p.Funcs.getD 0 default).Result) ((a0_p.Funcs.getD 0 default).Params) ((a0_p.Funcs.getD 0 default).Vars) (((a0_p.Funcs.getD 0 default).Blocks).set 0 (Lt.Block.mk ((((a0_p.Funcs.getD 0 default).Blocks).getD 0 default).Name) ((((a0_p.Funcs.getD 0 default).Blocks).getD 0 default).Phis) ((((a0_p.Funcs.getD 0 default).Blocks).getD 0 default).Code) (Lt.Term.mk (((((a0_p.Funcs.getD 0 default).Blocks).getD 0 default).End).Kind) (((((a0_p.Funcs.getD 0 default).Blocks).getD 0 default).End).A) ([120] :: ((((a0_p.Funcs.getD 0 default).Blocks).getD 0 default).End).To) (((((a0_p.Funcs.getD 0 default).Blocks).getD 0 default).End).N))))) :: ((a0_p.Funcs.drop 1).take (a0_p.Funcs.length - 1)))))) && (!(Lt.showRight (Lt.Program.mk a0_p.SSA a0_p.Classes a0_p.Globals a0_p.Externs ((Lt.Func.mk (a1_name ++ [32]) ((a0_p.Funcs.getD 0 default).Result) ((a0_p.Funcs.getD 0 default).Params) ((a0_p.Funcs.getD 0 default).Vars) ((a0_p.Funcs.getD 0 default).Blocks)) :: ((a0_p.Funcs.drop 1).take (a0_p.Funcs.length - 1))))))) && (!(Lt.showRight (Lt.Program.mk a0_p.SSA a0_p.Classes a0_p.Globals a0_p.Externs ((Lt.Func.mk ((a0_p.Funcs.getD 0 default).Name) ((a0_p.Funcs.getD 0 default).Result) ((a0_p.Funcs.getD 0 default).Params) ((a0_p.Funcs.getD 0 default).Vars) []) :: ((a0_p.Funcs.drop 1).take (a0_p.Funcs.length - 1)))))))


def F_ShowUnlike (a0_p : Lt.Program) (a1_q : Lt.Program) (KK : (Bool) → Prop) : Prop :=
  ((!Lt.awake) = false → (Lt.preFew a0_p 20000)) ∧ (((!Lt.awake) || (!(Lt.Few a0_p 20000))) = false → (Lt.preFew a1_q 20000)) ∧ if (((!Lt.awake) || (!(Lt.Few a0_p 20000))) || (!(Lt.Few a1_q 20000))) = true then KK Lt.awake else ((Lt.preText a0_p)) ∧ ((Lt.preText a1_q)) ∧ KK (((!decide ((Lt.showText a0_p).2 = 0)) || (!decide ((Lt.showText a1_q).2 = 0))) || ((decide ((Lt.showText a0_p).1 = (Lt.showText a1_q).1)) == (Lt.Same a0_p a1_q)))


def F_awake (KK : (Bool) → Prop) : Prop :=
  ((Lt.preText (Lt.example6 (Lt.Term.mk 3 (Lt.Arg.mk 2 ([] : List UInt8) 5) [] 0)))) ∧ ((Lt.preText (Lt.example6 (Lt.Term.mk 0 (Lt.Arg.mk 0 ([] : List UInt8) 0) [] 0)))) ∧ KK (((decide ((Lt.showText (Lt.example6 (Lt.Term.mk 3 (Lt.Arg.mk 2 ([] : List UInt8) 5) [] 0))).2 = 0)) && (decide ((Lt.showText (Lt.example6 (Lt.Term.mk 3 (Lt.Arg.mk 2 ([] : List UInt8) 5) [] 0))).1 = [102, 117, 110, 99, 32, 102, 32, 105, 110, 116, 10, 98, 108, 111, 99, 107, 32, 98, 10, 114, 101, 116, 32, 53, 10]))) && (decide ((Lt.showText (Lt.example6 (Lt.Term.mk 0 (Lt.Arg.mk 0 ([] : List UInt8) 0) [] 0))).2 = 1)))


def F_Few_j3 (a1_most : Int) (x3 : Int) (KK : (Bool) → Prop) : Prop :=
  KK (decide (x3 ≤ a1_most))

def F_Few_l4 (a0_p : Lt.Program) (a1_most : Int) (KK : (Bool) → Prop) : Nat → Int → Int → Prop
  | 0, _, _ => False
  | n9 + 1, x4, x5 => if ((decide (x5 < (a0_p.Funcs.length : Int))) && (decide (x4 ≤ a1_most))) = true then (((0 : Int) ≤ x5 ∧ x5.toNat < a0_p.Funcs.length)) ∧ ((Lt.preFF (a0_p.Funcs.getD x5.toNat default) a1_most)) ∧ (fun y1 y2 => F_Few_l4 a0_p a1_most KK n9 y1 y2) (IntKind.i64.wrap (x4 + (Lt.FewFunc (a0_p.Funcs.getD x5.toNat default) a1_most))) (IntKind.i64.wrap (x5 + 1)) else F_Few_j3 a1_most x4 KK

def F_Few_j2 (a0_p : Lt.Program) (a1_most : Int) (x2 : Int) (KK : (Bool) → Prop) : Prop :=
  ∃ n9, F_Few_l4 a0_p a1_most KK n9 x2 0

def F_Few_l5 (a0_p : Lt.Program) (a1_most : Int) (KK : (Bool) → Prop) : Nat → Int → Int → Prop
  | 0, _, _ => False
  | n16 + 1, x6, x7 => if ((decide (x7 < (a0_p.Externs.length : Int))) && (decide (x6 ≤ a1_most))) = true then (((0 : Int) ≤ x7 ∧ x7.toNat < a0_p.Externs.length)) ∧ (((a0_p.Externs.getD x7.toNat default).Name).length ≤ 4611686018427387904 → (fun y1 y2 => F_Few_l5 a0_p a1_most KK n16 y1 y2) (IntKind.i64.wrap ((IntKind.i64.wrap (x6 + 1)) + (((a0_p.Externs.getD x7.toNat default).Name).length : Int))) (IntKind.i64.wrap (x7 + 1))) else F_Few_j2 a0_p a1_most x6 KK

def F_Few_j1 (a0_p : Lt.Program) (a1_most : Int) (x1 : Int) (KK : (Bool) → Prop) : Prop :=
  ∃ n16, F_Few_l5 a0_p a1_most KK n16 x1 0

def F_Few_j7 (x9 : Int) (R23 : Int → Int → Prop) (x10 : Int) (KK : (Bool) → Prop) : Prop :=
  R23 x10 (IntKind.i64.wrap (x9 + 1))

def F_Few_l6 (a0_p : Lt.Program) (a1_most : Int) (KK : (Bool) → Prop) : Nat → Int → Int → Prop
  | 0, _, _ => False
  | n23 + 1, x8, x9 => if ((decide (x9 < (a0_p.Classes.length : Int))) && (decide (x8 ≤ a1_most))) = true then (((0 : Int) ≤ x9 ∧ x9.toNat < a0_p.Classes.length)) ∧ (((a0_p.Classes.getD x9.toNat default).Name).length ≤ 4611686018427387904 → if (decide ((IntKind.i64.wrap (x8 + (((a0_p.Classes.getD x9.toNat default).Name).length : Int))) ≤ a1_most)) = true then (((0 : Int) ≤ x9 ∧ x9.toNat < a0_p.Classes.length)) ∧ F_Few_j7 x9 (fun y1 y2 => F_Few_l6 a0_p a1_most KK n23 y1 y2) (IntKind.i64.wrap ((IntKind.i64.wrap (x8 + (((a0_p.Classes.getD x9.toNat default).Name).length : Int))) + (Lt.countVars ((a0_p.Classes.getD x9.toNat default).Fields) a1_most))) KK else F_Few_j7 x9 (fun y1 y2 => F_Few_l6 a0_p a1_most KK n23 y1 y2) (IntKind.i64.wrap (x8 + (((a0_p.Classes.getD x9.toNat default).Name).length : Int))) KK) else F_Few_j1 a0_p a1_most x8 KK

def F_Few (a0_p : Lt.Program) (a1_most : Int) (KK : (Bool) → Prop) : Prop :=
  if (((decide (50 < (a0_p.Classes.length : Int))) || (decide (50 < (a0_p.Externs.length : Int)))) || (decide (50 < (a0_p.Funcs.length : Int)))) = true then KK false else ∃ n23, F_Few_l6 a0_p a1_most KK n23 (Lt.countVars a0_p.Globals a1_most) 0


def F_showRight_j3 (KK : (Bool) → Prop) : Prop :=
  KK true

def F_showRight_l4 (a0_p : Lt.Program) (KK : (Bool) → Prop) : Nat → Int → Prop
  | 0, _ => False
  | n8 + 1, x1 => if (decide (x1 < (a0_p.Funcs.length : Int))) = true then (((0 : Int) ≤ x1 ∧ x1.toNat < a0_p.Funcs.length)) ∧ if (!(Lt.showFunction (a0_p.Funcs.getD x1.toNat default))) = true then KK false else (fun y1 => F_showRight_l4 a0_p KK n8 y1) (IntKind.i64.wrap (x1 + 1)) else F_showRight_j3 KK

def F_showRight_j2 (a0_p : Lt.Program) (KK : (Bool) → Prop) : Prop :=
  (a0_p.Funcs.length ≤ 4611686018427387904 → ∃ n8, F_showRight_l4 a0_p KK n8 0)

def F_showRight_l5 (a0_p : Lt.Program) (KK : (Bool) → Prop) : Nat → Int → Prop
  | 0, _ => False
  | n18 + 1, x2 => if (decide (x2 < (a0_p.Externs.length : Int))) = true then (((0 : Int) ≤ x2 ∧ x2.toNat < a0_p.Externs.length)) ∧ if (((!(Lt.Name ((a0_p.Externs.getD x2.toNat default).Name))) || (decide ((a0_p.Externs.getD x2.toNat default).N < 0))) || (decide (8 < (a0_p.Externs.getD x2.toNat default).N))) = true then KK false else (fun y1 => F_showRight_l5 a0_p KK n18 y1) (IntKind.i64.wrap (x2 + 1)) else F_showRight_j2 a0_p KK

def F_showRight_j1 (a0_p : Lt.Program) (KK : (Bool) → Prop) : Prop :=
  (a0_p.Externs.length ≤ 4611686018427387904 → ∃ n18, F_showRight_l5 a0_p KK n18 0)

def F_showRight_l6 (a0_p : Lt.Program) (KK : (Bool) → Prop) : Nat → Int → Prop
  | 0, _ => False
  | n28 + 1, x3 => if (decide (x3 < (a0_p.Classes.length : Int))) = true then (((0 : Int) ≤ x3 ∧ x3.toNat < a0_p.Classes.length)) ∧ if ((!(Lt.Name ((a0_p.Classes.getD x3.toNat default).Name))) || (!(Lt.typed ((a0_p.Classes.getD x3.toNat default).Fields) 8))) = true then KK false else (fun y1 => F_showRight_l6 a0_p KK n28 y1) (IntKind.i64.wrap (x3 + 1)) else F_showRight_j1 a0_p KK

def F_showRight (a0_p : Lt.Program) (KK : (Bool) → Prop) : Prop :=
  if ((((decide (8 < (a0_p.Classes.length : Int))) || (decide (8 < (a0_p.Externs.length : Int)))) || (decide (8 < (a0_p.Funcs.length : Int)))) || (!(Lt.typed a0_p.Globals 8))) = true then KK false else (a0_p.Classes.length ≤ 4611686018427387904 → ∃ n28, F_showRight_l6 a0_p KK n28 0)


def F_showText_j4 (x4 : List Lt.Line) (KK : (List UInt8 × Int) → Prop) : Prop :=
  ((Lt.preJoin x4)) ∧ ((Lt.Join x4).length ≤ 4611686018427387904 → if (decide (4194304 < ((Lt.Join x4).length : Int))) = true then KK (([] : List UInt8), 2) else KK ((Lt.Join x4), 0))

def F_showText_l5 (a0_p : Lt.Program) (KK : (List UInt8 × Int) → Prop) : Nat → Int → (List Lt.Line) → Prop
  | 0, _, _ => False
  | n14 + 1, x5, x6 => if (decide (x5 < (a0_p.Funcs.length : Int))) = true then (((0 : Int) ≤ x5 ∧ x5.toNat < a0_p.Funcs.length)) ∧ ((Lt.preFunction (Lt.Sheet.mk x6) (a0_p.Funcs.getD x5.toNat default))) ∧ (fun y1 y2 => F_showText_l5 a0_p KK n14 y1 y2) (IntKind.i64.wrap (x5 + 1)) (((Lt.sheetFunction (Lt.Sheet.mk x6) (a0_p.Funcs.getD x5.toNat default)).2).l) else F_showText_j4 x6 KK

def F_showText_j3 (a0_p : Lt.Program) (x3 : List Lt.Line) (KK : (List UInt8 × Int) → Prop) : Prop :=
  (a0_p.Funcs.length ≤ 4611686018427387904 → ∃ n14, F_showText_l5 a0_p KK n14 0 x3)

def F_showText_l6 (a0_p : Lt.Program) (KK : (List UInt8 × Int) → Prop) : Nat → Int → (List Lt.Line) → Prop
  | 0, _, _ => False
  | n22 + 1, x7, x8 => if (decide (x7 < (a0_p.Externs.length : Int))) = true then (((0 : Int) ≤ x7 ∧ x7.toNat < a0_p.Externs.length)) ∧ ((Lt.preNum ((a0_p.Externs.getD x7.toNat default).N))) ∧ ((Lt.preLine (Lt.Sheet.mk x8) [[101, 120, 116, 101, 114, 110], (a0_p.Externs.getD x7.toNat default).Name, (Lt.number ((a0_p.Externs.getD x7.toNat default).N))])) ∧ (fun y1 y2 => F_showText_l6 a0_p KK n22 y1 y2) (IntKind.i64.wrap (x7 + 1)) (((Lt.sheetLine (Lt.Sheet.mk x8) [[101, 120, 116, 101, 114, 110], (a0_p.Externs.getD x7.toNat default).Name, (Lt.number ((a0_p.Externs.getD x7.toNat default).N))]).2).l) else F_showText_j3 a0_p x8 KK

def F_showText_j2 (a0_p : Lt.Program) (x2 : List Lt.Line) (KK : (List UInt8 × Int) → Prop) : Prop :=
  ((Lt.preVars (Lt.Sheet.mk x2) [103, 108, 111, 98, 97, 108] a0_p.Globals)) ∧ (a0_p.Externs.length ≤ 4611686018427387904 → ∃ n22, F_showText_l6 a0_p KK n22 0 (((Lt.sheetVars (Lt.Sheet.mk x2) [103, 108, 111, 98, 97, 108] a0_p.Globals).2).l))

def F_showText_l7 (a0_p : Lt.Program) (KK : (List UInt8 × Int) → Prop) : Nat → Int → (List Lt.Line) → Prop
  | 0, _, _ => False
  | n30 + 1, x9, x10 => if (decide (x9 < (a0_p.Classes.length : Int))) = true then (((0 : Int) ≤ x9 ∧ x9.toNat < a0_p.Classes.length)) ∧ ((Lt.preLine (Lt.Sheet.mk x10) [[99, 108, 97, 115, 115], (a0_p.Classes.getD x9.toNat default).Name])) ∧ ((Lt.preVars ((Lt.sheetLine (Lt.Sheet.mk x10) [[99, 108, 97, 115, 115], (a0_p.Classes.getD x9.toNat default).Name]).2) [102, 105, 101, 108, 100] ((a0_p.Classes.getD x9.toNat default).Fields))) ∧ (fun y1 y2 => F_showText_l7 a0_p KK n30 y1 y2) (IntKind.i64.wrap (x9 + 1)) (((Lt.sheetVars ((Lt.sheetLine (Lt.Sheet.mk x10) [[99, 108, 97, 115, 115], (a0_p.Classes.getD x9.toNat default).Name]).2) [102, 105, 101, 108, 100] ((a0_p.Classes.getD x9.toNat default).Fields)).2).l) else F_showText_j2 a0_p x10 KK

def F_showText_j1 (a0_p : Lt.Program) (x1 : List Lt.Line) (KK : (List UInt8 × Int) → Prop) : Prop :=
  (a0_p.Classes.length ≤ 4611686018427387904 → ∃ n30, F_showText_l7 a0_p KK n30 0 x1)

def F_showText (a0_p : Lt.Program) (KK : (List UInt8 × Int) → Prop) : Prop :=
  if (!(Lt.showRight a0_p)) = true then KK (([] : List UInt8), 1) else if a0_p.SSA = true then ((Lt.preLine (Lt.Sheet.mk []) [[115, 115, 97]])) ∧ F_showText_j1 a0_p (((Lt.sheetLine (Lt.Sheet.mk []) [[115, 115, 97]]).2).l) KK else F_showText_j1 a0_p [] KK


def F_Same_j3 (KK : (Bool) → Prop) : Prop :=
  KK true

def F_Same_l4 (a0_a : Lt.Program) (a1_b : Lt.Program) (KK : (Bool) → Prop) : Nat → Int → Prop
  | 0, _ => False
  | n8 + 1, x1 => (a0_a.Funcs.length ≤ 4611686018427387904 → if (decide (x1 < (a0_a.Funcs.length : Int))) = true then (((0 : Int) ≤ x1 ∧ x1.toNat < a0_a.Funcs.length)) ∧ (((0 : Int) ≤ x1 ∧ x1.toNat < a1_b.Funcs.length)) ∧ if (!(Lt.SameFunc (a0_a.Funcs.getD x1.toNat default) (a1_b.Funcs.getD x1.toNat default))) = true then KK false else (fun y1 => F_Same_l4 a0_a a1_b KK n8 y1) (IntKind.i64.wrap (x1 + 1)) else F_Same_j3 KK)

def F_Same_j2 (a0_a : Lt.Program) (a1_b : Lt.Program) (KK : (Bool) → Prop) : Prop :=
  ∃ n8, F_Same_l4 a0_a a1_b KK n8 0

def F_Same_l5 (a0_a : Lt.Program) (a1_b : Lt.Program) (KK : (Bool) → Prop) : Nat → Int → Prop
  | 0, _ => False
  | n17 + 1, x2 => (a0_a.Externs.length ≤ 4611686018427387904 → if (decide (x2 < (a0_a.Externs.length : Int))) = true then (((0 : Int) ≤ x2 ∧ x2.toNat < a0_a.Externs.length)) ∧ (((0 : Int) ≤ x2 ∧ x2.toNat < a1_b.Externs.length)) ∧ if (!(decide ((a0_a.Externs.getD x2.toNat default).Name = (a1_b.Externs.getD x2.toNat default).Name) && decide ((a0_a.Externs.getD x2.toNat default).N = (a1_b.Externs.getD x2.toNat default).N))) = true then KK false else (fun y1 => F_Same_l5 a0_a a1_b KK n17 y1) (IntKind.i64.wrap (x2 + 1)) else F_Same_j2 a0_a a1_b KK)

def F_Same_j1 (a0_a : Lt.Program) (a1_b : Lt.Program) (KK : (Bool) → Prop) : Prop :=
  ∃ n17, F_Same_l5 a0_a a1_b KK n17 0

def F_Same_l6 (a0_a : Lt.Program) (a1_b : Lt.Program) (KK : (Bool) → Prop) : Nat → Int → Prop
  | 0, _ => False
  | n26 + 1, x3 => (a0_a.Classes.length ≤ 4611686018427387904 → if (decide (x3 < (a0_a.Classes.length : Int))) = true then (((0 : Int) ≤ x3 ∧ x3.toNat < a0_a.Classes.length)) ∧ (((0 : Int) ≤ x3 ∧ x3.toNat < a1_b.Classes.length)) ∧ ((!decide ((a0_a.Classes.getD x3.toNat default).Name = (a1_b.Classes.getD x3.toNat default).Name)) = false → ((0 : Int) ≤ x3 ∧ x3.toNat < a0_a.Classes.length)) ∧ ((!decide ((a0_a.Classes.getD x3.toNat default).Name = (a1_b.Classes.getD x3.toNat default).Name)) = false → ((0 : Int) ≤ x3 ∧ x3.toNat < a1_b.Classes.length)) ∧ if ((!decide ((a0_a.Classes.getD x3.toNat default).Name = (a1_b.Classes.getD x3.toNat default).Name)) || (!(Lt.sameVars ((a0_a.Classes.getD x3.toNat default).Fields) ((a1_b.Classes.getD x3.toNat default).Fields)))) = true then KK false else (fun y1 => F_Same_l6 a0_a a1_b KK n26 y1) (IntKind.i64.wrap (x3 + 1)) else F_Same_j1 a0_a a1_b KK)

def F_Same (a0_a : Lt.Program) (a1_b : Lt.Program) (KK : (Bool) → Prop) : Prop :=
  if (((((!(a0_a.SSA == a1_b.SSA)) || (!decide ((a0_a.Classes.length : Int) = (a1_b.Classes.length : Int)))) || (!(Lt.sameVars a0_a.Globals a1_b.Globals))) || (!decide ((a0_a.Externs.length : Int) = (a1_b.Externs.length : Int)))) || (!decide ((a0_a.Funcs.length : Int) = (a1_b.Funcs.length : Int)))) = true then KK false else ∃ n26, F_Same_l6 a0_a a1_b KK n26 0


def F_example6 (a0_end : Lt.Term) (KK : (Lt.Program) → Prop) : Prop :=
  KK (Lt.Program.mk false [] [] [] [(Lt.Func.mk [102] [105, 110, 116] [] [] [(Lt.Block.mk [98] [] [] a0_end)])])


def F_countVars_j1 (x1 : Int) (KK : (Int) → Prop) : Prop :=
  KK x1

def F_countVars_j3 (x3 : Int) (R9 : Int → Int → Prop) (x4 : Int) (KK : (Int) → Prop) : Prop :=
  R9 x4 (IntKind.i64.wrap (x3 + 1))

def F_countVars_l2 (a0_l : List Lt.Var) (a1_most : Int) (KK : (Int) → Prop) : Nat → Int → Int → Prop
  | 0, _, _ => False
  | n9 + 1, x2, x3 => if ((decide (x3 < (a0_l.length : Int))) && (decide (x2 ≤ a1_most))) = true then (((0 : Int) ≤ x3 ∧ x3.toNat < a0_l.length)) ∧ (((a0_l.getD x3.toNat default).Name).length ≤ 4611686018427387904 → if (decide ((IntKind.i64.wrap (x2 + (((a0_l.getD x3.toNat default).Name).length : Int))) ≤ a1_most)) = true then (((0 : Int) ≤ x3 ∧ x3.toNat < a0_l.length)) ∧ (((a0_l.getD x3.toNat default).Type_).length ≤ 4611686018427387904 → F_countVars_j3 x3 (fun y1 y2 => F_countVars_l2 a0_l a1_most KK n9 y1 y2) (IntKind.i64.wrap ((IntKind.i64.wrap (x2 + (((a0_l.getD x3.toNat default).Name).length : Int))) + (((a0_l.getD x3.toNat default).Type_).length : Int))) KK) else F_countVars_j3 x3 (fun y1 y2 => F_countVars_l2 a0_l a1_most KK n9 y1 y2) (IntKind.i64.wrap (x2 + (((a0_l.getD x3.toNat default).Name).length : Int))) KK) else F_countVars_j1 x2 KK

def F_countVars (a0_l : List Lt.Var) (a1_most : Int) (KK : (Int) → Prop) : Prop :=
  (a0_l.length ≤ 4611686018427387904 → if (decide (a1_most < (a0_l.length : Int))) = true then KK (IntKind.i64.wrap (a1_most + 1)) else (a0_l.length ≤ 4611686018427387904 → ∃ n9, F_countVars_l2 a0_l a1_most KK n9 (a0_l.length : Int) 0))


def F_FewFunc_j4 (x4 : Int) (KK : (Int) → Prop) : Prop :=
  KK x4

def F_FewFunc_l5 (a0_f : Lt.Func) (a1_most : Int) (KK : (Int) → Prop) : Nat → Int → Int → Prop
  | 0, _, _ => False
  | n9 + 1, x5, x6 => if ((decide (x6 < (a0_f.Blocks.length : Int))) && (decide (x5 ≤ a1_most))) = true then (((0 : Int) ≤ x6 ∧ x6.toNat < a0_f.Blocks.length)) ∧ ((Lt.preCB (Lt.Block.mk ((a0_f.Blocks.getD x6.toNat default).Name) ((a0_f.Blocks.getD x6.toNat default).Phis) ((a0_f.Blocks.getD x6.toNat default).Code) (Lt.Term.mk (((a0_f.Blocks.getD x6.toNat default).End).Kind) (((a0_f.Blocks.getD x6.toNat default).End).A) (((a0_f.Blocks.getD x6.toNat default).End).To) (((a0_f.Blocks.getD x6.toNat default).End).N))) a1_most)) ∧ (fun y1 y2 => F_FewFunc_l5 a0_f a1_most KK n9 y1 y2) (IntKind.i64.wrap (x5 + (Lt.countBlock (Lt.Block.mk ((a0_f.Blocks.getD x6.toNat default).Name) ((a0_f.Blocks.getD x6.toNat default).Phis) ((a0_f.Blocks.getD x6.toNat default).Code) (Lt.Term.mk (((a0_f.Blocks.getD x6.toNat default).End).Kind) (((a0_f.Blocks.getD x6.toNat default).End).A) (((a0_f.Blocks.getD x6.toNat default).End).To) (((a0_f.Blocks.getD x6.toNat default).End).N))) a1_most))) (IntKind.i64.wrap (x6 + 1)) else F_FewFunc_j4 x5 KK

def F_FewFunc_j3 (a0_f : Lt.Func) (a1_most : Int) (x3 : Int) (KK : (Int) → Prop) : Prop :=
  ∃ n9, F_FewFunc_l5 a0_f a1_most KK n9 x3 0

def F_FewFunc_j2 (a0_f : Lt.Func) (a1_most : Int) (x2 : Int) (KK : (Int) → Prop) : Prop :=
  if (decide (x2 ≤ a1_most)) = true then F_FewFunc_j3 a0_f a1_most (IntKind.i64.wrap (x2 + (Lt.countVars a0_f.Vars a1_most))) KK else F_FewFunc_j3 a0_f a1_most x2 KK

def F_FewFunc_j1 (a0_f : Lt.Func) (a1_most : Int) (x1 : Int) (KK : (Int) → Prop) : Prop :=
  if (decide (x1 ≤ a1_most)) = true then F_FewFunc_j2 a0_f a1_most (IntKind.i64.wrap (x1 + (Lt.countVars a0_f.Params a1_most))) KK else F_FewFunc_j2 a0_f a1_most x1 KK

def F_FewFunc (a0_f : Lt.Func) (a1_most : Int) (KK : (Int) → Prop) : Prop :=
  (a0_f.Blocks.length ≤ 4611686018427387904 → if (decide (a1_most < (a0_f.Blocks.length : Int))) = true then KK (IntKind.i64.wrap (a1_most + 1)) else (a0_f.Name.length ≤ 4611686018427387904 → if (decide ((IntKind.i64.wrap (1 + (a0_f.Name.length : Int))) ≤ a1_most)) = true then (a0_f.Result.length ≤ 4611686018427387904 → F_FewFunc_j1 a0_f a1_most (IntKind.i64.wrap ((IntKind.i64.wrap (1 + (a0_f.Name.length : Int))) + (a0_f.Result.length : Int))) KK) else F_FewFunc_j1 a0_f a1_most (IntKind.i64.wrap (1 + (a0_f.Name.length : Int))) KK))


def F_typed_j1 (KK : (Bool) → Prop) : Prop :=
  KK true

def F_typed_l2 (a0_l : List Lt.Var) (KK : (Bool) → Prop) : Nat → Int → Prop
  | 0, _ => False
  | n8 + 1, x1 => if (decide (x1 < (a0_l.length : Int))) = true then (((0 : Int) ≤ x1 ∧ x1.toNat < a0_l.length)) ∧ if ((!(Lt.Name ((a0_l.getD x1.toNat default).Name))) || (!(Lt.kind ((a0_l.getD x1.toNat default).Type_)))) = true then KK false else (fun y1 => F_typed_l2 a0_l KK n8 y1) (IntKind.i64.wrap (x1 + 1)) else F_typed_j1 KK

def F_typed (a0_l : List Lt.Var) (a1_most : Int) (KK : (Bool) → Prop) : Prop :=
  (a0_l.length ≤ 4611686018427387904 → if (decide (a1_most < (a0_l.length : Int))) = true then KK false else (a0_l.length ≤ 4611686018427387904 → ∃ n8, F_typed_l2 a0_l KK n8 0))


def F_Name_j1 (KK : (Bool) → Prop) : Prop :=
  KK true

def F_Name_l2 (a0_s : List UInt8) (KK : (Bool) → Prop) : Nat → Int → Prop
  | 0, _ => False
  | n8 + 1, x1 => if (decide (x1 < (a0_s.length : Int))) = true then (((0 : Int) ≤ x1 ∧ x1.toNat < a0_s.length)) ∧ ((!(Lt.letter (((a0_s.getD x1.toNat 0).toNat : Nat) : Int))) = true → ((0 : Int) ≤ x1 ∧ x1.toNat < a0_s.length)) ∧ if ((!(Lt.letter (((a0_s.getD x1.toNat 0).toNat : Nat) : Int))) && (!(Lt.wordDigit (((a0_s.getD x1.toNat 0).toNat : Nat) : Int)))) = true then KK false else (fun y1 => F_Name_l2 a0_s KK n8 y1) (IntKind.i64.wrap (x1 + 1)) else F_Name_j1 KK

def F_Name (a0_s : List UInt8) (KK : (Bool) → Prop) : Prop :=
  (((decide (a0_s = ([] : List UInt8))) || (decide (16 < (a0_s.length : Int)))) = false → ((0 : Int) ≤ 0 ∧ 0 < a0_s.length)) ∧ if ((((decide (a0_s = ([] : List UInt8))) || (decide (16 < (a0_s.length : Int)))) || (!(Lt.letter (((a0_s.getD 0 0).toNat : Nat) : Int)))) || (Lt.kept a0_s)) = true then KK false else (a0_s.length ≤ 4611686018427387904 → ∃ n8, F_Name_l2 a0_s KK n8 0)


def F_showFunction_j1 (KK : (Bool) → Prop) : Prop :=
  KK true

def F_showFunction_l2 (a0_f : Lt.Func) (KK : (Bool) → Prop) : Nat → Int → Int → Prop
  | 0, _, _ => False
  | n9 + 1, x1, x2 => if (decide (x2 < (a0_f.Blocks.length : Int))) = true then (((0 : Int) ≤ x2 ∧ x2.toNat < a0_f.Blocks.length)) ∧ if ((decide (1024 < (((a0_f.Blocks.getD x2.toNat default).Phis).length : Int))) || (decide (1024 < (((a0_f.Blocks.getD x2.toNat default).Code).length : Int)))) = true then KK false else (((a0_f.Blocks.getD x2.toNat default).Phis).length ≤ 4611686018427387904 → (((a0_f.Blocks.getD x2.toNat default).Code).length ≤ 4611686018427387904 → if ((decide (1024 < (IntKind.i64.wrap (x1 + (IntKind.i64.wrap ((((a0_f.Blocks.getD x2.toNat default).Phis).length : Int) + (((a0_f.Blocks.getD x2.toNat default).Code).length : Int))))))) || (!(Lt.block (Lt.Block.mk ((a0_f.Blocks.getD x2.toNat default).Name) ((a0_f.Blocks.getD x2.toNat default).Phis) ((a0_f.Blocks.getD x2.toNat default).Code) (Lt.Term.mk (((a0_f.Blocks.getD x2.toNat default).End).Kind) (((a0_f.Blocks.getD x2.toNat default).End).A) (((a0_f.Blocks.getD x2.toNat default).End).To) (((a0_f.Blocks.getD x2.toNat default).End).N)))))) = true then KK false else (fun y1 y2 => F_showFunction_l2 a0_f KK n9 y1 y2) (IntKind.i64.wrap (x1 + (IntKind.i64.wrap ((((a0_f.Blocks.getD x2.toNat default).Phis).length : Int) + (((a0_f.Blocks.getD x2.toNat default).Code).length : Int))))) (IntKind.i64.wrap (x2 + 1)))) else F_showFunction_j1 KK

def F_showFunction (a0_f : Lt.Func) (KK : (Bool) → Prop) : Prop :=
  if ((((((!(Lt.Name a0_f.Name)) || (!(Lt.kind a0_f.Result))) || (!(Lt.typed a0_f.Params 6))) || (!(Lt.typed a0_f.Vars 1024))) || (decide ((a0_f.Blocks.length : Int) = 0))) || (decide (256 < (a0_f.Blocks.length : Int)))) = true then KK false else (a0_f.Blocks.length ≤ 4611686018427387904 → ∃ n9, F_showFunction_l2 a0_f KK n9 0 0)


def F_sheetLine (a0_s : Lt.Sheet) (a1_words : List (List UInt8)) (KK : (Unit × Lt.Sheet) → Prop) : Prop :=
  (((a0_s.l.length + 1) ≤ 4611686018427387904 ∧ (a0_s.l.length + 1) * 32 ≤ 140737488355328)) ∧ KK ((), (Lt.Sheet.mk (a0_s.l ++ [(Lt.Line.mk 0 a1_words)])))


def F_sheetVars_l1 (a1_first : List UInt8) (a2_l : List Lt.Var) (KK : (Unit × Lt.Sheet) → Prop) : Nat → Int → (List Lt.Line) → Prop
  | 0, _, _ => False
  | n3 + 1, x1, x2 => if (decide (x1 < (a2_l.length : Int))) = true then (((0 : Int) ≤ x1 ∧ x1.toNat < a2_l.length)) ∧ ((Lt.preLine (Lt.Sheet.mk x2) [a1_first, (a2_l.getD x1.toNat default).Name, (a2_l.getD x1.toNat default).Type_])) ∧ (fun y1 y2 => F_sheetVars_l1 a1_first a2_l KK n3 y1 y2) (IntKind.i64.wrap (x1 + 1)) (((Lt.sheetLine (Lt.Sheet.mk x2) [a1_first, (a2_l.getD x1.toNat default).Name, (a2_l.getD x1.toNat default).Type_]).2).l) else KK ((), (Lt.Sheet.mk x2))

def F_sheetVars (a0_s : Lt.Sheet) (a1_first : List UInt8) (a2_l : List Lt.Var) (KK : (Unit × Lt.Sheet) → Prop) : Prop :=
  (a2_l.length ≤ 4611686018427387904 → ∃ n3, F_sheetVars_l1 a1_first a2_l KK n3 0 a0_s.l)


def F_number (a0_n : Int) (KK : (List UInt8) → Prop) : Prop :=
  ((Lt.preNum a0_n)) ∧ KK (Lt.numPut a0_n)


def F_sheetFunction_j2 (x1 : Int) (R7 : Int → (List Lt.Line) → Prop) (x3 : List Lt.Line) (KK : (Unit × Lt.Sheet) → Prop) : Prop :=
  R7 (IntKind.i64.wrap (x1 + 1)) x3

def F_sheetFunction_j4 (a1_f : Lt.Func) (x1 : Int) (R7 : Int → (List Lt.Line) → Prop) (x5 : List Lt.Line) (KK : (Unit × Lt.Sheet) → Prop) : Prop :=
  ((Lt.preEnd (Lt.Sheet.mk x5) (Lt.Term.mk (((a1_f.Blocks.getD x1.toNat default).End).Kind) (((a1_f.Blocks.getD x1.toNat default).End).A) (((a1_f.Blocks.getD x1.toNat default).End).To) (((a1_f.Blocks.getD x1.toNat default).End).N)))) ∧ F_sheetFunction_j2 x1 R7 (((Lt.sheetEnd (Lt.Sheet.mk x5) (Lt.Term.mk (((a1_f.Blocks.getD x1.toNat default).End).Kind) (((a1_f.Blocks.getD x1.toNat default).End).A) (((a1_f.Blocks.getD x1.toNat default).End).To) (((a1_f.Blocks.getD x1.toNat default).End).N))).2).l) KK

def F_sheetFunction_l5 (a1_f : Lt.Func) (x1 : Int) (R7 : Int → (List Lt.Line) → Prop) (KK : (Unit × Lt.Sheet) → Prop) : Nat → Int → (List Lt.Line) → Prop
  | 0, _, _ => False
  | n15 + 1, x6, x7 => if (decide (x6 < (((a1_f.Blocks.getD x1.toNat default).Code).length : Int))) = true then (((0 : Int) ≤ x6 ∧ x6.toNat < ((a1_f.Blocks.getD x1.toNat default).Code).length)) ∧ ((Lt.preCode (Lt.Sheet.mk x7) (((a1_f.Blocks.getD x1.toNat default).Code).getD x6.toNat default))) ∧ (fun y1 y2 => F_sheetFunction_l5 a1_f x1 R7 KK n15 y1 y2) (IntKind.i64.wrap (x6 + 1)) (((Lt.sheetCode (Lt.Sheet.mk x7) (((a1_f.Blocks.getD x1.toNat default).Code).getD x6.toNat default)).2).l) else F_sheetFunction_j4 a1_f x1 R7 x7 KK

def F_sheetFunction_j3 (a1_f : Lt.Func) (x1 : Int) (R7 : Int → (List Lt.Line) → Prop) (x4 : List Lt.Line) (KK : (Unit × Lt.Sheet) → Prop) : Prop :=
  (((a1_f.Blocks.getD x1.toNat default).Code).length ≤ 4611686018427387904 → ∃ n15, F_sheetFunction_l5 a1_f x1 R7 KK n15 0 x4)

def F_sheetFunction_j7 (x8 : Int) (R23 : Int → (List Lt.Line) → Prop) (x10 : List Lt.Line) (KK : (Unit × Lt.Sheet) → Prop) : Prop :=
  R23 (IntKind.i64.wrap (x8 + 1)) x10

def F_sheetFunction_j8 (x8 : Int) (x9 : List Lt.Line) (R23 : Int → (List Lt.Line) → Prop) (x11 : List (List UInt8)) (KK : (Unit × Lt.Sheet) → Prop) : Prop :=
  ((Lt.preLine (Lt.Sheet.mk x9) x11)) ∧ F_sheetFunction_j7 x8 R23 (((Lt.sheetLine (Lt.Sheet.mk x9) x11).2).l) KK

def F_sheetFunction_l9 (a1_f : Lt.Func) (x1 : Int) (x8 : Int) (x9 : List Lt.Line) (R23 : Int → (List Lt.Line) → Prop) (KK : (Unit × Lt.Sheet) → Prop) : Nat → (List (List UInt8)) → Int → Prop
  | 0, _, _ => False
  | n31 + 1, x12, x13 => if (decide (x13 < (((((a1_f.Blocks.getD x1.toNat default).Phis).getD x8.toNat default).Ins).length : Int))) = true then (((0 : Int) ≤ x13 ∧ x13.toNat < ((((a1_f.Blocks.getD x1.toNat default).Phis).getD x8.toNat default).Ins).length)) ∧ ((Lt.prePut ((((((a1_f.Blocks.getD x1.toNat default).Phis).getD x8.toNat default).Ins).getD x13.toNat default).A))) ∧ (((x12.length + 2) ≤ 4611686018427387904 ∧ (x12.length + 2) * 16 ≤ 140737488355328)) ∧ (fun y1 y2 => F_sheetFunction_l9 a1_f x1 x8 x9 R23 KK n31 y1 y2) (x12 ++ [(((((a1_f.Blocks.getD x1.toNat default).Phis).getD x8.toNat default).Ins).getD x13.toNat default).Block, (Lt.wordPut ((((((a1_f.Blocks.getD x1.toNat default).Phis).getD x8.toNat default).Ins).getD x13.toNat default).A))]) (IntKind.i64.wrap (x13 + 1)) else F_sheetFunction_j8 x8 x9 R23 x12 KK

def F_sheetFunction_l6 (a1_f : Lt.Func) (x1 : Int) (R7 : Int → (List Lt.Line) → Prop) (KK : (Unit × Lt.Sheet) → Prop) : Nat → Int → (List Lt.Line) → Prop
  | 0, _, _ => False
  | n23 + 1, x8, x9 => if (decide (x8 < (((a1_f.Blocks.getD x1.toNat default).Phis).length : Int))) = true then (((0 : Int) ≤ x8 ∧ x8.toNat < ((a1_f.Blocks.getD x1.toNat default).Phis).length)) ∧ (((((a1_f.Blocks.getD x1.toNat default).Phis).getD x8.toNat default).Ins).length ≤ 4611686018427387904 → ∃ n31, F_sheetFunction_l9 a1_f x1 x8 x9 (fun y1 y2 => F_sheetFunction_l6 a1_f x1 R7 KK n23 y1 y2) KK n31 [[112, 104, 105], (((a1_f.Blocks.getD x1.toNat default).Phis).getD x8.toNat default).Dst] 0) else F_sheetFunction_j3 a1_f x1 R7 x9 KK

def F_sheetFunction_l1 (a1_f : Lt.Func) (KK : (Unit × Lt.Sheet) → Prop) : Nat → Int → (List Lt.Line) → Prop
  | 0, _, _ => False
  | n7 + 1, x1, x2 => if (decide (x1 < (a1_f.Blocks.length : Int))) = true then (((0 : Int) ≤ x1 ∧ x1.toNat < a1_f.Blocks.length)) ∧ ((Lt.preLine (Lt.Sheet.mk x2) [[98, 108, 111, 99, 107], (a1_f.Blocks.getD x1.toNat default).Name])) ∧ (((a1_f.Blocks.getD x1.toNat default).Phis).length ≤ 4611686018427387904 → ∃ n23, F_sheetFunction_l6 a1_f x1 (fun y1 y2 => F_sheetFunction_l1 a1_f KK n7 y1 y2) KK n23 0 (((Lt.sheetLine (Lt.Sheet.mk x2) [[98, 108, 111, 99, 107], (a1_f.Blocks.getD x1.toNat default).Name]).2).l)) else KK ((), (Lt.Sheet.mk x2))

def F_sheetFunction (a0_s : Lt.Sheet) (a1_f : Lt.Func) (KK : (Unit × Lt.Sheet) → Prop) : Prop :=
  ((Lt.preLine a0_s [[102, 117, 110, 99], a1_f.Name, a1_f.Result])) ∧ ((Lt.preVars ((Lt.sheetLine a0_s [[102, 117, 110, 99], a1_f.Name, a1_f.Result]).2) [112, 97, 114, 97, 109] a1_f.Params)) ∧ ((Lt.preVars ((Lt.sheetVars ((Lt.sheetLine a0_s [[102, 117, 110, 99], a1_f.Name, a1_f.Result]).2) [112, 97, 114, 97, 109] a1_f.Params).2) [118, 97, 114] a1_f.Vars)) ∧ (a1_f.Blocks.length ≤ 4611686018427387904 → ∃ n7, F_sheetFunction_l1 a1_f KK n7 0 (((Lt.sheetVars ((Lt.sheetVars ((Lt.sheetLine a0_s [[102, 117, 110, 99], a1_f.Name, a1_f.Result]).2) [112, 97, 114, 97, 109] a1_f.Params).2) [118, 97, 114] a1_f.Vars).2).l))


def F_sameVars_j1 (KK : (Bool) → Prop) : Prop :=
  KK true

def F_sameVars_l2 (a0_a : List Lt.Var) (a1_b : List Lt.Var) (KK : (Bool) → Prop) : Nat → Int → Prop
  | 0, _ => False
  | n8 + 1, x1 => (a0_a.length ≤ 4611686018427387904 → if (decide (x1 < (a0_a.length : Int))) = true then (((0 : Int) ≤ x1 ∧ x1.toNat < a0_a.length)) ∧ (((0 : Int) ≤ x1 ∧ x1.toNat < a1_b.length)) ∧ if (!(decide ((a0_a.getD x1.toNat default).Name = (a1_b.getD x1.toNat default).Name) && decide ((a0_a.getD x1.toNat default).Type_ = (a1_b.getD x1.toNat default).Type_))) = true then KK false else (fun y1 => F_sameVars_l2 a0_a a1_b KK n8 y1) (IntKind.i64.wrap (x1 + 1)) else F_sameVars_j1 KK)

def F_sameVars (a0_a : List Lt.Var) (a1_b : List Lt.Var) (KK : (Bool) → Prop) : Prop :=
  (a0_a.length ≤ 4611686018427387904 → (a1_b.length ≤ 4611686018427387904 → if (!decide ((a0_a.length : Int) = (a1_b.length : Int))) = true then KK false else ∃ n8, F_sameVars_l2 a0_a a1_b KK n8 0))


def F_SameFunc_j1 (KK : (Bool) → Prop) : Prop :=
  KK true

def F_SameFunc_l2 (a0_a : Lt.Func) (a1_b : Lt.Func) (KK : (Bool) → Prop) : Nat → Int → Prop
  | 0, _ => False
  | n8 + 1, x1 => (a0_a.Blocks.length ≤ 4611686018427387904 → if (decide (x1 < (a0_a.Blocks.length : Int))) = true then (((0 : Int) ≤ x1 ∧ x1.toNat < a0_a.Blocks.length)) ∧ (((0 : Int) ≤ x1 ∧ x1.toNat < a1_b.Blocks.length)) ∧ if (!(Lt.sameBlock (Lt.Block.mk ((a0_a.Blocks.getD x1.toNat default).Name) ((a0_a.Blocks.getD x1.toNat default).Phis) ((a0_a.Blocks.getD x1.toNat default).Code) (Lt.Term.mk (((a0_a.Blocks.getD x1.toNat default).End).Kind) (((a0_a.Blocks.getD x1.toNat default).End).A) (((a0_a.Blocks.getD x1.toNat default).End).To) (((a0_a.Blocks.getD x1.toNat default).End).N))) (Lt.Block.mk ((a1_b.Blocks.getD x1.toNat default).Name) ((a1_b.Blocks.getD x1.toNat default).Phis) ((a1_b.Blocks.getD x1.toNat default).Code) (Lt.Term.mk (((a1_b.Blocks.getD x1.toNat default).End).Kind) (((a1_b.Blocks.getD x1.toNat default).End).A) (((a1_b.Blocks.getD x1.toNat default).End).To) (((a1_b.Blocks.getD x1.toNat default).End).N))))) = true then KK false else (fun y1 => F_SameFunc_l2 a0_a a1_b KK n8 y1) (IntKind.i64.wrap (x1 + 1)) else F_SameFunc_j1 KK)

def F_SameFunc (a0_a : Lt.Func) (a1_b : Lt.Func) (KK : (Bool) → Prop) : Prop :=
  if (((((!decide (a0_a.Name = a1_b.Name)) || (!decide (a0_a.Result = a1_b.Result))) || (!(Lt.sameVars a0_a.Params a1_b.Params))) || (!(Lt.sameVars a0_a.Vars a1_b.Vars))) || (!decide ((a0_a.Blocks.length : Int) = (a1_b.Blocks.length : Int)))) = true then KK false else ∃ n8, F_SameFunc_l2 a0_a a1_b KK n8 0


def F_countBlock_j4 (x4 : Int) (KK : (Int) → Prop) : Prop :=
  KK x4

def F_countBlock_l5 (a0_b : Lt.Block) (a1_most : Int) (KK : (Int) → Prop) : Nat → Int → Int → Prop
  | 0, _, _ => False
  | n9 + 1, x5, x6 => if ((decide (x6 < (a0_b.Code.length : Int))) && (decide (x5 ≤ a1_most))) = true then (((0 : Int) ≤ x6 ∧ x6.toNat < a0_b.Code.length)) ∧ ((Lt.preCI (a0_b.Code.getD x6.toNat default) a1_most)) ∧ (fun y1 y2 => F_countBlock_l5 a0_b a1_most KK n9 y1 y2) (IntKind.i64.wrap (x5 + (Lt.countInstr (a0_b.Code.getD x6.toNat default) a1_most))) (IntKind.i64.wrap (x6 + 1)) else F_countBlock_j4 x5 KK

def F_countBlock_j3 (a0_b : Lt.Block) (a1_most : Int) (x3 : Int) (KK : (Int) → Prop) : Prop :=
  ∃ n9, F_countBlock_l5 a0_b a1_most KK n9 x3 0

def F_countBlock_j7 (x8 : Int) (R16 : Int → Int → Prop) (x9 : Int) (KK : (Int) → Prop) : Prop :=
  R16 x9 (IntKind.i64.wrap (x8 + 1))

def F_countBlock_j9 (x11 : Int) (R23 : Int → Int → Prop) (x12 : Int) (KK : (Int) → Prop) : Prop :=
  R23 x12 (IntKind.i64.wrap (x11 + 1))

def F_countBlock_l8 (a0_b : Lt.Block) (a1_most : Int) (x8 : Int) (R16 : Int → Int → Prop) (KK : (Int) → Prop) : Nat → Int → Int → Prop
  | 0, _, _ => False
  | n23 + 1, x10, x11 => (((0 : Int) ≤ x8 ∧ x8.toNat < a0_b.Phis.length)) ∧ if ((decide (x11 < (((a0_b.Phis.getD x8.toNat default).Ins).length : Int))) && (decide (x10 ≤ a1_most))) = true then (((0 : Int) ≤ x8 ∧ x8.toNat < a0_b.Phis.length)) ∧ (((0 : Int) ≤ x11 ∧ x11.toNat < ((a0_b.Phis.getD x8.toNat default).Ins).length)) ∧ (((((a0_b.Phis.getD x8.toNat default).Ins).getD x11.toNat default).Block).length ≤ 4611686018427387904 → if (decide ((IntKind.i64.wrap ((IntKind.i64.wrap (x10 + 1)) + (((((a0_b.Phis.getD x8.toNat default).Ins).getD x11.toNat default).Block).length : Int))) ≤ a1_most)) = true then (((0 : Int) ≤ x8 ∧ x8.toNat < a0_b.Phis.length)) ∧ (((0 : Int) ≤ x11 ∧ x11.toNat < ((a0_b.Phis.getD x8.toNat default).Ins).length)) ∧ ((((((a0_b.Phis.getD x8.toNat default).Ins).getD x11.toNat default).A).S).length ≤ 4611686018427387904 → F_countBlock_j9 x11 (fun y1 y2 => F_countBlock_l8 a0_b a1_most x8 R16 KK n23 y1 y2) (IntKind.i64.wrap ((IntKind.i64.wrap ((IntKind.i64.wrap (x10 + 1)) + (((((a0_b.Phis.getD x8.toNat default).Ins).getD x11.toNat default).Block).length : Int))) + ((((((a0_b.Phis.getD x8.toNat default).Ins).getD x11.toNat default).A).S).length : Int))) KK) else F_countBlock_j9 x11 (fun y1 y2 => F_countBlock_l8 a0_b a1_most x8 R16 KK n23 y1 y2) (IntKind.i64.wrap ((IntKind.i64.wrap (x10 + 1)) + (((((a0_b.Phis.getD x8.toNat default).Ins).getD x11.toNat default).Block).length : Int))) KK) else F_countBlock_j7 x8 R16 x10 KK

def F_countBlock_l6 (a0_b : Lt.Block) (a1_most : Int) (KK : (Int) → Prop) : Nat → Int → Int → Prop
  | 0, _, _ => False
  | n16 + 1, x7, x8 => if ((decide (x8 < (a0_b.Phis.length : Int))) && (decide (x7 ≤ a1_most))) = true then (((0 : Int) ≤ x8 ∧ x8.toNat < a0_b.Phis.length)) ∧ (((a0_b.Phis.getD x8.toNat default).Dst).length ≤ 4611686018427387904 → ∃ n23, F_countBlock_l8 a0_b a1_most x8 (fun y1 y2 => F_countBlock_l6 a0_b a1_most KK n16 y1 y2) KK n23 (IntKind.i64.wrap ((IntKind.i64.wrap (x7 + 1)) + (((a0_b.Phis.getD x8.toNat default).Dst).length : Int))) 0) else F_countBlock_j3 a0_b a1_most x7 KK

def F_countBlock_j2 (a0_b : Lt.Block) (a1_most : Int) (x2 : Int) (KK : (Int) → Prop) : Prop :=
  ∃ n16, F_countBlock_l6 a0_b a1_most KK n16 x2 0

def F_countBlock_l10 (a0_b : Lt.Block) (a1_most : Int) (KK : (Int) → Prop) : Nat → Int → Int → Prop
  | 0, _, _ => False
  | n31 + 1, x13, x14 => if ((decide (x14 < (a0_b.End.To.length : Int))) && (decide (x13 ≤ a1_most))) = true then (((0 : Int) ≤ x14 ∧ x14.toNat < a0_b.End.To.length)) ∧ ((a0_b.End.To.getD x14.toNat default).length ≤ 4611686018427387904 → (fun y1 y2 => F_countBlock_l10 a0_b a1_most KK n31 y1 y2) (IntKind.i64.wrap ((IntKind.i64.wrap (x13 + 1)) + ((a0_b.End.To.getD x14.toNat default).length : Int))) (IntKind.i64.wrap (x14 + 1))) else F_countBlock_j2 a0_b a1_most x13 KK

def F_countBlock_j1 (a0_b : Lt.Block) (a1_most : Int) (x1 : Int) (KK : (Int) → Prop) : Prop :=
  ∃ n31, F_countBlock_l10 a0_b a1_most KK n31 x1 0

def F_countBlock (a0_b : Lt.Block) (a1_most : Int) (KK : (Int) → Prop) : Prop :=
  if (((decide (a1_most < (a0_b.Phis.length : Int))) || (decide (a1_most < (a0_b.Code.length : Int)))) || (decide (a1_most < (a0_b.End.To.length : Int)))) = true then KK (IntKind.i64.wrap (a1_most + 1)) else (a0_b.Name.length ≤ 4611686018427387904 → if (decide ((IntKind.i64.wrap (1 + (a0_b.Name.length : Int))) ≤ a1_most)) = true then (a0_b.End.A.S.length ≤ 4611686018427387904 → F_countBlock_j1 a0_b a1_most (IntKind.i64.wrap ((IntKind.i64.wrap (1 + (a0_b.Name.length : Int))) + (a0_b.End.A.S.length : Int))) KK) else F_countBlock_j1 a0_b a1_most (IntKind.i64.wrap (1 + (a0_b.Name.length : Int))) KK)


def F_kind (a0_s : List UInt8) (KK : (Bool) → Prop) : Prop :=
  KK (((decide (a0_s = [105, 110, 116])) || (decide (a0_s = [102, 108, 111, 97, 116]))) || (Lt.Name a0_s))


def F_letter (a0_c : Int) (KK : (Bool) → Prop) : Prop :=
  KK ((((decide (97 ≤ a0_c)) && (decide (a0_c ≤ 122))) || ((decide (65 ≤ a0_c)) && (decide (a0_c ≤ 90)))) || (decide (a0_c = 95)))


def F_kept (a0_s : List UInt8) (KK : (Bool) → Prop) : Prop :=
  KK (((decide (a0_s = [110, 117, 108, 108])) || (decide (a0_s = [105, 110, 116]))) || (decide (a0_s = [102, 108, 111, 97, 116])))


def F_wordDigit (a0_c : Int) (KK : (Bool) → Prop) : Prop :=
  KK ((decide (48 ≤ a0_c)) && (decide (a0_c ≤ 57)))


def F_block_j2 (KK : (Bool) → Prop) : Prop :=
  KK true

def F_block_l3 (a0_b : Lt.Block) (KK : (Bool) → Prop) : Nat → Int → Prop
  | 0, _ => False
  | n8 + 1, x1 => if (decide (x1 < (a0_b.Code.length : Int))) = true then (((0 : Int) ≤ x1 ∧ x1.toNat < a0_b.Code.length)) ∧ if (!(Lt.instr (a0_b.Code.getD x1.toNat default))) = true then KK false else (fun y1 => F_block_l3 a0_b KK n8 y1) (IntKind.i64.wrap (x1 + 1)) else F_block_j2 KK

def F_block_j1 (a0_b : Lt.Block) (KK : (Bool) → Prop) : Prop :=
  (a0_b.Code.length ≤ 4611686018427387904 → ∃ n8, F_block_l3 a0_b KK n8 0)

def F_block_l4 (a0_b : Lt.Block) (KK : (Bool) → Prop) : Nat → Int → Prop
  | 0, _ => False
  | n18 + 1, x2 => if (decide (x2 < (a0_b.Phis.length : Int))) = true then (((0 : Int) ≤ x2 ∧ x2.toNat < a0_b.Phis.length)) ∧ if (!(Lt.phi (a0_b.Phis.getD x2.toNat default))) = true then KK false else (fun y1 => F_block_l4 a0_b KK n18 y1) (IntKind.i64.wrap (x2 + 1)) else F_block_j1 a0_b KK

def F_block (a0_b : Lt.Block) (KK : (Bool) → Prop) : Prop :=
  if ((!(Lt.Name a0_b.Name)) || (!(Lt.showEnd a0_b.End))) = true then KK false else (a0_b.Phis.length ≤ 4611686018427387904 → ∃ n18, F_block_l4 a0_b KK n18 0)


def F_numPut_j2 (x3 : Int) (x4 : List Int) (KK : (List UInt8) → Prop) : Prop :=
  (((0 : Int) ≤ x3 ∧ x3.toNat ≤ 20 ∧ 20 ≤ 20 ∧ x4.length = 20)) ∧ KK ((((x4.take 20).drop x3.toNat).take (20 - x3.toNat)).map fun n => UInt8.ofNat n.toNat)

def F_numPut_j1 (a0_n : Int) (x1 : Int) (x2 : List Int) (KK : (List UInt8) → Prop) : Prop :=
  if (decide (a0_n < 0)) = true then (((0 : Int) ≤ (IntKind.i64.wrap (x1 - 1)) ∧ (IntKind.i64.wrap (x1 - 1)) < 20 ∧ x2.length = 20)) ∧ F_numPut_j2 (IntKind.i64.wrap (x1 - 1)) (x2.set (IntKind.i64.wrap (x1 - 1)).toNat 45) KK else F_numPut_j2 x1 x2 KK

def F_numPut_l3 (a0_n : Int) (KK : (List UInt8) → Prop) : Nat → Int → Int → (List Int) → Prop
  | 0, _, _, _ => False
  | n9 + 1, x5, x6, x7 => (True) ∧ (((0 : Int) ≤ (IntKind.i64.wrap (x5 - 1)) ∧ (IntKind.i64.wrap (x5 - 1)) < 20 ∧ x7.length = 20)) ∧ (True) ∧ if (decide ((IntKind.i64.wrap (Int.tdiv x6 10)) = 0)) = true then F_numPut_j1 a0_n (IntKind.i64.wrap (x5 - 1)) (x7.set (IntKind.i64.wrap (x5 - 1)).toNat (Lt.numDigit (Int.tmod x6 10))) KK else (fun y1 y2 y3 => F_numPut_l3 a0_n KK n9 y1 y2 y3) (IntKind.i64.wrap (x5 - 1)) (IntKind.i64.wrap (Int.tdiv x6 10)) (x7.set (IntKind.i64.wrap (x5 - 1)).toNat (Lt.numDigit (Int.tmod x6 10)))

def F_numPut (a0_n : Int) (KK : (List UInt8) → Prop) : Prop :=
  ∃ n9, F_numPut_l3 a0_n KK n9 20 a0_n [0, 0, 0, 0, 0, 0, 0, 0, 0, 0, 0, 0, 0, 0, 0, 0, 0, 0, 0, 0]


def F_wordPut (a0_a : Lt.Arg) (KK : (List UInt8) → Prop) : Prop :=
  if (!(Lt.wordRight a0_a)) = true then KK ([] : List UInt8) else if (decide (a0_a.Kind = 2)) = true then ((Lt.preNum a0_a.N)) ∧ KK (Lt.numPut a0_a.N) else if (decide (a0_a.Kind = 3)) = true then KK (Lt.floPut a0_a.N) else if (decide (a0_a.Kind = 4)) = true then KK [110, 117, 108, 108] else if (decide (a0_a.Kind = 5)) = true then ((Lt.preNum a0_a.N)) ∧ ([35].length + (Lt.numPut a0_a.N).length ≤ 4611686018427387904) ∧ KK ([35] ++ (Lt.numPut a0_a.N)) else KK a0_a.S


def F_sheetCode_l4 (a1_i : Lt.Instr) (KK : (Unit × Lt.Sheet) → Prop) : Nat → Int → (List Lt.Line) → Prop
  | 0, _, _ => False
  | n9 + 1, x5, x6 => if (decide (x5 < (a1_i.Objs.length : Int))) = true then (((0 : Int) ≤ x5 ∧ x5.toNat < a1_i.Objs.length)) ∧ ((Lt.prePuts ((a1_i.Objs.getD x5.toNat default).Vals))) ∧ (((2 + (Lt.puts ((a1_i.Objs.getD x5.toNat default).Vals)).length) ≤ 4611686018427387904 ∧ (2 + (Lt.puts ((a1_i.Objs.getD x5.toNat default).Vals)).length) * 16 ≤ 140737488355328)) ∧ ((Lt.preLine (Lt.Sheet.mk x6) ([111, 98, 106] :: (a1_i.Objs.getD x5.toNat default).Class :: (Lt.puts ((a1_i.Objs.getD x5.toNat default).Vals))))) ∧ (fun y1 y2 => F_sheetCode_l4 a1_i KK n9 y1 y2) (IntKind.i64.wrap (x5 + 1)) (((Lt.sheetLine (Lt.Sheet.mk x6) ([111, 98, 106] :: (a1_i.Objs.getD x5.toNat default).Class :: (Lt.puts ((a1_i.Objs.getD x5.toNat default).Vals)))).2).l) else KK ((), (Lt.Sheet.mk x6))

def F_sheetCode_j3 (a1_i : Lt.Instr) (x4 : List Lt.Line) (KK : (Unit × Lt.Sheet) → Prop) : Prop :=
  (a1_i.Objs.length ≤ 4611686018427387904 → ∃ n9, F_sheetCode_l4 a1_i KK n9 0 x4)

def F_sheetCode_j6 (x7 : Int) (R17 : Int → (List Lt.Line) → Prop) (x9 : List Lt.Line) (KK : (Unit × Lt.Sheet) → Prop) : Prop :=
  R17 (IntKind.i64.wrap (x7 + 1)) x9

def F_sheetCode_j7 (x7 : Int) (x8 : List Lt.Line) (R17 : Int → (List Lt.Line) → Prop) (x10 : List (List UInt8)) (KK : (Unit × Lt.Sheet) → Prop) : Prop :=
  ((Lt.preLine (Lt.Sheet.mk x8) x10)) ∧ F_sheetCode_j6 x7 R17 (((Lt.sheetLine (Lt.Sheet.mk x8) x10).2).l) KK

def F_sheetCode_l8 (a1_i : Lt.Instr) (x7 : Int) (x8 : List Lt.Line) (R17 : Int → (List Lt.Line) → Prop) (KK : (Unit × Lt.Sheet) → Prop) : Nat → (List (List UInt8)) → Int → Prop
  | 0, _, _ => False
  | n25 + 1, x11, x12 => if (decide (x12 < (((a1_i.Frames.getD x7.toNat default).Vars).length : Int))) = true then (((0 : Int) ≤ x12 ∧ x12.toNat < ((a1_i.Frames.getD x7.toNat default).Vars).length)) ∧ ((Lt.prePut ((((a1_i.Frames.getD x7.toNat default).Vars).getD x12.toNat default).A))) ∧ (((x11.length + 2) ≤ 4611686018427387904 ∧ (x11.length + 2) * 16 ≤ 140737488355328)) ∧ (fun y1 y2 => F_sheetCode_l8 a1_i x7 x8 R17 KK n25 y1 y2) (x11 ++ [(((a1_i.Frames.getD x7.toNat default).Vars).getD x12.toNat default).Name, (Lt.wordPut ((((a1_i.Frames.getD x7.toNat default).Vars).getD x12.toNat default).A))]) (IntKind.i64.wrap (x12 + 1)) else F_sheetCode_j7 x7 x8 R17 x11 KK

def F_sheetCode_l5 (a1_i : Lt.Instr) (KK : (Unit × Lt.Sheet) → Prop) : Nat → Int → (List Lt.Line) → Prop
  | 0, _, _ => False
  | n17 + 1, x7, x8 => if (decide (x7 < (a1_i.Frames.length : Int))) = true then (((0 : Int) ≤ x7 ∧ x7.toNat < a1_i.Frames.length)) ∧ ((Lt.preNum ((a1_i.Frames.getD x7.toNat default).At))) ∧ (((a1_i.Frames.getD x7.toNat default).Vars).length ≤ 4611686018427387904 → ∃ n25, F_sheetCode_l8 a1_i x7 x8 (fun y1 y2 => F_sheetCode_l5 a1_i KK n17 y1 y2) KK n25 [[97, 116], (a1_i.Frames.getD x7.toNat default).Func, (a1_i.Frames.getD x7.toNat default).Block, (Lt.number ((a1_i.Frames.getD x7.toNat default).At))] 0) else F_sheetCode_j3 a1_i x8 KK

def F_sheetCode_j2 (a0_s : Lt.Sheet) (a1_i : Lt.Instr) (x2 : List (List UInt8)) (x3 : List (List UInt8)) (KK : (Unit × Lt.Sheet) → Prop) : Prop :=
  (((x2.length + x3.length) ≤ 4611686018427387904 ∧ (x2.length + x3.length) * 16 ≤ 140737488355328)) ∧ ((Lt.preLine a0_s (x2 ++ x3))) ∧ (a1_i.Frames.length ≤ 4611686018427387904 → ∃ n17, F_sheetCode_l5 a1_i KK n17 0 (((Lt.sheetLine a0_s (x2 ++ x3)).2).l))

def F_sheetCode_j1 (a0_s : Lt.Sheet) (a1_i : Lt.Instr) (x1 : List (List UInt8)) (KK : (Unit × Lt.Sheet) → Prop) : Prop :=
  (((x1.length + 1) ≤ 4611686018427387904 ∧ (x1.length + 1) * 16 ≤ 140737488355328)) ∧ ((Lt.prePuts a1_i.Args)) ∧ if ((decide (a1_i.Op = 26)) || (decide (a1_i.Op = 27))) = true then (((0 : Int) ≤ 0 ∧ 0 < (Lt.puts a1_i.Args).length)) ∧ ((((x1 ++ [((Lt.Of a1_i.Op).1).Word]).length + 2) ≤ 4611686018427387904 ∧ ((x1 ++ [((Lt.Of a1_i.Op).1).Word]).length + 2) * 16 ≤ 140737488355328)) ∧ ((1 ≤ (Lt.puts a1_i.Args).length)) ∧ F_sheetCode_j2 a0_s a1_i ((x1 ++ [((Lt.Of a1_i.Op).1).Word]) ++ [((Lt.puts a1_i.Args).getD 0 default), a1_i.Name]) (((Lt.puts a1_i.Args).drop 1).take ((Lt.puts a1_i.Args).length - 1)) KK else if ((Lt.Of a1_i.Op).1).Named = true then ((((x1 ++ [((Lt.Of a1_i.Op).1).Word]).length + 1) ≤ 4611686018427387904 ∧ ((x1 ++ [((Lt.Of a1_i.Op).1).Word]).length + 1) * 16 ≤ 140737488355328)) ∧ F_sheetCode_j2 a0_s a1_i ((x1 ++ [((Lt.Of a1_i.Op).1).Word]) ++ [a1_i.Name]) (Lt.puts a1_i.Args) KK else F_sheetCode_j2 a0_s a1_i (x1 ++ [((Lt.Of a1_i.Op).1).Word]) (Lt.puts a1_i.Args) KK

def F_sheetCode (a0_s : Lt.Sheet) (a1_i : Lt.Instr) (KK : (Unit × Lt.Sheet) → Prop) : Prop :=
  if ((Lt.Of a1_i.Op).1).Dst = true then F_sheetCode_j1 a0_s a1_i [a1_i.Dst, [61]] KK else F_sheetCode_j1 a0_s a1_i [] KK


def F_sheetEnd (a0_s : Lt.Sheet) (a1_t : Lt.Term) (KK : (Unit × Lt.Sheet) → Prop) : Prop :=
  if (decide (a1_t.Kind = 1)) = true then (((0 : Int) ≤ 0 ∧ 0 < a1_t.To.length)) ∧ ((Lt.preLine a0_s [[106, 117, 109, 112], (a1_t.To.getD 0 default)])) ∧ KK ((), ((Lt.sheetLine a0_s [[106, 117, 109, 112], (a1_t.To.getD 0 default)]).2)) else if (decide (a1_t.Kind = 2)) = true then ((Lt.prePut a1_t.A)) ∧ (((0 : Int) ≤ 0 ∧ 0 < a1_t.To.length)) ∧ (((0 : Int) ≤ 1 ∧ 1 < a1_t.To.length)) ∧ ((Lt.preLine a0_s [[98, 114, 97, 110, 99, 104], (Lt.wordPut a1_t.A), (a1_t.To.getD 0 default), (a1_t.To.getD 1 default)])) ∧ KK ((), ((Lt.sheetLine a0_s [[98, 114, 97, 110, 99, 104], (Lt.wordPut a1_t.A), (a1_t.To.getD 0 default), (a1_t.To.getD 1 default)]).2)) else if (decide (a1_t.Kind = 3)) = true then ((Lt.prePut a1_t.A)) ∧ ((Lt.preLine a0_s [[114, 101, 116], (Lt.wordPut a1_t.A)])) ∧ KK ((), ((Lt.sheetLine a0_s [[114, 101, 116], (Lt.wordPut a1_t.A)]).2)) else ((Lt.preNum a1_t.N)) ∧ ((Lt.preLine a0_s [[116, 114, 97, 112], (Lt.numPut a1_t.N)])) ∧ KK ((), ((Lt.sheetLine a0_s [[116, 114, 97, 112], (Lt.numPut a1_t.N)]).2))


def F_sameBlock_j3 (KK : (Bool) → Prop) : Prop :=
  KK true

def F_sameBlock_l4 (a0_a : Lt.Block) (a1_b : Lt.Block) (KK : (Bool) → Prop) : Nat → Int → Prop
  | 0, _ => False
  | n8 + 1, x1 => (a0_a.Code.length ≤ 4611686018427387904 → if (decide (x1 < (a0_a.Code.length : Int))) = true then (((0 : Int) ≤ x1 ∧ x1.toNat < a0_a.Code.length)) ∧ (((0 : Int) ≤ x1 ∧ x1.toNat < a1_b.Code.length)) ∧ if (!(Lt.SameInstr (a0_a.Code.getD x1.toNat default) (a1_b.Code.getD x1.toNat default))) = true then KK false else (fun y1 => F_sameBlock_l4 a0_a a1_b KK n8 y1) (IntKind.i64.wrap (x1 + 1)) else F_sameBlock_j3 KK)

def F_sameBlock_j2 (a0_a : Lt.Block) (a1_b : Lt.Block) (KK : (Bool) → Prop) : Prop :=
  ∃ n8, F_sameBlock_l4 a0_a a1_b KK n8 0

def F_sameBlock_j6 (x2 : Int) (R17 : Int → Prop) (KK : (Bool) → Prop) : Prop :=
  R17 (IntKind.i64.wrap (x2 + 1))

def F_sameBlock_l7 (a0_a : Lt.Block) (a1_b : Lt.Block) (x2 : Int) (R17 : Int → Prop) (KK : (Bool) → Prop) : Nat → Int → Prop
  | 0, _ => False
  | n26 + 1, x3 => (((0 : Int) ≤ x2 ∧ x2.toNat < a0_a.Phis.length)) ∧ (((a0_a.Phis.getD x2.toNat default).Ins).length ≤ 4611686018427387904 → if (decide (x3 < (((a0_a.Phis.getD x2.toNat default).Ins).length : Int))) = true then (((0 : Int) ≤ x2 ∧ x2.toNat < a0_a.Phis.length)) ∧ (((0 : Int) ≤ x3 ∧ x3.toNat < ((a0_a.Phis.getD x2.toNat default).Ins).length)) ∧ (((0 : Int) ≤ x2 ∧ x2.toNat < a1_b.Phis.length)) ∧ (((0 : Int) ≤ x3 ∧ x3.toNat < ((a1_b.Phis.getD x2.toNat default).Ins).length)) ∧ if (!(decide ((((a0_a.Phis.getD x2.toNat default).Ins).getD x3.toNat default).Block = (((a1_b.Phis.getD x2.toNat default).Ins).getD x3.toNat default).Block) && (decide (((((a0_a.Phis.getD x2.toNat default).Ins).getD x3.toNat default).A).Kind = ((((a1_b.Phis.getD x2.toNat default).Ins).getD x3.toNat default).A).Kind) && (decide (((((a0_a.Phis.getD x2.toNat default).Ins).getD x3.toNat default).A).S = ((((a1_b.Phis.getD x2.toNat default).Ins).getD x3.toNat default).A).S) && decide (((((a0_a.Phis.getD x2.toNat default).Ins).getD x3.toNat default).A).N = ((((a1_b.Phis.getD x2.toNat default).Ins).getD x3.toNat default).A).N))))) = true then KK false else (fun y1 => F_sameBlock_l7 a0_a a1_b x2 R17 KK n26 y1) (IntKind.i64.wrap (x3 + 1)) else F_sameBlock_j6 x2 R17 KK)

def F_sameBlock_l5 (a0_a : Lt.Block) (a1_b : Lt.Block) (KK : (Bool) → Prop) : Nat → Int → Prop
  | 0, _ => False
  | n17 + 1, x2 => (a0_a.Phis.length ≤ 4611686018427387904 → if (decide (x2 < (a0_a.Phis.length : Int))) = true then (((0 : Int) ≤ x2 ∧ x2.toNat < a0_a.Phis.length)) ∧ (((0 : Int) ≤ x2 ∧ x2.toNat < a1_b.Phis.length)) ∧ ((!decide ((a0_a.Phis.getD x2.toNat default).Dst = (a1_b.Phis.getD x2.toNat default).Dst)) = false → ((0 : Int) ≤ x2 ∧ x2.toNat < a0_a.Phis.length)) ∧ ((!decide ((a0_a.Phis.getD x2.toNat default).Dst = (a1_b.Phis.getD x2.toNat default).Dst)) = false → ((0 : Int) ≤ x2 ∧ x2.toNat < a1_b.Phis.length)) ∧ if ((!decide ((a0_a.Phis.getD x2.toNat default).Dst = (a1_b.Phis.getD x2.toNat default).Dst)) || (!decide ((((a0_a.Phis.getD x2.toNat default).Ins).length : Int) = (((a1_b.Phis.getD x2.toNat default).Ins).length : Int)))) = true then KK false else ∃ n26, F_sameBlock_l7 a0_a a1_b x2 (fun y1 => F_sameBlock_l5 a0_a a1_b KK n17 y1) KK n26 0 else F_sameBlock_j2 a0_a a1_b KK)

def F_sameBlock_j1 (a0_a : Lt.Block) (a1_b : Lt.Block) (KK : (Bool) → Prop) : Prop :=
  ∃ n17, F_sameBlock_l5 a0_a a1_b KK n17 0

def F_sameBlock_l8 (a0_a : Lt.Block) (a1_b : Lt.Block) (KK : (Bool) → Prop) : Nat → Int → Prop
  | 0, _ => False
  | n35 + 1, x4 => (a0_a.End.To.length ≤ 4611686018427387904 → if (decide (x4 < (a0_a.End.To.length : Int))) = true then (((0 : Int) ≤ x4 ∧ x4.toNat < a0_a.End.To.length)) ∧ (((0 : Int) ≤ x4 ∧ x4.toNat < a1_b.End.To.length)) ∧ if (!decide ((a0_a.End.To.getD x4.toNat default) = (a1_b.End.To.getD x4.toNat default))) = true then KK false else (fun y1 => F_sameBlock_l8 a0_a a1_b KK n35 y1) (IntKind.i64.wrap (x4 + 1)) else F_sameBlock_j1 a0_a a1_b KK)

def F_sameBlock (a0_a : Lt.Block) (a1_b : Lt.Block) (KK : (Bool) → Prop) : Prop :=
  if (((((((!decide (a0_a.Name = a1_b.Name)) || (!decide ((a0_a.Phis.length : Int) = (a1_b.Phis.length : Int)))) || (!decide ((a0_a.Code.length : Int) = (a1_b.Code.length : Int)))) || (!decide (a0_a.End.Kind = a1_b.End.Kind))) || (!(decide (a0_a.End.A.Kind = a1_b.End.A.Kind) && (decide (a0_a.End.A.S = a1_b.End.A.S) && decide (a0_a.End.A.N = a1_b.End.A.N))))) || (!decide (a0_a.End.N = a1_b.End.N))) || (!decide ((a0_a.End.To.length : Int) = (a1_b.End.To.length : Int)))) = true then KK false else ∃ n35, F_sameBlock_l8 a0_a a1_b KK n35 0


def F_countInstr_j4 (x4 : Int) (KK : (Int) → Prop) : Prop :=
  KK x4

def F_countInstr_j6 (x6 : Int) (R9 : Int → Int → Prop) (x7 : Int) (KK : (Int) → Prop) : Prop :=
  R9 x7 (IntKind.i64.wrap (x6 + 1))

def F_countInstr_l5 (a0_x : Lt.Instr) (a1_most : Int) (KK : (Int) → Prop) : Nat → Int → Int → Prop
  | 0, _, _ => False
  | n9 + 1, x5, x6 => if ((decide (x6 < (a0_x.Objs.length : Int))) && (decide (x5 ≤ a1_most))) = true then (((0 : Int) ≤ x6 ∧ x6.toNat < a0_x.Objs.length)) ∧ (((a0_x.Objs.getD x6.toNat default).Class).length ≤ 4611686018427387904 → if (decide ((IntKind.i64.wrap (x5 + (((a0_x.Objs.getD x6.toNat default).Class).length : Int))) ≤ a1_most)) = true then (((0 : Int) ≤ x6 ∧ x6.toNat < a0_x.Objs.length)) ∧ F_countInstr_j6 x6 (fun y1 y2 => F_countInstr_l5 a0_x a1_most KK n9 y1 y2) (IntKind.i64.wrap ((IntKind.i64.wrap (x5 + (((a0_x.Objs.getD x6.toNat default).Class).length : Int))) + (Lt.countArgs ((a0_x.Objs.getD x6.toNat default).Vals) a1_most))) KK else F_countInstr_j6 x6 (fun y1 y2 => F_countInstr_l5 a0_x a1_most KK n9 y1 y2) (IntKind.i64.wrap (x5 + (((a0_x.Objs.getD x6.toNat default).Class).length : Int))) KK) else F_countInstr_j4 x5 KK

def F_countInstr_j3 (a0_x : Lt.Instr) (a1_most : Int) (x3 : Int) (KK : (Int) → Prop) : Prop :=
  ∃ n9, F_countInstr_l5 a0_x a1_most KK n9 x3 0

def F_countInstr_j8 (x9 : Int) (R17 : Int → Int → Prop) (x10 : Int) (KK : (Int) → Prop) : Prop :=
  R17 x10 (IntKind.i64.wrap (x9 + 1))

def F_countInstr_j11 (x13 : Int) (R24 : Int → Int → Prop) (x14 : Int) (KK : (Int) → Prop) : Prop :=
  R24 x14 (IntKind.i64.wrap (x13 + 1))

def F_countInstr_l10 (a0_x : Lt.Instr) (a1_most : Int) (x9 : Int) (R17 : Int → Int → Prop) (KK : (Int) → Prop) : Nat → Int → Int → Prop
  | 0, _, _ => False
  | n24 + 1, x12, x13 => (((0 : Int) ≤ x9 ∧ x9.toNat < a0_x.Frames.length)) ∧ if ((decide (x13 < (((a0_x.Frames.getD x9.toNat default).Vars).length : Int))) && (decide (x12 ≤ a1_most))) = true then (((0 : Int) ≤ x9 ∧ x9.toNat < a0_x.Frames.length)) ∧ (((0 : Int) ≤ x13 ∧ x13.toNat < ((a0_x.Frames.getD x9.toNat default).Vars).length)) ∧ (((((a0_x.Frames.getD x9.toNat default).Vars).getD x13.toNat default).Name).length ≤ 4611686018427387904 → if (decide ((IntKind.i64.wrap ((IntKind.i64.wrap (x12 + 1)) + (((((a0_x.Frames.getD x9.toNat default).Vars).getD x13.toNat default).Name).length : Int))) ≤ a1_most)) = true then (((0 : Int) ≤ x9 ∧ x9.toNat < a0_x.Frames.length)) ∧ (((0 : Int) ≤ x13 ∧ x13.toNat < ((a0_x.Frames.getD x9.toNat default).Vars).length)) ∧ ((((((a0_x.Frames.getD x9.toNat default).Vars).getD x13.toNat default).A).S).length ≤ 4611686018427387904 → F_countInstr_j11 x13 (fun y1 y2 => F_countInstr_l10 a0_x a1_most x9 R17 KK n24 y1 y2) (IntKind.i64.wrap ((IntKind.i64.wrap ((IntKind.i64.wrap (x12 + 1)) + (((((a0_x.Frames.getD x9.toNat default).Vars).getD x13.toNat default).Name).length : Int))) + ((((((a0_x.Frames.getD x9.toNat default).Vars).getD x13.toNat default).A).S).length : Int))) KK) else F_countInstr_j11 x13 (fun y1 y2 => F_countInstr_l10 a0_x a1_most x9 R17 KK n24 y1 y2) (IntKind.i64.wrap ((IntKind.i64.wrap (x12 + 1)) + (((((a0_x.Frames.getD x9.toNat default).Vars).getD x13.toNat default).Name).length : Int))) KK) else F_countInstr_j8 x9 R17 x12 KK

def F_countInstr_j9 (a0_x : Lt.Instr) (a1_most : Int) (x9 : Int) (R17 : Int → Int → Prop) (x11 : Int) (KK : (Int) → Prop) : Prop :=
  ∃ n24, F_countInstr_l10 a0_x a1_most x9 R17 KK n24 x11 0

def F_countInstr_l7 (a0_x : Lt.Instr) (a1_most : Int) (KK : (Int) → Prop) : Nat → Int → Int → Prop
  | 0, _, _ => False
  | n17 + 1, x8, x9 => if ((decide (x9 < (a0_x.Frames.length : Int))) && (decide (x8 ≤ a1_most))) = true then (((0 : Int) ≤ x9 ∧ x9.toNat < a0_x.Frames.length)) ∧ (((a0_x.Frames.getD x9.toNat default).Func).length ≤ 4611686018427387904 → if (decide ((IntKind.i64.wrap (x8 + (((a0_x.Frames.getD x9.toNat default).Func).length : Int))) ≤ a1_most)) = true then (((0 : Int) ≤ x9 ∧ x9.toNat < a0_x.Frames.length)) ∧ (((a0_x.Frames.getD x9.toNat default).Block).length ≤ 4611686018427387904 → F_countInstr_j9 a0_x a1_most x9 (fun y1 y2 => F_countInstr_l7 a0_x a1_most KK n17 y1 y2) (IntKind.i64.wrap ((IntKind.i64.wrap (x8 + (((a0_x.Frames.getD x9.toNat default).Func).length : Int))) + (((a0_x.Frames.getD x9.toNat default).Block).length : Int))) KK) else F_countInstr_j9 a0_x a1_most x9 (fun y1 y2 => F_countInstr_l7 a0_x a1_most KK n17 y1 y2) (IntKind.i64.wrap (x8 + (((a0_x.Frames.getD x9.toNat default).Func).length : Int))) KK) else F_countInstr_j3 a0_x a1_most x8 KK

def F_countInstr_j2 (a0_x : Lt.Instr) (a1_most : Int) (x2 : Int) (KK : (Int) → Prop) : Prop :=
  ∃ n17, F_countInstr_l7 a0_x a1_most KK n17 x2 0

def F_countInstr_j1 (a0_x : Lt.Instr) (a1_most : Int) (x1 : Int) (KK : (Int) → Prop) : Prop :=
  if (decide (x1 ≤ a1_most)) = true then F_countInstr_j2 a0_x a1_most (IntKind.i64.wrap (x1 + (Lt.countArgs a0_x.Args a1_most))) KK else F_countInstr_j2 a0_x a1_most x1 KK

def F_countInstr (a0_x : Lt.Instr) (a1_most : Int) (KK : (Int) → Prop) : Prop :=
  if ((decide (a1_most < (a0_x.Frames.length : Int))) || (decide (a1_most < (a0_x.Objs.length : Int)))) = true then KK (IntKind.i64.wrap (a1_most + 1)) else (a0_x.Dst.length ≤ 4611686018427387904 → (a0_x.Frames.length ≤ 4611686018427387904 → (a0_x.Objs.length ≤ 4611686018427387904 → if (decide ((IntKind.i64.wrap ((IntKind.i64.wrap ((IntKind.i64.wrap (1 + (a0_x.Dst.length : Int))) + (a0_x.Frames.length : Int))) + (a0_x.Objs.length : Int))) ≤ a1_most)) = true then (a0_x.Name.length ≤ 4611686018427387904 → F_countInstr_j1 a0_x a1_most (IntKind.i64.wrap ((IntKind.i64.wrap ((IntKind.i64.wrap ((IntKind.i64.wrap (1 + (a0_x.Dst.length : Int))) + (a0_x.Frames.length : Int))) + (a0_x.Objs.length : Int))) + (a0_x.Name.length : Int))) KK) else F_countInstr_j1 a0_x a1_most (IntKind.i64.wrap ((IntKind.i64.wrap ((IntKind.i64.wrap (1 + (a0_x.Dst.length : Int))) + (a0_x.Frames.length : Int))) + (a0_x.Objs.length : Int))) KK)))


def F_showEnd_j1 (a0_t : Lt.Term) (KK : (Bool) → Prop) : Prop :=
  if (decide (a0_t.Kind = 1)) = true then KK (((decide (a0_t.A.Kind = 0) && (decide (a0_t.A.S = ([] : List UInt8)) && decide (a0_t.A.N = 0))) && (decide ((a0_t.To.length : Int) = 1))) && (decide (a0_t.N = 0))) else if (decide (a0_t.Kind = 2)) = true then KK (((Lt.showArgs [a0_t.A] false) && (decide ((a0_t.To.length : Int) = 2))) && (decide (a0_t.N = 0))) else if (decide (a0_t.Kind = 3)) = true then KK (((Lt.showArgs [a0_t.A] false) && (decide ((a0_t.To.length : Int) = 0))) && (decide (a0_t.N = 0))) else if (decide (a0_t.Kind = 4)) = true then KK ((decide (a0_t.A.Kind = 0) && (decide (a0_t.A.S = ([] : List UInt8)) && decide (a0_t.A.N = 0))) && (decide ((a0_t.To.length : Int) = 0))) else KK false

def F_showEnd_l2 (a0_t : Lt.Term) (KK : (Bool) → Prop) : Nat → Int → Prop
  | 0, _ => False
  | n18 + 1, x1 => if (decide (x1 < (a0_t.To.length : Int))) = true then (((0 : Int) ≤ x1 ∧ x1.toNat < a0_t.To.length)) ∧ if (!(Lt.Name (a0_t.To.getD x1.toNat default))) = true then KK false else (fun y1 => F_showEnd_l2 a0_t KK n18 y1) (IntKind.i64.wrap (x1 + 1)) else F_showEnd_j1 a0_t KK

def F_showEnd (a0_t : Lt.Term) (KK : (Bool) → Prop) : Prop :=
  (a0_t.To.length ≤ 4611686018427387904 → ∃ n18, F_showEnd_l2 a0_t KK n18 0)


def F_phi_j1 (KK : (Bool) → Prop) : Prop :=
  KK true

def F_phi_l2 (a0_x : Lt.Phi) (KK : (Bool) → Prop) : Nat → Int → Prop
  | 0, _ => False
  | n8 + 1, x1 => if (decide (x1 < (a0_x.Ins.length : Int))) = true then (((0 : Int) ≤ x1 ∧ x1.toNat < a0_x.Ins.length)) ∧ if ((!(Lt.Name ((a0_x.Ins.getD x1.toNat default).Block))) || (!(Lt.showArgs [((a0_x.Ins.getD x1.toNat default).A)] false))) = true then KK false else (fun y1 => F_phi_l2 a0_x KK n8 y1) (IntKind.i64.wrap (x1 + 1)) else F_phi_j1 KK

def F_phi (a0_x : Lt.Phi) (KK : (Bool) → Prop) : Prop :=
  if (((!(Lt.Name a0_x.Dst)) || (decide ((a0_x.Ins.length : Int) = 0))) || (decide (256 < (a0_x.Ins.length : Int)))) = true then KK false else (a0_x.Ins.length ≤ 4611686018427387904 → ∃ n8, F_phi_l2 a0_x KK n8 0)


def F_instr_j2 (KK : (Bool) → Prop) : Prop :=
  KK true

def F_instr_l3 (a0_i : Lt.Instr) (KK : (Bool) → Prop) : Nat → Int → Prop
  | 0, _ => False
  | n15 + 1, x1 => if (decide (x1 < (a0_i.Objs.length : Int))) = true then (((0 : Int) ≤ x1 ∧ x1.toNat < a0_i.Objs.length)) ∧ if (((!(Lt.Name ((a0_i.Objs.getD x1.toNat default).Class))) || (decide (8 < (((a0_i.Objs.getD x1.toNat default).Vals).length : Int)))) || (!(Lt.showArgs ((a0_i.Objs.getD x1.toNat default).Vals) true))) = true then KK false else (fun y1 => F_instr_l3 a0_i KK n15 y1) (IntKind.i64.wrap (x1 + 1)) else F_instr_j2 KK

def F_instr_j1 (a0_i : Lt.Instr) (KK : (Bool) → Prop) : Prop :=
  (a0_i.Objs.length ≤ 4611686018427387904 → ∃ n15, F_instr_l3 a0_i KK n15 0)

def F_instr_l4 (a0_i : Lt.Instr) (KK : (Bool) → Prop) : Nat → Int → Prop
  | 0, _ => False
  | n25 + 1, x2 => if (decide (x2 < (a0_i.Frames.length : Int))) = true then (((0 : Int) ≤ x2 ∧ x2.toNat < a0_i.Frames.length)) ∧ if (!(Lt.frame (a0_i.Frames.getD x2.toNat default))) = true then KK false else (fun y1 => F_instr_l4 a0_i KK n25 y1) (IntKind.i64.wrap (x2 + 1)) else F_instr_j1 a0_i KK

def F_instr (a0_i : Lt.Instr) (KK : (Bool) → Prop) : Prop :=
  if (((((!((Lt.Of a0_i.Op).2)) || (!(((Lt.Of a0_i.Op).1).Dst == (!decide (a0_i.Dst = ([] : List UInt8)))))) || (!(((Lt.Of a0_i.Op).1).Named == (!decide (a0_i.Name = ([] : List UInt8)))))) || (((Lt.Of a0_i.Op).1).Dst && (!(Lt.Name a0_i.Dst)))) || (((Lt.Of a0_i.Op).1).Named && (!(Lt.Name a0_i.Name)))) = true then KK false else if (((((decide ((a0_i.Args.length : Int) < ((Lt.Of a0_i.Op).1).Least)) || (decide (((Lt.Of a0_i.Op).1).Most < (a0_i.Args.length : Int)))) || (!(Lt.showArgs a0_i.Args false))) || (decide (16 < (a0_i.Frames.length : Int)))) || (decide (99 < (a0_i.Objs.length : Int)))) = true then KK false else if ((!decide (a0_i.Op = 31)) && (!decide (a0_i.Op = 34))) = true then KK ((decide ((a0_i.Frames.length : Int) = 0)) && (decide ((a0_i.Objs.length : Int) = 0))) else (a0_i.Frames.length ≤ 4611686018427387904 → ∃ n25, F_instr_l4 a0_i KK n25 0)


def F_numDigit_j1 (x1 : Int) (KK : (Int) → Prop) : Prop :=
  KK (IntKind.u8.wrap (IntKind.i64.wrap (48 + x1)))

def F_numDigit (a0_n : Int) (KK : (Int) → Prop) : Prop :=
  if (decide (a0_n < 0)) = true then F_numDigit_j1 (IntKind.i64.wrap (0 - a0_n)) KK else F_numDigit_j1 a0_n KK


def F_wordRight (a0_a : Lt.Arg) (KK : (Bool) → Prop) : Prop :=
  if (decide (a0_a.Kind = 1)) = true then KK ((Lt.Name a0_a.S) && (decide (a0_a.N = 0))) else if (decide (a0_a.Kind = 2)) = true then KK (decide (a0_a.S = ([] : List UInt8))) else if (decide (a0_a.Kind = 3)) = true then KK ((decide (a0_a.S = ([] : List UInt8))) && (decide ((Lt.Plain a0_a.N) = a0_a.N))) else if (decide (a0_a.Kind = 4)) = true then KK ((decide (a0_a.S = ([] : List UInt8))) && (decide (a0_a.N = 0))) else if (decide (a0_a.Kind = 5)) = true then KK (((decide (a0_a.S = ([] : List UInt8))) && (decide (0 ≤ a0_a.N))) && (decide (a0_a.N ≤ 999))) else KK false


def F_floPut_j1 (x1 : List UInt8) (KK : (List UInt8) → Prop) : Prop :=
  KK x1

def F_floPut_l2 (a0_n : Int) (KK : (List UInt8) → Prop) : Nat → (List UInt8) → Int → Prop
  | 0, _, _ => False
  | n7 + 1, x2, x3 => if (decide (0 ≤ x3)) = true then (0 ≤ (IntKind.u64.wrap x3)) ∧ (((0 : Int) ≤ (IntKind.u64.wrap ((BitVec.ofInt IntKind.u64.bits (Int.fdiv (IntKind.u64.wrap (Lt.Plain a0_n)) (2 ^ (min (IntKind.u64.wrap x3).toNat IntKind.u64.bits))) &&& BitVec.ofInt IntKind.u64.bits 15).toNat : Nat)) ∧ (IntKind.u64.wrap ((BitVec.ofInt IntKind.u64.bits (Int.fdiv (IntKind.u64.wrap (Lt.Plain a0_n)) (2 ^ (min (IntKind.u64.wrap x3).toNat IntKind.u64.bits))) &&& BitVec.ofInt IntKind.u64.bits 15).toNat : Nat)).toNat < ([48, 49, 50, 51, 52, 53, 54, 55, 56, 57, 97, 98, 99, 100, 101, 102] : List UInt8).length)) ∧ (((x2.length + 1) ≤ 4611686018427387904 ∧ (x2.length + 1) * 1 ≤ 140737488355328)) ∧ (fun y1 y2 => F_floPut_l2 a0_n KK n7 y1 y2) (x2 ++ [(([48, 49, 50, 51, 52, 53, 54, 55, 56, 57, 97, 98, 99, 100, 101, 102] : List UInt8).getD (IntKind.u64.wrap ((BitVec.ofInt IntKind.u64.bits (Int.fdiv (IntKind.u64.wrap (Lt.Plain a0_n)) (2 ^ (min (IntKind.u64.wrap x3).toNat IntKind.u64.bits))) &&& BitVec.ofInt IntKind.u64.bits 15).toNat : Nat)).toNat 0)]) (IntKind.i64.wrap (x3 - 4)) else F_floPut_j1 x2 KK

def F_floPut (a0_n : Int) (KK : (List UInt8) → Prop) : Prop :=
  ∃ n7, F_floPut_l2 a0_n KK n7 [(48 : UInt8), (102 : UInt8)] 60


def F_Of (a0_op : Int) (KK : (Lt.Form × Bool) → Prop) : Prop :=
  if ((decide (1 ≤ a0_op)) && (decide (a0_op ≤ 21))) = true then KK ((Lt.Form.mk (Lt.nth (32 :: 97 :: 100 :: 100 :: 32 :: 115 :: 117 :: 98 :: 32 :: 109 :: 117 :: 108 :: 32 :: 100 :: 105 :: 118 :: 32 :: 114 :: 101 :: 109 :: 32 :: 97 :: 110 :: 100 :: 32 :: 111 :: 114 :: 32 :: 120 :: 111 :: 114 :: 32 :: 115 :: 104 :: 108 :: 32 :: 115 :: 104 :: 114 :: 32 :: 101 :: 113 :: 32 :: 110 :: 101 :: 32 :: 108 :: 116 :: 32 :: 108 :: 101 :: 32 :: 102 :: 97 :: 100 :: 100 :: 32 :: 102 :: 115 :: 117 :: 98 :: 32 :: 102 :: 109 :: 117 :: 108 :: 32 :: 102 :: 100 :: 105 :: 118 :: 32 :: 102 :: 101 :: 113 :: 32 :: 102 :: 108 :: 116 :: 32 :: 102 :: 108 :: 101 :: 32 :: ([] : List UInt8)) a0_op) true false 2 2), true) else if ((decide (22 ≤ a0_op)) && (decide (a0_op ≤ 24))) = true then KK ((Lt.Form.mk (Lt.nth [32, 105, 116, 111, 102, 32, 102, 116, 111, 105, 32, 109, 111, 118, 32] (IntKind.i64.wrap (a0_op - 21))) true false 1 1), true) else if (decide (a0_op = 25)) = true then KK ((Lt.Form.mk [110, 101, 119] true true 0 8), true) else if (decide (a0_op = 26)) = true then KK ((Lt.Form.mk [108, 111, 97, 100] true true 1 1), true) else if (decide (a0_op = 27)) = true then KK ((Lt.Form.mk [115, 116, 111, 114, 101] false true 2 2), true) else if (decide (a0_op = 28)) = true then KK ((Lt.Form.mk [115, 97, 109, 101] true false 2 2), true) else if (decide (a0_op = 29)) = true then KK ((Lt.Form.mk [103, 108, 111, 97, 100] true true 0 0), true) else if (decide (a0_op = 30)) = true then KK ((Lt.Form.mk [103, 115, 116, 111, 114, 101] false true 1 1), true) else if (decide (a0_op = 31)) = true then KK ((Lt.Form.mk [99, 97, 108, 108] true true 0 8), true) else if (decide (a0_op = 32)) = true then KK ((Lt.Form.mk [101, 120, 116] true true 0 8), true) else if (decide (a0_op = 33)) = true then KK ((Lt.Form.mk [111, 117, 116] false false 1 1), true) else if (decide (a0_op = 34)) = true then KK ((Lt.Form.mk [103, 117, 97, 114, 100] false false 0 0), true) else KK ((Lt.Form.mk ([] : List UInt8) false false 0 0), false)


def F_puts_j1 (x1 : List (List UInt8)) (KK : (List (List UInt8)) → Prop) : Prop :=
  KK x1

def F_puts_l2 (a0_l : List Lt.Arg) (KK : (List (List UInt8)) → Prop) : Nat → (List (List UInt8)) → Int → Prop
  | 0, _, _ => False
  | n6 + 1, x2, x3 => if (decide (x3 < (a0_l.length : Int))) = true then (((0 : Int) ≤ x3 ∧ x3.toNat < a0_l.length)) ∧ ((Lt.prePut (a0_l.getD x3.toNat default))) ∧ (((x2.length + 1) ≤ 4611686018427387904 ∧ (x2.length + 1) * 16 ≤ 140737488355328)) ∧ (fun y1 y2 => F_puts_l2 a0_l KK n6 y1 y2) (x2 ++ [(Lt.wordPut (a0_l.getD x3.toNat default))]) (IntKind.i64.wrap (x3 + 1)) else F_puts_j1 x2 KK

def F_puts (a0_l : List Lt.Arg) (KK : (List (List UInt8)) → Prop) : Prop :=
  (a0_l.length ≤ 4611686018427387904 → ∃ n6, F_puts_l2 a0_l KK n6 [] 0)


def F_SameInstr_j2 (KK : (Bool) → Prop) : Prop :=
  KK true

def F_SameInstr_l3 (a0_a : Lt.Instr) (a1_b : Lt.Instr) (KK : (Bool) → Prop) : Nat → Int → Prop
  | 0, _ => False
  | n8 + 1, x1 => (a0_a.Objs.length ≤ 4611686018427387904 → if (decide (x1 < (a0_a.Objs.length : Int))) = true then (((0 : Int) ≤ x1 ∧ x1.toNat < a0_a.Objs.length)) ∧ (((0 : Int) ≤ x1 ∧ x1.toNat < a1_b.Objs.length)) ∧ ((!decide ((a0_a.Objs.getD x1.toNat default).Class = (a1_b.Objs.getD x1.toNat default).Class)) = false → ((0 : Int) ≤ x1 ∧ x1.toNat < a0_a.Objs.length)) ∧ ((!decide ((a0_a.Objs.getD x1.toNat default).Class = (a1_b.Objs.getD x1.toNat default).Class)) = false → ((0 : Int) ≤ x1 ∧ x1.toNat < a1_b.Objs.length)) ∧ if ((!decide ((a0_a.Objs.getD x1.toNat default).Class = (a1_b.Objs.getD x1.toNat default).Class)) || (!(Lt.sameArgs ((a0_a.Objs.getD x1.toNat default).Vals) ((a1_b.Objs.getD x1.toNat default).Vals)))) = true then KK false else (fun y1 => F_SameInstr_l3 a0_a a1_b KK n8 y1) (IntKind.i64.wrap (x1 + 1)) else F_SameInstr_j2 KK)

def F_SameInstr_j1 (a0_a : Lt.Instr) (a1_b : Lt.Instr) (KK : (Bool) → Prop) : Prop :=
  ∃ n8, F_SameInstr_l3 a0_a a1_b KK n8 0

def F_SameInstr_j5 (x2 : Int) (R17 : Int → Prop) (KK : (Bool) → Prop) : Prop :=
  R17 (IntKind.i64.wrap (x2 + 1))

def F_SameInstr_l6 (a0_a : Lt.Instr) (a1_b : Lt.Instr) (x2 : Int) (R17 : Int → Prop) (KK : (Bool) → Prop) : Nat → Int → Prop
  | 0, _ => False
  | n28 + 1, x3 => (((a0_a.Frames.getD x2.toNat default).Vars).length ≤ 4611686018427387904 → if (decide (x3 < (((a0_a.Frames.getD x2.toNat default).Vars).length : Int))) = true then (((0 : Int) ≤ x3 ∧ x3.toNat < ((a0_a.Frames.getD x2.toNat default).Vars).length)) ∧ (((0 : Int) ≤ x3 ∧ x3.toNat < ((a1_b.Frames.getD x2.toNat default).Vars).length)) ∧ if (!(decide ((((a0_a.Frames.getD x2.toNat default).Vars).getD x3.toNat default).Name = (((a1_b.Frames.getD x2.toNat default).Vars).getD x3.toNat default).Name) && (decide (((((a0_a.Frames.getD x2.toNat default).Vars).getD x3.toNat default).A).Kind = ((((a1_b.Frames.getD x2.toNat default).Vars).getD x3.toNat default).A).Kind) && (decide (((((a0_a.Frames.getD x2.toNat default).Vars).getD x3.toNat default).A).S = ((((a1_b.Frames.getD x2.toNat default).Vars).getD x3.toNat default).A).S) && decide (((((a0_a.Frames.getD x2.toNat default).Vars).getD x3.toNat default).A).N = ((((a1_b.Frames.getD x2.toNat default).Vars).getD x3.toNat default).A).N))))) = true then KK false else (fun y1 => F_SameInstr_l6 a0_a a1_b x2 R17 KK n28 y1) (IntKind.i64.wrap (x3 + 1)) else F_SameInstr_j5 x2 R17 KK)

def F_SameInstr_l4 (a0_a : Lt.Instr) (a1_b : Lt.Instr) (KK : (Bool) → Prop) : Nat → Int → Prop
  | 0, _ => False
  | n17 + 1, x2 => (a0_a.Frames.length ≤ 4611686018427387904 → if (decide (x2 < (a0_a.Frames.length : Int))) = true then (((0 : Int) ≤ x2 ∧ x2.toNat < a0_a.Frames.length)) ∧ (((0 : Int) ≤ x2 ∧ x2.toNat < a1_b.Frames.length)) ∧ if ((((!decide ((a0_a.Frames.getD x2.toNat default).Func = (a1_b.Frames.getD x2.toNat default).Func)) || (!decide ((a0_a.Frames.getD x2.toNat default).Block = (a1_b.Frames.getD x2.toNat default).Block))) || (!decide ((a0_a.Frames.getD x2.toNat default).At = (a1_b.Frames.getD x2.toNat default).At))) || (!decide ((((a0_a.Frames.getD x2.toNat default).Vars).length : Int) = (((a1_b.Frames.getD x2.toNat default).Vars).length : Int)))) = true then KK false else ∃ n28, F_SameInstr_l6 a0_a a1_b x2 (fun y1 => F_SameInstr_l4 a0_a a1_b KK n17 y1) KK n28 0 else F_SameInstr_j1 a0_a a1_b KK)

def F_SameInstr (a0_a : Lt.Instr) (a1_b : Lt.Instr) (KK : (Bool) → Prop) : Prop :=
  if ((((((!decide (a0_a.Op = a1_b.Op)) || (!decide (a0_a.Dst = a1_b.Dst))) || (!decide (a0_a.Name = a1_b.Name))) || (!(Lt.sameArgs a0_a.Args a1_b.Args))) || (!decide ((a0_a.Frames.length : Int) = (a1_b.Frames.length : Int)))) || (!decide ((a0_a.Objs.length : Int) = (a1_b.Objs.length : Int)))) = true then KK false else ∃ n17, F_SameInstr_l4 a0_a a1_b KK n17 0


def F_countArgs_j1 (x1 : Int) (KK : (Int) → Prop) : Prop :=
  KK x1

def F_countArgs_l2 (a0_l : List Lt.Arg) (a1_most : Int) (KK : (Int) → Prop) : Nat → Int → Int → Prop
  | 0, _, _ => False
  | n9 + 1, x2, x3 => if ((decide (x3 < (a0_l.length : Int))) && (decide (x2 ≤ a1_most))) = true then (((0 : Int) ≤ x3 ∧ x3.toNat < a0_l.length)) ∧ (((a0_l.getD x3.toNat default).S).length ≤ 4611686018427387904 → (fun y1 y2 => F_countArgs_l2 a0_l a1_most KK n9 y1 y2) (IntKind.i64.wrap (x2 + (((a0_l.getD x3.toNat default).S).length : Int))) (IntKind.i64.wrap (x3 + 1))) else F_countArgs_j1 x2 KK

def F_countArgs (a0_l : List Lt.Arg) (a1_most : Int) (KK : (Int) → Prop) : Prop :=
  (a0_l.length ≤ 4611686018427387904 → if (decide (a1_most < (a0_l.length : Int))) = true then KK (IntKind.i64.wrap (a1_most + 1)) else (a0_l.length ≤ 4611686018427387904 → ∃ n9, F_countArgs_l2 a0_l a1_most KK n9 (a0_l.length : Int) 0))


def F_showArgs_j1 (KK : (Bool) → Prop) : Prop :=
  KK true

def F_showArgs_l2 (a0_l : List Lt.Arg) (a1_objs : Bool) (KK : (Bool) → Prop) : Nat → Int → Prop
  | 0, _ => False
  | n5 + 1, x1 => if (decide (x1 < (a0_l.length : Int))) = true then (((0 : Int) ≤ x1 ∧ x1.toNat < a0_l.length)) ∧ if ((!(Lt.wordRight (a0_l.getD x1.toNat default))) || ((decide ((a0_l.getD x1.toNat default).Kind = 5)) && (!a1_objs))) = true then KK false else (fun y1 => F_showArgs_l2 a0_l a1_objs KK n5 y1) (IntKind.i64.wrap (x1 + 1)) else F_showArgs_j1 KK

def F_showArgs (a0_l : List Lt.Arg) (a1_objs : Bool) (KK : (Bool) → Prop) : Prop :=
  (a0_l.length ≤ 4611686018427387904 → ∃ n5, F_showArgs_l2 a0_l a1_objs KK n5 0)


def F_frame_j1 (KK : (Bool) → Prop) : Prop :=
  KK true

def F_frame_l2 (a0_f : Lt.Frame) (KK : (Bool) → Prop) : Nat → Int → Prop
  | 0, _ => False
  | n8 + 1, x1 => if (decide (x1 < (a0_f.Vars.length : Int))) = true then (((0 : Int) ≤ x1 ∧ x1.toNat < a0_f.Vars.length)) ∧ if ((!(Lt.Name ((a0_f.Vars.getD x1.toNat default).Name))) || (!(Lt.showArgs [((a0_f.Vars.getD x1.toNat default).A)] true))) = true then KK false else (fun y1 => F_frame_l2 a0_f KK n8 y1) (IntKind.i64.wrap (x1 + 1)) else F_frame_j1 KK

def F_frame (a0_f : Lt.Frame) (KK : (Bool) → Prop) : Prop :=
  if (((((!(Lt.Name a0_f.Func)) || (!(Lt.Name a0_f.Block))) || (decide (a0_f.At < 0))) || (decide (1024 < a0_f.At))) || (decide (16 < (a0_f.Vars.length : Int)))) = true then KK false else (a0_f.Vars.length ≤ 4611686018427387904 → ∃ n8, F_frame_l2 a0_f KK n8 0)


def F_Plain (a0_n : Int) (KK : (Int) → Prop) : Prop :=
  if ((decide ((IntKind.i64.wrap ((BitVec.ofInt IntKind.i64.bits a0_n &&& BitVec.ofInt IntKind.i64.bits 9218868437227405312).toNat : Nat)) = 9218868437227405312)) && (!decide ((IntKind.i64.wrap ((BitVec.ofInt IntKind.i64.bits a0_n &&& BitVec.ofInt IntKind.i64.bits 4503599627370495).toNat : Nat)) = 0))) = true then KK 9221120237041090560 else KK a0_n


def F_nth_j1 (KK : (List UInt8) → Prop) : Prop :=
  KK ([] : List UInt8)

def F_nth_j3 (x3 : Int) (R6 : Int → Int → Int → Prop) (x4 : Int) (x5 : Int) (KK : (List UInt8) → Prop) : Prop :=
  R6 x4 x5 (IntKind.i64.wrap (x3 + 1))

def F_nth_l2 (a0_list : List UInt8) (KK : (List UInt8) → Prop) : Nat → Int → Int → Int → Prop
  | 0, _, _, _ => False
  | n6 + 1, x1, x2, x3 => (a0_list.length ≤ 4611686018427387904 → if (decide (x3 < (a0_list.length : Int))) = true then (((0 : Int) ≤ x3 ∧ x3.toNat < a0_list.length)) ∧ if (!decide ((((a0_list.getD x3.toNat 0).toNat : Nat) : Int) = 32)) = true then F_nth_j3 x3 (fun y1 y2 y3 => F_nth_l2 a0_list KK n6 y1 y2 y3) x1 x2 KK else if (decide ((IntKind.i64.wrap (x1 - 1)) = 0)) = true then ((0 ≤ (IntKind.i64.wrap (x2 + 1)) ∧ 0 ≤ x3 ∧ (IntKind.i64.wrap (x2 + 1)).toNat ≤ x3.toNat ∧ x3.toNat ≤ a0_list.length)) ∧ KK ((a0_list.drop (IntKind.i64.wrap (x2 + 1)).toNat).take (x3.toNat - (IntKind.i64.wrap (x2 + 1)).toNat)) else F_nth_j3 x3 (fun y1 y2 y3 => F_nth_l2 a0_list KK n6 y1 y2 y3) (IntKind.i64.wrap (x1 - 1)) x3 KK else F_nth_j1 KK)

def F_nth (a0_list : List UInt8) (a1_n : Int) (KK : (List UInt8) → Prop) : Prop :=
  ∃ n6, F_nth_l2 a0_list KK n6 a1_n 0 1


def F_sameArgs_j1 (KK : (Bool) → Prop) : Prop :=
  KK true

def F_sameArgs_l2 (a0_a : List Lt.Arg) (a1_b : List Lt.Arg) (KK : (Bool) → Prop) : Nat → Int → Prop
  | 0, _ => False
  | n8 + 1, x1 => (a0_a.length ≤ 4611686018427387904 → if (decide (x1 < (a0_a.length : Int))) = true then (((0 : Int) ≤ x1 ∧ x1.toNat < a0_a.length)) ∧ (((0 : Int) ≤ x1 ∧ x1.toNat < a1_b.length)) ∧ if (!(decide ((a0_a.getD x1.toNat default).Kind = (a1_b.getD x1.toNat default).Kind) && (decide ((a0_a.getD x1.toNat default).S = (a1_b.getD x1.toNat default).S) && decide ((a0_a.getD x1.toNat default).N = (a1_b.getD x1.toNat default).N)))) = true then KK false else (fun y1 => F_sameArgs_l2 a0_a a1_b KK n8 y1) (IntKind.i64.wrap (x1 + 1)) else F_sameArgs_j1 KK)

def F_sameArgs (a0_a : List Lt.Arg) (a1_b : List Lt.Arg) (KK : (Bool) → Prop) : Prop :=
  (a0_a.length ≤ 4611686018427387904 → (a1_b.length ≤ 4611686018427387904 → if (!decide ((a0_a.length : Int) = (a1_b.length : Int))) = true then KK false else ∃ n8, F_sameArgs_l2 a0_a a1_b KK n8 0))


end Go.Am
end

section
namespace Go.Am
open Go

def LEN : Nat := 4611686018427387904

theorem ob {i n : Nat} (h : i < n) : (0 : Int) ≤ (i : Int) ∧ (i : Int).toNat < n := by
  rw [Int.toNat_natCast]; exact ⟨Int.natCast_nonneg i, h⟩

theorem lt_t {i n : Nat} (h : i < n) : decide ((i : Int) < (n : Int)) = true := by simpa using h
theorem lt_f {n : Nat} : decide ((n : Int) < (n : Int)) = false := by simp

/-- a loop over a list's places that hands values on -/
theorem drop_loop {α β ρ : Type} [Inhabited α] (l : List α) (hl : l.length ≤ LEN) (go : List α → β → ρ) (KK : ρ → Prop) (R : Nat → β → Int → Prop)
    (hs : ∀ n b i, i < l.length → (∀ b', KK (go (l.drop (i + 1)) b') → R n b' (IntKind.i64.wrap ((i : Int) + 1))) → KK (go (l.getD i default :: l.drop (i + 1)) b) → R (n + 1) b i)
    (he : ∀ n b, KK (go [] b) → R (n + 1) b l.length) (b : β) (h : KK (go l b)) : ∃ n, R n b 0 := by
  have key : ∀ k i b, i + k = l.length → KK (go (l.drop i) b) → R (k + 1) b (i : Int) := by
    intro k
    induction k with
    | zero =>
      intro i b hi h
      have e : i = l.length := by omega
      subst e
      rw [List.drop_length] at h
      exact he 0 b h
    | succ k ih =>
      intro i b hi h
      have hlt : i < l.length := by omega
      rw [List.drop_eq_getElem_cons hlt] at h
      have e : l.getD i default = l[i] := by rw [List.getD, List.getElem?_eq_getElem hlt]; rfl
      rw [← e] at h
      refine hs _ b i hlt (fun b' h' => ?_) h
      rw [wrap_succ (by unfold LEN at hl; omega)]
      exact ih (i + 1) b' (by omega) h'
  exact ⟨l.length + 1, key l.length 0 b (by omega) h⟩

/-- a loop that leaves where one of a list isn't as it must be -/
theorem all_loop {α : Type} [Inhabited α] (l : List α) (hl : l.length ≤ LEN) (p : α → Bool) (rest : Bool) (KK : Bool → Prop) (R : Nat → Int → Prop)
    (hs : ∀ n i, i < l.length → (p (l.getD i default) = true → R n (IntKind.i64.wrap ((i : Int) + 1))) → (p (l.getD i default) = false → KK false) → R (n + 1) i)
    (he : ∀ n, KK rest → R (n + 1) l.length) (h : KK (l.all p && rest)) : ∃ n, R n 0 := by
  refine drop_loop l hl (fun t (_ : Unit) => t.all p && rest) KK (fun n _ i => R n i) (fun n _ i hi ih h => ?_) (fun n _ h => he n (by simpa using h)) () h
  refine hs n i hi (fun hp => ih () ?_) (fun hp => ?_)
  · simp only [List.all_cons, hp, Bool.true_and] at h; exact h
  · simp only [List.all_cons, hp, Bool.false_and] at h; exact h

/-- a loop over places whose state at each is known -/
theorem idx_loop {β : Type} (N : Nat) (hN : N ≤ LEN) (g : Nat → β) (R : Nat → β → Int → Prop)
    (hs : ∀ n i, i < N → R n (g (i + 1)) (IntKind.i64.wrap ((i : Int) + 1)) → R (n + 1) (g i) i)
    (he : ∀ n, R (n + 1) (g N) N) : ∃ n, R n (g 0) 0 := by
  have key : ∀ k i, i + k = N → R (k + 1) (g i) (i : Int) := by
    intro k
    induction k with
    | zero =>
      intro i hi
      have e : i = N := by omega
      subst e
      exact he 0
    | succ k ih =>
      intro i hi
      refine hs _ i (by omega) ?_
      rw [wrap_succ (by unfold LEN at hN; omega)]
      exact ih (i + 1) (by omega)
  exact ⟨N + 1, key N 0 (by omega)⟩

theorem take_snoc {α : Type} [Inhabited α] (l : List α) {i : Nat} (h : i < l.length) : l.take (i + 1) = l.take i ++ [l.getD i default] := by
  rw [List.take_add_one, List.getD, List.getElem?_eq_getElem h]; rfl

theorem mem_getD {α : Type} [Inhabited α] (l : List α) {i : Nat} (h : i < l.length) : l.getD i default ∈ l := by
  rw [List.getD, List.getElem?_eq_getElem h]; exact List.getElem_mem h

end Go.Am
end

section
namespace Go.Am
open Go
set_option linter.unusedVariables false
set_option linter.unusedSimpArgs false

theorem law_letter (c : Int) (KK : Bool → Prop) (h : KK (Lt.letter c)) : F_letter c KK := h
theorem law_wordDigit (c : Int) (KK : Bool → Prop) (h : KK (Lt.wordDigit c)) : F_wordDigit c KK := h
theorem law_kept (s : List UInt8) (KK : Bool → Prop) (h : KK (Lt.kept s)) : F_kept s KK := h
theorem law_kind (s : List UInt8) (KK : Bool → Prop) (h : KK (Lt.kind s)) : F_kind s KK := h
theorem law_example6 (t : Lt.Term) (KK : Lt.Program → Prop) (h : KK (Lt.example6 t)) : F_example6 t KK := h
theorem law_number (n : Int) (hp : Lt.preNum n) (KK : List UInt8 → Prop) (h : KK (Lt.number n)) : F_number n KK := ⟨hp, h⟩

theorem law_Plain (n : Int) (KK : Int → Prop) (h : KK (Lt.Plain n)) : F_Plain n KK := by
  unfold F_Plain; unfold Lt.Plain at h
  split <;> rename_i hc
  · rw [if_pos hc] at h; exact h
  · rw [if_neg hc] at h; exact h

theorem law_numDigit (n : Int) (KK : Int → Prop) (h : KK (Lt.numDigit n)) : F_numDigit n KK := by
  unfold F_numDigit F_numDigit_j1; unfold Lt.numDigit at h
  by_cases hn : n < 0
  · simp only [hn, decide_true, if_true] at h ⊢; exact h
  · simp only [hn, decide_false, Bool.false_eq_true, if_false] at h ⊢; exact h

theorem law_Name (s : List UInt8) (KK : Bool → Prop) (h : KK (Lt.Name s)) : F_Name s KK := by
  unfold F_Name
  refine ⟨fun hc => ?_, ?_⟩
  · cases s with
    | nil => simp at hc
    | cons a s => simp
  · split
    · rename_i hc
      have e : Lt.Name s = false := by
        unfold Lt.Name
        simp only [Bool.or_eq_true, decide_eq_true_eq, Bool.not_eq_true'] at hc
        rcases hc with ((hc | hc) | hc) | hc
        · simp [hc]
        · have : ¬ s.length ≤ 16 := by omega
          simp [this]
        · rw [hc]; simp
        · rw [hc]; simp
      rw [e] at h; exact h
    · rename_i hc
      have e : Lt.Name s = (s.all Lt.nameByte && true) := by
        unfold Lt.Name
        simp only [Bool.or_eq_true, decide_eq_true_eq, Bool.not_eq_true', not_or] at hc
        obtain ⟨⟨⟨h1, h2⟩, h3⟩, h4⟩ := hc
        have h2' : s.length ≤ 16 := by omega
        simp only [Bool.not_eq_false] at h3
        simp only [Bool.not_eq_true] at h4
        rw [h3, h4]; simp [h1, h2']
      rw [e] at h
      intro hl
      refine all_loop (α := UInt8) s hl Lt.nameByte true KK (fun n i => F_Name_l2 s KK n i) (fun n i hi ih hF => ?_) (fun n h => ?_) h
      · have hd : s.getD i 0 = s.getD i default := rfl
        simp only [F_Name_l2, lt_t hi, if_true, Int.toNat_natCast, hd]
        refine ⟨⟨Int.natCast_nonneg i, hi⟩, fun _ => ⟨Int.natCast_nonneg i, hi⟩, ?_⟩
        split
        · rename_i hc
          refine hF ?_
          unfold Lt.nameByte
          simp only [Bool.and_eq_true, Bool.not_eq_true'] at hc
          rw [hc.1, hc.2]; rfl
        · rename_i hc
          refine ih ?_
          unfold Lt.nameByte
          revert hc
          cases Lt.letter _ <;> cases Lt.wordDigit _ <;> simp
      · simp only [F_Name_l2, lt_f, Bool.false_eq_true, if_false]; exact h

theorem law_typed (l : List Lt.Var) (most : Int) (KK : Bool → Prop) (h : KK (Lt.typed l most)) : F_typed l most KK := by
  unfold F_typed
  intro hl
  split
  · rename_i hc
    have e : Lt.typed l most = false := by
      unfold Lt.typed
      have : ¬ (l.length : Int) ≤ most := by simpa using hc
      simp [this]
    rw [e] at h; exact h
  · rename_i hc
    have e : Lt.typed l most = ((l.all fun v => Lt.Name v.Name && Lt.kind v.Type_) && true) := by
      unfold Lt.typed
      have : (l.length : Int) ≤ most := by simpa using hc
      simp [this]
    rw [e] at h
    intro _
    refine all_loop l hl _ true KK (fun n i => F_typed_l2 l KK n i) (fun n i hi ih hF => ?_) (fun n h => ?_) h
    · simp only [F_typed_l2, lt_t hi, if_true, Int.toNat_natCast]
      refine ⟨⟨Int.natCast_nonneg i, hi⟩, ?_⟩
      split
      · rename_i hc
        refine hF ?_
        revert hc
        cases Lt.Name _ <;> cases Lt.kind _ <;> simp
      · rename_i hc
        refine ih ?_
        revert hc
        cases Lt.Name _ <;> cases Lt.kind _ <;> simp
    · simp only [F_typed_l2, lt_f, Bool.false_eq_true, if_false]; exact h

theorem law_wordRight (a : Lt.Arg) (KK : Bool → Prop) (h : KK (Lt.wordRight a)) : F_wordRight a KK := by
  unfold F_wordRight; unfold Lt.wordRight at h
  simp only [apply_ite KK] at h
  simp only [decide_eq_true_eq]
  exact h

theorem law_showArgs (l : List Lt.Arg) (objs : Bool) (KK : Bool → Prop) (h : KK (Lt.showArgs l objs)) : F_showArgs l objs KK := by
  unfold F_showArgs
  intro hl
  have e : Lt.showArgs l objs = (l.all (Lt.argRight objs) && true) := by simp [Lt.showArgs]
  rw [e] at h
  refine all_loop l hl _ true KK (fun n i => F_showArgs_l2 l objs KK n i) (fun n i hi ih hF => ?_) (fun n h => ?_) h
  · simp only [F_showArgs_l2, lt_t hi, if_true, Int.toNat_natCast]
    refine ⟨⟨Int.natCast_nonneg i, hi⟩, ?_⟩
    unfold Lt.argRight at ih hF
    split
    · rename_i hc
      refine hF ?_
      revert hc
      cases Lt.wordRight _ <;> cases decide ((l.getD i default).Kind = 5) <;> cases objs <;> simp
    · rename_i hc
      refine ih ?_
      revert hc
      cases Lt.wordRight _ <;> cases decide ((l.getD i default).Kind = 5) <;> cases objs <;> simp
  · simp only [F_showArgs_l2, lt_f, Bool.false_eq_true, if_false]; exact h

theorem args1 (a : Lt.Arg) (o : Bool) : Lt.showArgs [a] o = Lt.argRight o a := by simp [Lt.showArgs]

theorem law_frame (f : Lt.Frame) (KK : Bool → Prop) (h : KK (Lt.frame f)) : F_frame f KK := by
  unfold F_frame
  split
  · rename_i hc
    have e : Lt.frame f = false := by
      unfold Lt.frame
      simp only [Bool.or_eq_true, decide_eq_true_eq, Bool.not_eq_true'] at hc
      rcases hc with (((hc | hc) | hc) | hc) | hc
      · simp [hc]
      · simp [hc]
      · have : ¬ 0 ≤ f.At := by omega
        simp [this]
      · have : ¬ f.At ≤ 1024 := by omega
        simp [this]
      · have : ¬ f.Vars.length ≤ 16 := by omega
        simp [this]
    rw [e] at h; exact h
  · rename_i hc
    have e : Lt.frame f = (f.Vars.all Lt.bindRight && true) := by
      unfold Lt.frame
      simp only [Bool.or_eq_true, decide_eq_true_eq, Bool.not_eq_true', not_or, Bool.not_eq_false] at hc
      obtain ⟨⟨⟨⟨h1, h2⟩, h3⟩, h4⟩, h5⟩ := hc
      have h3' : 0 ≤ f.At := by omega
      have h4' : f.At ≤ 1024 := by omega
      have h5' : f.Vars.length ≤ 16 := by omega
      simp [h1, h2, h3', h4', h5']
    rw [e] at h
    intro hl
    refine all_loop f.Vars hl _ true KK (fun n i => F_frame_l2 f KK n i) (fun n i hi ih hF => ?_) (fun n h => ?_) h
    · simp only [F_frame_l2, lt_t hi, if_true, Int.toNat_natCast, args1]
      refine ⟨⟨Int.natCast_nonneg i, hi⟩, ?_⟩
      unfold Lt.bindRight at ih hF
      split
      · rename_i hc
        refine hF ?_
        revert hc
        cases Lt.Name _ <;> cases Lt.argRight _ _ <;> simp
      · rename_i hc
        refine ih ?_
        revert hc
        cases Lt.Name _ <;> cases Lt.argRight _ _ <;> simp
    · simp only [F_frame_l2, lt_f, Bool.false_eq_true, if_false]; exact h

theorem law_nth (l : List UInt8) (n : Int) (KK : List UInt8 → Prop) (h : KK (Lt.nth l n)) : F_nth l n KK := by
  unfold F_nth
  unfold Lt.nth at h
  have key : ∀ k (n : Int) (f i : Nat), l.length < i + k → 0 < k → (0 < i → f < i) → 0 < i → f ≤ l.length → l.length ≤ LEN → KK (Lt.nthG l k n f i) → F_nth_l2 l KK k n (f : Int) (i : Int) := by
    intro k
    induction k with
    | zero =>
      intro n f i h1 h0 h2 h2' h3 hl h
      exact absurd h0 (by omega)
    | succ k ih =>
      intro n f i h1 h0 h2 h2' h3 hl h
      simp only [F_nth_l2]
      intro _
      by_cases hi : i < l.length
      · simp only [lt_t hi, if_true, Int.toNat_natCast]
        refine ⟨⟨Int.natCast_nonneg i, hi⟩, ?_⟩
        simp only [Lt.nthG, hi, if_true] at h
        have w1 : IntKind.i64.wrap ((i : Int) + 1) = ((i + 1 : Nat) : Int) := wrap_succ (by unfold LEN at hl; omega)
        have w2 : IntKind.i64.wrap ((f : Int) + 1) = ((f + 1 : Nat) : Int) := wrap_succ (by unfold LEN at hl; omega)
        split
        · rename_i hc
          have hc' : ¬ (((l.getD i 0).toNat : Nat) : Int) = 32 := by simpa using hc
          rw [if_neg hc'] at h
          unfold F_nth_j3
          rw [w1]
          exact ih n f (i + 1) (by omega) (by omega) (by omega) (by omega) h3 hl h
        · rename_i hc
          have hc' : (((l.getD i 0).toNat : Nat) : Int) = 32 := by simpa using hc
          rw [if_pos hc'] at h
          split
          · rename_i hz
            have hz' : IntKind.i64.wrap (n - 1) = 0 := by simpa using hz
            rw [if_pos hz'] at h
            rw [w2, Int.toNat_natCast]
            refine ⟨⟨Int.natCast_nonneg _, Int.natCast_nonneg _, by omega, by omega⟩, h⟩
          · rename_i hz
            have hz' : ¬ IntKind.i64.wrap (n - 1) = 0 := by simpa using hz
            rw [if_neg hz'] at h
            unfold F_nth_j3
            rw [w1]
            exact ih _ i (i + 1) (by omega) (by omega) (by omega) (by omega) (by omega) hl h
      · have hf : decide ((i : Int) < (l.length : Int)) = false := by simp; omega
        simp only [hf, Bool.false_eq_true, if_false, F_nth_j1]
        simp only [Lt.nthG, hi, if_false] at h
        exact h
  by_cases hl : l.length ≤ LEN
  · exact ⟨l.length + 1, key (l.length + 1) n 0 1 (by omega) (by omega) (by omega) (by omega) (by omega) hl h⟩
  · exact ⟨1, fun h => absurd h hl⟩

theorem law_Of (op : Int) (KK : Lt.Form × Bool → Prop) (h : KK (Lt.Of op)) : F_Of op KK := by
  unfold F_Of
  unfold Lt.Of Lt.two at h
  simp only [apply_ite KK] at h
  simp only [Bool.and_eq_true, decide_eq_true_eq]
  exact h
end Go.Am
end

section
namespace Go.Am
open Go
set_option linter.unusedVariables false
set_option linter.unusedSimpArgs false

theorem wrap_small {n : Int} (h1 : -9223372036854775808 ≤ n) (h2 : n < 9223372036854775808) : IntKind.i64.wrap n = n := by
  simp only [IntKind.wrap, IntKind.signed, IntKind.bits]
  simp
  omega

theorem digit_of {r : Int} : UInt8.ofNat (Lt.numDigit (Int.tmod r 10)).toNat = UInt8.ofNat (48 + r.natAbs % 10) := by
  have hb : (Int.tmod r 10).natAbs = r.natAbs % 10 := by simp [Int.natAbs_tmod]
  have hlt : r.natAbs % 10 < 10 := Nat.mod_lt _ (by omega)
  have h : Lt.numDigit (Int.tmod r 10) = ((48 + r.natAbs % 10 : Nat) : Int) := by
    unfold Lt.numDigit
    have e1 : (if Int.tmod r 10 < 0 then IntKind.i64.wrap (0 - Int.tmod r 10) else Int.tmod r 10) = ((r.natAbs % 10 : Nat) : Int) := by
      split
      · rw [wrap_small (by omega) (by omega)]; omega
      · omega
    rw [e1, wrap_small (by omega) (by omega)]
    simp only [IntKind.wrap, IntKind.signed, IntKind.bits]
    simp
    omega
  rw [h, Int.toNat_natCast]

theorem digs_small {n : Nat} (h : n < 10) : Lt.digs n = [UInt8.ofNat (48 + n)] := by
  rw [Lt.digs, if_pos h]
theorem digs_big {n : Nat} (h : ¬ n < 10) : Lt.digs n = Lt.digs (n / 10) ++ [UInt8.ofNat (48 + n % 10)] := by
  rw [Lt.digs, if_neg h]

abbrev by8 (l : List Int) : List UInt8 := l.map fun n => UInt8.ofNat n.toNat

theorem drop_set (l : List Int) (i : Nat) (v : Int) (h : i < l.length) : (l.set i v).drop i = v :: l.drop (i + 1) := by
  rw [List.drop_eq_getElem_cons (by simpa using h)]
  simp only [List.getElem_set_self]
  congr 1
  exact List.drop_set_of_lt (by omega)

theorem numPut_loop (n : Int) (KK : List UInt8 → Prop) : ∀ (k : Nat) (r : Int) (at_ : Nat) (arr : List Int), r.natAbs < 10 ^ (k + 1) → k + 1 ≤ at_ → at_ ≤ 20 → arr.length = 20 → r.natAbs ≤ 9223372036854775808 →
    (∀ at' arr', at_ ≤ at' + (k + 1) → at' < 20 → arr'.length = 20 → by8 (arr'.drop at') = Lt.digs r.natAbs ++ by8 (arr.drop at_) → F_numPut_j1 n (at' : Int) arr' KK) →
    F_numPut_l3 n KK (k + 1) (at_ : Int) r arr := by
  intro k
  induction k with
  | zero =>
    intro r at_ arr h1 h2 h3 h4 h5 hk
    have w : IntKind.i64.wrap ((at_ : Int) - 1) = ((at_ - 1 : Nat) : Int) := by rw [wrap_small (by omega) (by omega)]; omega
    have hq : IntKind.i64.wrap (Int.tdiv r 10) = 0 := by
      have : (Int.tdiv r 10).natAbs = r.natAbs / 10 := by rw [Int.natAbs_tdiv]; rfl
      have h0 : r.natAbs / 10 = 0 := by omega
      have : Int.tdiv r 10 = 0 := by omega
      rw [this]; rfl
    simp only [F_numPut_l3, w, hq, decide_true, if_true, Int.toNat_natCast]
    refine ⟨trivial, ⟨Int.natCast_nonneg _, by omega, h4⟩, trivial, ?_⟩
    refine hk (at_ - 1) _ (by omega) (by omega) (by simpa using h4) ?_
    rw [drop_set _ _ _ (by omega), digs_small (by omega)]
    simp only [by8, List.map_cons, digit_of]
    rw [Nat.mod_eq_of_lt (by omega), show at_ - 1 + 1 = at_ by omega]
    rfl
  | succ k ih =>
    intro r at_ arr h1 h2 h3 h4 h5 hk
    have w : IntKind.i64.wrap ((at_ : Int) - 1) = ((at_ - 1 : Nat) : Int) := by rw [wrap_small (by omega) (by omega)]; omega
    have hq : (Int.tdiv r 10).natAbs = r.natAbs / 10 := by rw [Int.natAbs_tdiv]; rfl
    have wq : IntKind.i64.wrap (Int.tdiv r 10) = Int.tdiv r 10 := wrap_small (by omega) (by omega)
    simp only [F_numPut_l3, w, wq, Int.toNat_natCast]
    refine ⟨trivial, ⟨Int.natCast_nonneg _, by omega, h4⟩, trivial, ?_⟩
    have hd : by8 ((arr.set (at_ - 1) (Lt.numDigit (Int.tmod r 10))).drop (at_ - 1)) = UInt8.ofNat (48 + r.natAbs % 10) :: by8 (arr.drop at_) := by
      rw [drop_set _ _ _ (by omega)]
      simp only [by8, List.map_cons, digit_of]
      rw [show at_ - 1 + 1 = at_ by omega]
    split
    · rename_i hc
      have hc' : Int.tdiv r 10 = 0 := by simpa using hc
      have h0 : r.natAbs / 10 = 0 := by rw [← hq, hc']; rfl
      refine hk (at_ - 1) _ (by omega) (by omega) (by simpa using h4) ?_
      rw [hd, digs_small (by omega), Nat.mod_eq_of_lt (by omega)]
      rfl
    · rename_i hc
      have hc' : ¬ Int.tdiv r 10 = 0 := by simpa using hc
      have h10 : ¬ r.natAbs < 10 := by
        intro hlt
        exact hc' (by omega)
      refine ih _ _ _ (by rw [hq]; rw [Nat.pow_succ] at h1; omega) (by omega) (by omega) (by simpa using h4) (by omega) (fun at' arr' k1 k2 k3 k4 => hk at' arr' (by omega) k2 k3 ?_)
      rw [k4, hd, digs_big h10, hq]
      simp

theorem law_numPut (n : Int) (hp : Lt.preNum n) (KK : List UInt8 → Prop) (h : KK (Lt.numPut n)) : F_numPut n KK := by
  unfold Lt.preNum Lt.inR at hp
  refine ⟨19, numPut_loop n KK 18 n 20 _ (by omega) (by omega) (by omega) rfl (by omega) (fun at' arr' k1 k2 k3 k4 => ?_)⟩
  simp only [List.drop_eq_nil_of_le (show ([0, 0, 0, 0, 0, 0, 0, 0, 0, 0, 0, 0, 0, 0, 0, 0, 0, 0, 0, 0] : List Int).length ≤ 20 from Nat.le_refl _), by8, List.map_nil, List.append_nil] at k4
  unfold F_numPut_j1
  split
  · rename_i hc
    have hn : n < 0 := by simpa using hc
    have w : IntKind.i64.wrap ((at' : Int) - 1) = ((at' - 1 : Nat) : Int) := by rw [wrap_small (by omega) (by omega)]; omega
    rw [w, Int.toNat_natCast]
    refine ⟨⟨Int.natCast_nonneg _, by omega, k3⟩, ⟨Int.natCast_nonneg _, by rw [Int.toNat_natCast]; omega, by omega, by simpa using k3⟩, ?_⟩
    rw [Int.toNat_natCast, List.take_of_length_le (by simp [k3]), List.take_of_length_le (by simp [k3]), drop_set _ _ _ (by omega), List.map_cons, show at' - 1 + 1 = at' by omega]
    have : Lt.numPut n = 45 :: Lt.digs n.natAbs := by simp [Lt.numPut, hn]
    rw [this] at h
    simp only [k4]
    exact h
  · rename_i hc
    have hn : ¬ n < 0 := by simpa using hc
    refine ⟨⟨Int.natCast_nonneg _, by rw [Int.toNat_natCast]; omega, by omega, k3⟩, ?_⟩
    rw [Int.toNat_natCast, List.take_of_length_le (by simp [k3]), List.take_of_length_le (by simp [k3]), k4]
    have : Lt.numPut n = Lt.digs n.natAbs := by simp [Lt.numPut, hn]
    rw [this] at h
    exact h

theorem digs_len : ∀ (k n : Nat), n < 10 ^ (k + 1) → (Lt.digs n).length ≤ k + 1
  | 0, n, h => by rw [digs_small (by omega)]; simp
  | k + 1, n, h => by
    by_cases h10 : n < 10
    · rw [digs_small h10]; simp
    · rw [digs_big h10]
      have := digs_len k (n / 10) (by rw [Nat.pow_succ] at h; omega)
      simp only [List.length_append, List.length_cons, List.length_nil]
      omega

theorem numPut_len {n : Int} (h : Lt.inR n) : (Lt.numPut n).length ≤ 20 := by
  unfold Lt.inR at h
  have := digs_len 18 n.natAbs (by omega)
  unfold Lt.numPut
  simp only [List.length_append]
  split <;> simp <;> omega

theorem and15 (x : Int) : ((BitVec.ofInt IntKind.u64.bits x &&& BitVec.ofInt IntKind.u64.bits 15).toNat : Nat) < 16 := by
  have e : (BitVec.ofInt IntKind.u64.bits 15).toNat = 15 := by decide
  rw [BitVec.toNat_and, e]
  exact Nat.lt_of_le_of_lt Nat.and_le_right (by omega)

theorem wrapu_small {n : Nat} (h : n < 18446744073709551616) : IntKind.u64.wrap (n : Int) = (n : Int) := by
  simp only [IntKind.wrap, IntKind.signed, IntKind.bits]
  simp
  omega

theorem hexAt_ok (u x : Int) : (0 : Int) ≤ (IntKind.u64.wrap ((BitVec.ofInt IntKind.u64.bits (Int.fdiv (IntKind.u64.wrap u) (2 ^ (min (IntKind.u64.wrap x).toNat IntKind.u64.bits))) &&& BitVec.ofInt IntKind.u64.bits 15).toNat : Nat)) ∧
    (IntKind.u64.wrap ((BitVec.ofInt IntKind.u64.bits (Int.fdiv (IntKind.u64.wrap u) (2 ^ (min (IntKind.u64.wrap x).toNat IntKind.u64.bits))) &&& BitVec.ofInt IntKind.u64.bits 15).toNat : Nat)).toNat < ([48, 49, 50, 51, 52, 53, 54, 55, 56, 57, 97, 98, 99, 100, 101, 102] : List UInt8).length := by
  have h := and15 (Int.fdiv (IntKind.u64.wrap u) (2 ^ (min (IntKind.u64.wrap x).toNat IntKind.u64.bits)))
  rw [wrapu_small (by omega), Int.toNat_natCast]
  exact ⟨Int.natCast_nonneg _, h⟩

theorem law_floPut (n : Int) (KK : List UInt8 → Prop) (h : KK (Lt.floPut n)) : F_floPut n KK := by
  refine ⟨17, ?_⟩
  have key : ∀ k i, i + k = 16 → F_floPut_l2 n KK (k + 1) ([48, 102] ++ (List.range i).map fun (j : Nat) => Lt.hexAt (Lt.Plain n) (60 - 4 * (j : Int))) (60 - 4 * (i : Int)) := by
    intro k
    induction k with
    | zero =>
      intro i hi
      obtain rfl : i = 16 := by omega
      have : decide ((0 : Int) ≤ 60 - 4 * ((16 : Nat) : Int)) = false := by decide
      simp only [F_floPut_l2, this, Bool.false_eq_true, if_false]
      exact h
    | succ k ih =>
      intro i hi
      have hd : decide ((0 : Int) ≤ 60 - 4 * (i : Int)) = true := by simp; omega
      simp only [F_floPut_l2, hd, if_true]
      refine ⟨?_, hexAt_ok _ _, ?_, ?_⟩
      · have : IntKind.u64.wrap (60 - 4 * (i : Int)) = 60 - 4 * (i : Int) := by
          have := wrapu_small (n := 60 - 4 * i) (by omega)
          rw [show ((60 - 4 * i : Nat) : Int) = 60 - 4 * (i : Int) by omega] at this
          exact this
        rw [this]; omega
      · simp only [List.length_append, List.length_map, List.length_range, List.length_cons, List.length_nil]
        omega
      · have w : IntKind.i64.wrap (60 - 4 * (i : Int) - 4) = 60 - 4 * ((i + 1 : Nat) : Int) := by rw [wrap_small (by omega) (by omega)]; omega
        rw [w]
        have := ih (i + 1) (by omega)
        rw [List.range_succ, List.map_append, ← List.append_assoc] at this
        exact this
  exact key 16 0 rfl

theorem floPut_len (n : Int) : (Lt.floPut n).length = 18 := by simp [Lt.floPut]

theorem law_wordPut (a : Lt.Arg) (hp : Lt.prePut a) (KK : List UInt8 → Prop) (h : KK (Lt.wordPut a)) : F_wordPut a KK := by
  unfold F_wordPut; unfold Lt.wordPut at h
  unfold Lt.prePut Lt.Arg.ok at hp
  cases hr : Lt.wordRight a
  · rw [hr] at h; simpa using h
  · rw [hr, if_pos rfl] at h
    simp only [Bool.not_true, Bool.false_eq_true, if_false, decide_eq_true_eq]
    split
    · rename_i hc; rw [if_pos hc] at h; exact ⟨hp, h⟩
    · rename_i hc; rw [if_neg hc] at h
      split
      · rename_i hc; rw [if_pos hc] at h; exact h
      · rename_i hc; rw [if_neg hc] at h
        split
        · rename_i hc; rw [if_pos hc] at h; exact h
        · rename_i hc; rw [if_neg hc] at h
          split
          · rename_i hc; rw [if_pos hc] at h
            refine ⟨hp, ?_, h⟩
            have := numPut_len hp
            simp only [List.length_cons, List.length_nil]
            omega
          · rename_i hc; rw [if_neg hc] at h; exact h

theorem law_puts (l : List Lt.Arg) (hp : Lt.prePuts l) (KK : List (List UInt8) → Prop) (h : KK (Lt.puts l)) : F_puts l KK := by
  obtain ⟨hp, hl⟩ := hp
  intro _
  refine idx_loop l.length (by unfold LEN; omega) (fun i => Lt.puts (l.take i)) (fun n b i => F_puts_l2 l KK n b i) (fun n i hi ih => ?_) (fun n => ?_)
  · simp only [F_puts_l2, lt_t hi, if_true, Int.toNat_natCast]
    refine ⟨⟨Int.natCast_nonneg i, hi⟩, hp _ (mem_getD l hi), ?_, ?_⟩
    · simp only [Lt.puts, List.length_map, List.length_take]; omega
    · rw [take_snoc l hi] at ih
      simp only [Lt.puts, List.map_append, List.map_cons, List.map_nil] at ih ⊢
      exact ih
  · simp only [F_puts_l2, lt_f, Bool.false_eq_true, if_false, F_puts_j1, List.take_length]; exact h
end Go.Am
end
