/-
  Part 12: AmRead · AmCall · AmK_0 · AmK_1.
-/
import Derived.Test.YtembkmhdijoppaaUn11
import Derived.SizedLaws
set_option linter.unusedSimpArgs false
set_option linter.unusedVariables false
set_option linter.unusedSectionVars false
set_option linter.unnecessarySimpa false
section
namespace Go.Am

/-- all memory, as it is -/
def snap (W : World) : FH := fun b o => W.cell? ⟨b, o, none⟩

def RdAt (H : FH) : List D → List Value → Nat → Prop
  | [], _, _ => True
  | d :: r, cs, o => (∃ y, cs[o]? = some y ∧ FDx H d y) ∧ RdAt H r cs (o + 1)

theorem RdAt_get {H : FH} : ∀ {ds : List D} {cs : List Value} {o : Nat}, RdAt H ds cs o → ∀ j, j < ds.length → ∃ y, cs[o + j]? = some y ∧ FDx H (ds.getD j default) y
  | d :: r, cs, o, ⟨h, _⟩, 0, _ => h
  | d :: r, cs, o, ⟨_, h⟩, j + 1, hj => by
    obtain ⟨y, h1, h2⟩ := RdAt_get h j (by simpa using hj)
    exact ⟨y, by rw [← h1]; congr 1; omega, h2⟩
  | [], _, _, _, j, hj => by simp at hj

theorem RdAt_of {H : FH} : ∀ {ds : List D} {cs : List Value} {o : Nat}, (∀ j, j < ds.length → ∃ y, cs[o + j]? = some y ∧ FDx H (ds.getD j default) y) → RdAt H ds cs o
  | [], _, _, _ => trivial
  | d :: r, cs, o, h => ⟨h 0 (by simp), RdAt_of (fun j hj => by
      obtain ⟨y, h1, h2⟩ := h (j + 1) (by simpa using hj)
      exact ⟨y, by rw [← h1]; congr 1; omega, h2⟩)⟩

/-- a part of a struct, read where it lies -/
theorem RdAt_part {H : FH} {ds : List D} {cs : List Value} {o n : Nat} (h : RdAt H ds ((cs.drop o).take n) 0) : RdAt H ds cs o :=
  RdAt_of fun j hj => by
    obtain ⟨y, h1, h2⟩ := RdAt_get h j hj
    rw [Nat.zero_add] at h1
    refine ⟨y, ?_, h2⟩
    rw [List.getElem?_take] at h1
    split at h1
    · rw [List.getElem?_drop] at h1; exact h1
    · cases h1

/-- values of type t are read as R tells; ok: what is known of them then -/
def Reads (P : Program) (W : World) (t : TypeId) {α : Type} (R : α → List D) (ok : α → Prop) : Prop :=
  ∀ (Hh : Type) (enc : TypeId × Value → Hh) (fuel : Nat) (cs : List Value) (x : DataW Hh × List MemPlace), DataW.trod enc P W 0 (fun _ => true) true fuel t cs = some x →
    (∀ n ∈ x.1.weights P t, n ≤ reachBytes) → ∃ a : α, ok a ∧ RdAt (snap W) (R a) cs 0 ∧ cs.length = (R a).length

def okI (k : IntKind) (n : Int) : Prop := (Lit.int k n).wf = true
def okS (l : List UInt8) : Prop := l.length ≤ 140737488351232
def okL {α : Type} (p : α → Prop) (l : List α) : Prop := l.length ≤ 140737488351232 ∧ ∀ a ∈ l, p a
def okB (_ : Bool) : Prop := True

theorem list_len1 {α : Type} : ∀ {l : List α}, l.length = 1 → ∃ a0, l = [a0]
  | [a0], _ => ⟨a0, rfl⟩
theorem list_len2 {α : Type} : ∀ {l : List α}, l.length = 2 → ∃ a0 a1, l = [a0, a1]
  | [a0, a1], _ => ⟨a0, a1, rfl⟩
theorem list_len3 {α : Type} : ∀ {l : List α}, l.length = 3 → ∃ a0 a1 a2, l = [a0, a1, a2]
  | [a0, a1, a2], _ => ⟨a0, a1, a2, rfl⟩
theorem list_len4 {α : Type} : ∀ {l : List α}, l.length = 4 → ∃ a0 a1 a2 a3, l = [a0, a1, a2, a3]
  | [a0, a1, a2, a3], _ => ⟨a0, a1, a2, a3, rfl⟩
theorem list_len5 {α : Type} : ∀ {l : List α}, l.length = 5 → ∃ a0 a1 a2 a3 a4, l = [a0, a1, a2, a3, a4]
  | [a0, a1, a2, a3, a4], _ => ⟨a0, a1, a2, a3, a4, rfl⟩
theorem list_len6 {α : Type} : ∀ {l : List α}, l.length = 6 → ∃ a0 a1 a2 a3 a4 a5, l = [a0, a1, a2, a3, a4, a5]
  | [a0, a1, a2, a3, a4, a5], _ => ⟨a0, a1, a2, a3, a4, a5, rfl⟩
theorem list_len7 {α : Type} : ∀ {l : List α}, l.length = 7 → ∃ a0 a1 a2 a3 a4 a5 a6, l = [a0, a1, a2, a3, a4, a5, a6]
  | [a0, a1, a2, a3, a4, a5, a6], _ => ⟨a0, a1, a2, a3, a4, a5, a6, rfl⟩
theorem list_len8 {α : Type} : ∀ {l : List α}, l.length = 8 → ∃ a0 a1 a2 a3 a4 a5 a6 a7, l = [a0, a1, a2, a3, a4, a5, a6, a7]
  | [a0, a1, a2, a3, a4, a5, a6, a7], _ => ⟨a0, a1, a2, a3, a4, a5, a6, a7, rfl⟩
theorem list_len9 {α : Type} : ∀ {l : List α}, l.length = 9 → ∃ a0 a1 a2 a3 a4 a5 a6 a7 a8, l = [a0, a1, a2, a3, a4, a5, a6, a7, a8]
  | [a0, a1, a2, a3, a4, a5, a6, a7, a8], _ => ⟨a0, a1, a2, a3, a4, a5, a6, a7, a8, rfl⟩
theorem list_len10 {α : Type} : ∀ {l : List α}, l.length = 10 → ∃ a0 a1 a2 a3 a4 a5 a6 a7 a8 a9, l = [a0, a1, a2, a3, a4, a5, a6, a7, a8, a9]
  | [a0, a1, a2, a3, a4, a5, a6, a7, a8, a9], _ => ⟨a0, a1, a2, a3, a4, a5, a6, a7, a8, a9, rfl⟩
theorem list_len11 {α : Type} : ∀ {l : List α}, l.length = 11 → ∃ a0 a1 a2 a3 a4 a5 a6 a7 a8 a9 a10, l = [a0, a1, a2, a3, a4, a5, a6, a7, a8, a9, a10]
  | [a0, a1, a2, a3, a4, a5, a6, a7, a8, a9, a10], _ => ⟨a0, a1, a2, a3, a4, a5, a6, a7, a8, a9, a10, rfl⟩
theorem list_len12 {α : Type} : ∀ {l : List α}, l.length = 12 → ∃ a0 a1 a2 a3 a4 a5 a6 a7 a8 a9 a10 a11, l = [a0, a1, a2, a3, a4, a5, a6, a7, a8, a9, a10, a11]
  | [a0, a1, a2, a3, a4, a5, a6, a7, a8, a9, a10, a11], _ => ⟨a0, a1, a2, a3, a4, a5, a6, a7, a8, a9, a10, a11, rfl⟩

section
variable {P : Program} {W : World} {t : TypeId}

theorem Reads_int {k : IntKind} (ht : P.underlying t = some (.int k)) : Reads P W t (fun n : Int => [.int k n]) (okI k) := by
  intro Hh enc fuel cs x h _
  obtain ⟨n, rfl, rfl, hw⟩ := DataW.trod_int ht h
  exact ⟨n, hw, ⟨⟨_, rfl, 0, rfl, hw⟩, trivial⟩, rfl⟩

theorem Reads_bool (ht : P.underlying t = some .bool) : Reads P W t (fun b : Bool => [.bool b]) okB := by
  intro Hh enc fuel cs x h _
  obtain ⟨b, rfl, rfl⟩ := DataW.trod_bool ht h
  exact ⟨b, trivial, ⟨⟨_, rfl, 0, rfl⟩, trivial⟩, rfl⟩

theorem Reads_string (ht : P.underlying t = some .string) : Reads P W t (fun s : List UInt8 => [.str s]) okS := by
  intro Hh enc fuel cs x h hw
  obtain ⟨s, rfl, rfl, _⟩ := DataW.trod_string ht h
  have hl : s.data.toList.length ≤ 140737488351232 := hw s.data.toList.length (by simp [DataW.weights])
  exact ⟨s.data.toList, hl, ⟨⟨_, rfl, 0, by simp, by unfold BIG; omega⟩, trivial⟩, rfl⟩

theorem choose_al {α : Type} {p : Nat → α → Prop} : ∀ n, (∀ i, i < n → ∃ a, p i a) → ∃ l : List α, l.length = n ∧ ∀ i a, l[i]? = some a → p i a
  | 0, _ => ⟨[], rfl, fun i a h => by simp at h⟩
  | n + 1, h => by
    obtain ⟨l, hl, hp⟩ := choose_al n (fun i hi => h i (by omega))
    obtain ⟨a, ha⟩ := h n (by omega)
    refine ⟨l ++ [a], by simp [hl], fun i b hb => ?_⟩
    rcases Nat.lt_or_ge i n with hi | hi
    · rw [List.getElem?_append_left (by omega)] at hb
      exact hp i b hb
    · rw [List.getElem?_append_right (by omega), hl] at hb
      have : i - n = 0 := by
        rcases Nat.eq_zero_or_pos (i - n) with h | h
        · exact h
        · rw [List.getElem?_eq_none (by simp; omega)] at hb; cases hb
      rw [this] at hb
      simp at hb
      have : i = n := by omega
      subst this; subst hb
      exact ha

theorem cells_get {W : World} {base : Nat} {a : Addr} {n : Nat} {cs : List Value} (h : W.cells? base a n = some cs) : cs.length = n ∧ ∀ j y, cs[j]? = some y → W.cell? (a.add j) = some y := by
  unfold World.cells? at h
  split at h
  · have hl := mapM_some_length h
    rw [List.length_range] at hl
    refine ⟨hl, fun j y hy => ?_⟩
    have hj : j < n := by
      rw [← hl]
      exact (List.getElem?_eq_some_iff.1 hy).1
    have := mapM_some_get h j j (by rw [List.getElem?_range hj])
    rw [this, hy]
  · cases h

theorem weights_all {Hh : Type} {e : TypeId} : ∀ {l : List (DataW Hh)} {i : Nat} {d : DataW Hh}, l[i]? = some d → ∀ n ∈ d.weights P e, n ∈ DataW.weightsAll P e l
  | d0 :: l, 0, d, h, n, hn => by
    simp only [List.getElem?_cons_zero, Option.some.injEq] at h
    subst h
    simp only [DataW.weightsAll, List.mem_append]
    exact .inl hn
  | d0 :: l, i + 1, d, h, n, hn => by
    simp only [List.getElem?_cons_succ] at h
    simp only [DataW.weightsAll, List.mem_append]
    exact .inr (weights_all h n hn)
  | [], _, _, h, _, _ => by simp at h

theorem Reads_slice {e : TypeId} {α : Type} {R : α → List D} {ok : α → Prop} {es : Nat} (ht : P.underlying t = some (.slice e)) (hce : P.cellsOf e = es) (hby : 1 ≤ P.bytesOf e) (hlen : ∀ a, (R a).length = es) (hpos : 0 < es) (he : Reads P W e R ok) :
    Reads P W t (fun l : List α => [.li (l.map R)]) (okL ok) := by
  intro Hh enc fuel cs x h hw
  rcases DataW.trod_slice ht h with ⟨rfl, rfl⟩ | ⟨a, len, cap, elems, rest, n, rfl, rfl, rfl, _, hlc, hcm, hel, hget, _, _⟩
  · exact ⟨[], ⟨by simp, by simp⟩, ⟨⟨_, rfl, FDx_nil⟩, trivial⟩, rfl⟩
  · rw [hce] at hget
    have hweights : ∀ n ∈ (DataW.slice (elems.map (·.1)) (rest.map (·.1))).weights P t, n ≤ reachBytes := hw
    simp only [DataW.weights, ht] at hweights
    have hlenB : len ≤ 140737488351232 := by
      have h1 := hweights _ (List.mem_cons_self ..)
      simp only [List.length_map] at h1
      have h2 : len * 1 ≤ (elems.length + rest.length) * P.bytesOf e := Nat.mul_le_mul (by omega) hby
      unfold reachBytes at h1
      omega
    obtain ⟨l, hl, hp⟩ := choose_al (p := fun i (a0 : α) => ok a0 ∧ ∃ ci, W.cells? 0 (a.add (i * es)) es = some ci ∧ RdAt (snap W) (R a0) ci 0) len (fun i hi => by
      have hg := hget i hi
      have hlt : i < elems.length := by omega
      rw [List.getElem?_eq_getElem hlt] at hg
      simp only [Option.bind_eq_some_iff] at hg
      obtain ⟨ci, hc, htr⟩ := hg
      obtain ⟨a0, h1, h2, _⟩ := he Hh enc n ci _ htr (fun m hm => hweights m (List.mem_cons_of_mem _ (List.mem_append_left _ (weights_all (i := i) (by rw [List.getElem?_map, List.getElem?_eq_getElem hlt]; rfl) m hm))))
      exact ⟨a0, h1, ci, hc, h2⟩)
    refine ⟨l, ⟨by omega, fun a0 ha => ?_⟩, ⟨⟨_, rfl, ?_⟩, trivial⟩, rfl⟩
    · obtain ⟨i, hi, rfl⟩ := List.mem_iff_getElem.1 ha
      exact (hp i _ (List.getElem?_eq_getElem hi)).1
    · by_cases h0 : len = 0
      · have : l = [] := List.eq_nil_of_length_eq_zero (by omega)
        subst this
        subst h0
        exact ⟨1, some a, cap, rfl, Nat.zero_le _, Nat.zero_le _, .inl rfl⟩
      · have hsp : a.spot = none := by
          have h00 : 0 < l.length := by omega
          obtain ⟨_, ci, hc, hr⟩ := hp 0 _ (List.getElem?_eq_getElem h00)
          obtain ⟨hcl, hcg⟩ := cells_get hc
          have hi : 0 < ci.length := by omega
          have := hcg 0 _ (List.getElem?_eq_getElem hi)
          have := World.cell?_spot this
          simpa [Addr.add] using this
        obtain ⟨b, o, sp⟩ := a
        dsimp only at hsp
        subst hsp
        obtain ⟨m, hm⟩ := FEl_of_x (H := snap W) (l := l.map R) (b := b) (o := o) (e := es) (fun i hi => by
          rw [List.length_map] at hi
          have hg : (l.map R).getD i [] = R l[i] := by simp [List.getD, hi]
          rw [hg]
          refine ⟨hlen _, fun j hj => ?_⟩
          obtain ⟨_, ci, hc, hr⟩ := hp i _ (List.getElem?_eq_getElem hi)
          obtain ⟨hcl, hcg⟩ := cells_get hc
          obtain ⟨y, h1, h2⟩ := RdAt_get hr j (by rw [hlen]; exact hj)
          rw [Nat.zero_add] at h1
          have := hcg j y h1
          exact ⟨y, by rw [addr_add, addr_add] at this; exact this, h2⟩)
        refine ⟨m + 1, FD_li.2 ⟨some ⟨b, o, none⟩, cap, by rw [List.length_map, hl], by rw [List.length_map, hl]; exact hlc, by rw [List.length_map, hl]; unfold BIG; omega, .inr ⟨b, o, es, rfl, hm⟩⟩⟩

end
end Go.Am
end

section
namespace Go.Am
open Go.RowKit

theorem Calls_walk {P : Program} {f : Nat} {fn : Func} {c : Code} (hf : P.funcs[f]? = some fn) (hb : fn.body = some c) (args : List Value) (avs : List AV) (W : World) (hle : args.length ≤ fn.ntmps) (hlen : avs.length = args.length)
    (hargs : ∀ (i : Nat) v, avs[i]? = some v → ∃ y, args[i]? = some y ∧ AR W (snap W) (fun _ => .blk 0) [] v y) (K : AV → Prop)
    (hbody : ∀ g : G, g.nt = fn.ntmps → AW P g c (retQ P fn.results.toList K) ⟨entryT 0 avs, []⟩) :
    Calls P f args.toArray W (fun e w' => ∃ v r H γ m, e = .returned v ∧ K r ∧ AR w' H γ m r v ∧ Below W.heap.size W w') := by
  let g1 : G := ⟨fn.ntmps, W, snap W, fun _ => 0, fun _ => none⟩
  refine calls_of_wp hf hb (Code.wp_mono (fun e a' w' hl => ?_) (hbody g1 rfl _ W ⟨snap W, fun _ => .blk 0, fun _ _ => 0, ?_⟩))
  · obtain ⟨s', hq, H', γ', F', hX'⟩ := hl
    have fin : resK P s' fn.results.toList K → a'.defers = [] ∧ ∃ v, (results fn a'.tmps).run P w' = .ok v w' ∧ ∃ v0 r H γ m, Ending.returned v = .returned v0 ∧ K r ∧ AR w' H γ m r v0 ∧ Below W.heap.size W w' := by
      intro hq
      obtain ⟨y, v, s2, H2, F2, e1, e2, e3, e4, e5⟩ := resK_ok hX' hq
      have hfr := e2.fr
      dsimp only [g1] at hfr
      exact ⟨e2.df.1, y, e1, y, v.map T.canon, H2, γ', s2.m, rfl, e5, AR_map TR_canon e3, ⟨hfr.os, hfr.tape, hfr.output, hfr.size, fun b hb => hfr.block b hb rfl⟩⟩
    cases e with
    | normal => exact fin hq
    | ret => exact fin hq
    | _ => exact hq.elim
  · refine ⟨⟨fun b o y h => h, fun x hx => by simp at hx, by simp, fun b => Nat.zero_le _, fun b hb => absurd rfl hb, fun b hb => absurd rfl hb⟩, ⟨Nat.le_refl _, rfl, rfl, rfl, fun _ _ _ => rfl, fun _ _ _ h => h, fun b o h2 h3 => absurd h3 h2, fun b hb => absurd rfl hb⟩, ?_, ⟨rfl, fun j b e => by simp [g1] at e⟩, fun i => ?_⟩
    · simp [g1]; omega
    · rw [getT_entryT]
      simp only [Nat.zero_le, if_true, Nat.sub_zero]
      cases hi : avs[i]? with
      | none => simp only [Option.getD_none]; trivial
      | some v =>
        obtain ⟨y, hy, har⟩ := hargs i v hi
        have hlt : i < args.length := (List.getElem?_eq_some_iff.1 hy).1
        simp only [Option.getD_some]
        have hget : (args.toArray ++ Array.replicate (fn.ntmps - args.toArray.size) undef).getD i undef = y := by
          rw [Array.getD_eq_getD_getElem?, Array.getElem?_append_left (by simpa using hlt)]
          simp [hy]
        rw [hget]
        exact har

section
variable {P : Program} {W : World} {γ : Gam}

/-- a struct that came in -/
theorem AR_struct {v : Value} {ds : List D} {cs : Array Value} (hv : v = .agg cs) (hr : RdAt (snap W) ds v.cells.toList 0) (hl : v.cells.toList.length = ds.length) : AR W (snap W) γ [] (.one (.agg (ds.map T.d))) v := by
  subst hv
  simp only [Value.cells] at hr hl
  refine ⟨cs, rfl, by simpa using hl, Ts_zero (by simpa using hl) (fun i t ht => ?_)⟩
  rw [List.getElem?_map] at ht
  obtain ⟨d, hd, rfl⟩ := Option.map_eq_some_iff.1 ht
  have hlt := (List.getElem?_eq_some_iff.1 hd).1
  obtain ⟨y, h1, h2⟩ := RdAt_get hr i hlt
  rw [Nat.zero_add] at h1
  have : ds.getD i default = d := by rw [List.getD, hd]; rfl
  rw [this] at h2
  exact ⟨y, h1, fun _ => rfl, h2⟩

theorem AR_string {s : ByteArray} (h : s.data.toList.length ≤ 140737488351232) : AR W (snap W) γ [] (.one (.c (.d (.str s.data.toList)))) (.string s) := by
  have := AR_mk_str (w := W) (H := snap W) (γ := γ) (m := []) (l := s.data.toList) (by unfold BIG; omega)
  simpa using this

/-- a bool's result -/
theorem AR_true {w : World} {H : FH} {m : Mm} {v : Value} (h : AR w H γ m (o1 cB true) v) : v = .bool true := by
  obtain ⟨_, h⟩ := h
  exact FDx_bool h

end
end Go.Am
end

section
namespace Go.Am
open Go.Proofs
set_option linter.unusedSimpArgs false
set_option linter.unusedVariables false
def C_Join : CK1 := pureC (fn1 (cL Lt.Line.rw) (o1 cS) (Lt.preJoin) Lt.Join)
theorem c_Join : Con Try.prog 20 C_Join :=
  Con_fn1 (fn := Try.f20) (c := Try.f20.body.getD .skip) (by kernel_rfl) (by kernel_rfl) (by kernel_rfl) (by decide +kernel) (fun g ls K hg hp hK => walk_Join g hg ls hp K hK)
attribute [push_cast] C_Join
set_option maxRecDepth 100000 in
set_option maxHeartbeats 4000000 in
theorem walk_example6 (g : G) (hg : g.nt = Try.f10.ntmps) (a0_end : Lt.Term) (K : AV → Prop) (KK : (Lt.Program) → Prop) (hKK : ∀ r, KK r → K (o1 (cA Lt.Program.rw) r) ) (h : F_example6 a0_end KK) :
    AW Try.prog g (Try.f10.body.getD .skip) (retQ Try.prog [.cell 2 27] K) ⟨entryT 0 [.one ((cA Lt.Term.rw).enc a0_end)], []⟩ := by
  have hcs : CT.Ok Try.prog [] := CT.ok0
  have hn : g.nt = 9 := hg
  have hm : Try.prog.follows .mixedOrders = true := by kernel_rfl
  unfold Try.f10
  dsimp only [Option.getD_some]
  unfold F_example6 at h
  apply AW_seq_k
  intro K1 hK1
  have hx := True.intro
  refine rgA [1, 2] [] ?_
  iterate 2 refine stA ?_
  refine enA ?_
  refine hK1 _ ?_
  apply AW_seq_k
  intro K2 hK2
  have hx := True.intro
  refine rgA [2] [.gh 5, .loc 1, .gh 7] ?_
  iterate 7 refine stA ?_
  refine enA ?_
  refine hK2 _ ?_
  apply AW_ret
  exact fiA (hKK _ h)

def C_example6 : CK1 := pureC (fn1 (cA Lt.Term.rw) (o1 (cA Lt.Program.rw)) (fun _ => True) Lt.example6)
theorem c_example6 : Con Try.prog 10 C_example6 :=
  Con_fn1 (fn := Try.f10) (c := Try.f10.body.getD .skip) (by kernel_rfl) (by kernel_rfl) (by kernel_rfl) (by decide +kernel) (fun g a0_end K hg hp hK => walk_example6 g hg a0_end K _ (fun _ h => h) (law_example6 a0_end _ hK))
attribute [push_cast] C_example6

set_option maxRecDepth 100000 in
set_option maxHeartbeats 4000000 in
theorem walk_letter (g : G) (hg : g.nt = Try.f25.ntmps) (a0_c : Int) (K : AV → Prop) (KK : (Bool) → Prop) (hKK : ∀ r, KK r → K (o1 cB r) ) (h : F_letter a0_c KK) :
    AW Try.prog g (Try.f25.body.getD .skip) (retQ Try.prog [.tmp 2] K) ⟨entryT 0 [.one ((cI .u8).enc a0_c)], []⟩ := by
  have hcs : CT.Ok Try.prog [] := CT.ok0
  have hn : g.nt = 21 := hg
  have hm : Try.prog.follows .mixedOrders = true := by kernel_rfl
  unfold Try.f25
  dsimp only [Option.getD_some]
  unfold F_letter at h
  apply AW_seq_k
  intro K1 hK1
  have hx := True.intro
  refine rgA [0] [] ?_
  refine stA ?_
  refine enA ?_
  refine hK1 _ ?_
  apply AW_seq_k
  intro K2 hK2
  have hx := True.intro
  refine rgV [] [] 2 (.one (.c (.d (.bool ((((decide (97 ≤ a0_c)) && (decide (a0_c ≤ 122))) || ((decide (65 ≤ a0_c)) && (decide (a0_c ≤ 90)))) || (decide (a0_c = 95))))))) ?_ ?_
  · clear h
    iterate 3 refine stA ?_
    cases hb : (decide (97 ≤ a0_c))
    · have hx := And.intro hb hx
      iterate 7 refine stA ?_
      cases hb : (decide (65 ≤ a0_c))
      · have hx := And.intro hb hx
        iterate 9 refine stA ?_
        exact lfA
      · have hx := And.intro hb hx
        iterate 5 refine stA ?_
        cases hb : (decide (a0_c ≤ 90))
        · have hx := And.intro hb hx
          iterate 4 refine stA ?_
          exact lfA
        · have hx := And.intro hb hx
          iterate 4 refine stA ?_
          exact lfA
    · have hx := And.intro hb hx
      iterate 4 refine stA ?_
      cases hb : (decide (a0_c ≤ 122))
      · have hx := And.intro hb hx
        iterate 3 refine stA ?_
        cases hb : (decide (65 ≤ a0_c))
        · have hx := And.intro hb hx
          iterate 9 refine stA ?_
          exact lfA
        · have hx := And.intro hb hx
          iterate 5 refine stA ?_
          cases hb : (decide (a0_c ≤ 90))
          · have hx := And.intro hb hx
            iterate 4 refine stA ?_
            exact lfA
          · have hx := And.intro hb hx
            iterate 4 refine stA ?_
            exact lfA
      · have hx := And.intro hb hx
        iterate 12 refine stA ?_
        exact lfA
  · refine hK2 _ ?_
    apply AW_ret
    exact fiA (hKK _ h)

def C_letter : CK1 := pureC (fn1 (cI .u8) (o1 cB) (fun _ => True) Lt.letter)
theorem c_letter : Con Try.prog 25 C_letter :=
  Con_fn1 (fn := Try.f25) (c := Try.f25.body.getD .skip) (by kernel_rfl) (by kernel_rfl) (by kernel_rfl) (by decide +kernel) (fun g a0_c K hg hp hK => walk_letter g hg a0_c K _ (fun _ h => h) (law_letter a0_c _ hK))
attribute [push_cast] C_letter

set_option maxRecDepth 100000 in
set_option maxHeartbeats 4000000 in
theorem walk_kept (g : G) (hg : g.nt = Try.f26.ntmps) (a0_s : List UInt8) (K : AV → Prop) (KK : (Bool) → Prop) (hKK : ∀ r, KK r → K (o1 cB r) ) (h : F_kept a0_s KK) :
    AW Try.prog g (Try.f26.body.getD .skip) (retQ Try.prog [.tmp 2] K) ⟨entryT 0 [.one (cS.enc a0_s)], []⟩ := by
  have hcs : CT.Ok Try.prog [] := CT.ok0
  have hn : g.nt = 13 := hg
  have hm : Try.prog.follows .mixedOrders = true := by kernel_rfl
  unfold Try.f26
  dsimp only [Option.getD_some]
  unfold F_kept at h
  apply AW_seq_k
  intro K1 hK1
  have hx := True.intro
  refine rgA [0] [] ?_
  refine stA ?_
  refine enA ?_
  refine hK1 _ ?_
  apply AW_seq_k
  intro K2 hK2
  have hx := True.intro
  refine rgV [] [] 2 (.one (.c (.d (.bool (((decide (a0_s = [110, 117, 108, 108])) || (decide (a0_s = [105, 110, 116]))) || (decide (a0_s = [102, 108, 111, 97, 116]))))))) ?_ ?_
  · clear h
    iterate 3 refine stA ?_
    cases hb : (decide (a0_s = [110, 117, 108, 108]))
    · have hx := And.intro hb hx
      iterate 4 refine stA ?_
      cases hb : (decide (a0_s = [105, 110, 116]))
      · have hx := And.intro hb hx
        iterate 4 refine stA ?_
        exact lfA
      · have hx := And.intro hb hx
        iterate 4 refine stA ?_
        exact lfA
    · have hx := And.intro hb hx
      iterate 8 refine stA ?_
      exact lfA
  · refine hK2 _ ?_
    apply AW_ret
    exact fiA (hKK _ h)

def C_kept : CK1 := pureC (fn1 cS (o1 cB) (fun _ => True) Lt.kept)
theorem c_kept : Con Try.prog 26 C_kept :=
  Con_fn1 (fn := Try.f26) (c := Try.f26.body.getD .skip) (by kernel_rfl) (by kernel_rfl) (by kernel_rfl) (by decide +kernel) (fun g a0_s K hg hp hK => walk_kept g hg a0_s K _ (fun _ h => h) (law_kept a0_s _ hK))
attribute [push_cast] C_kept

set_option maxRecDepth 100000 in
set_option maxHeartbeats 4000000 in
theorem walk_wordDigit (g : G) (hg : g.nt = Try.f27.ntmps) (a0_c : Int) (K : AV → Prop) (KK : (Bool) → Prop) (hKK : ∀ r, KK r → K (o1 cB r) ) (h : F_wordDigit a0_c KK) :
    AW Try.prog g (Try.f27.body.getD .skip) (retQ Try.prog [.tmp 2] K) ⟨entryT 0 [.one ((cI .u8).enc a0_c)], []⟩ := by
  have hcs : CT.Ok Try.prog [] := CT.ok0
  have hn : g.nt = 9 := hg
  have hm : Try.prog.follows .mixedOrders = true := by kernel_rfl
  unfold Try.f27
  dsimp only [Option.getD_some]
  unfold F_wordDigit at h
  apply AW_seq_k
  intro K1 hK1
  have hx := True.intro
  refine rgA [0] [] ?_
  refine stA ?_
  refine enA ?_
  refine hK1 _ ?_
  apply AW_seq_k
  intro K2 hK2
  have hx := True.intro
  refine rgV [] [] 2 (.one (.c (.d (.bool ((decide (48 ≤ a0_c)) && (decide (a0_c ≤ 57))))))) ?_ ?_
  · clear h
    iterate 3 refine stA ?_
    cases hb : (decide (48 ≤ a0_c))
    · have hx := And.intro hb hx
      iterate 4 refine stA ?_
      exact lfA
    · have hx := And.intro hb hx
      iterate 4 refine stA ?_
      exact lfA
  · refine hK2 _ ?_
    apply AW_ret
    exact fiA (hKK _ h)

def C_wordDigit : CK1 := pureC (fn1 (cI .u8) (o1 cB) (fun _ => True) Lt.wordDigit)
theorem c_wordDigit : Con Try.prog 27 C_wordDigit :=
  Con_fn1 (fn := Try.f27) (c := Try.f27.body.getD .skip) (by kernel_rfl) (by kernel_rfl) (by kernel_rfl) (by decide +kernel) (fun g a0_c K hg hp hK => walk_wordDigit g hg a0_c K _ (fun _ h => h) (law_wordDigit a0_c _ hK))
attribute [push_cast] C_wordDigit

set_option maxRecDepth 100000 in
set_option maxHeartbeats 4000000 in
theorem walk_Name (g : G) (hg : g.nt = Try.f14.ntmps) (a0_s : List UInt8) (K : AV → Prop) (KK : (Bool) → Prop) (hKK : ∀ r, KK r → K (o1 cB r) ) (h : F_Name a0_s KK) :
    AW Try.prog g (Try.f14.body.getD .skip) (retQ Try.prog [.tmp 2] K) ⟨entryT 0 [.one (cS.enc a0_s)], []⟩ := by
  have hcs : CT.Ok Try.prog [(25, C_letter), (26, C_kept), (27, C_wordDigit)] := (CT.cons c_letter (CT.cons c_kept (CT.cons c_wordDigit CT.ok0)))
  have hn : g.nt = 39 := hg
  have hm : Try.prog.follows .mixedOrders = true := by kernel_rfl
  unfold Try.f14
  dsimp only [Option.getD_some]
  unfold F_Name at h
  apply AW_seq_k
  intro K1 hK1
  have hx := True.intro
  refine rgA [0] [] ?_
  refine stA ?_
  refine enA ?_
  refine hK1 _ ?_
  apply AW_seq_k
  intro K2 hK2
  apply AW_seq_k
  intro K3 hK3
  obtain ⟨ho1, h⟩ := h
  have hx := True.intro
  refine rgV [0] [] 20 (.one (.c (.d (.bool ((((decide (a0_s = ([] : List UInt8))) || (decide (16 < (a0_s.length : Int)))) || (!(Lt.letter (((a0_s.getD 0 0).toNat : Nat) : Int)))) || (Lt.kept a0_s)))))) ?_ ?_
  · clear h
    iterate 3 refine stA ?_
    cases hb : (decide (a0_s = ([] : List UInt8)))
    · have hx := And.intro hb hx
      iterate 5 refine stA ?_
      cases hb : (decide (16 < (a0_s.length : Int)))
      · have hx := And.intro hb hx
        have ho1 := ho1 (by simp only [push_cast, hx])
        have hx := getS ho1 hx
        iterate 6 refine stA ?_
        cases hb : (Lt.letter (((a0_s.getD 0 0).toNat : Nat) : Int))
        · have hx := And.intro hb hx
          iterate 3 refine stA ?_
          exact lfA
        · have hx := And.intro hb hx
          iterate 3 refine stA ?_
          exact lfA
      · have hx := And.intro hb hx
        iterate 9 refine stA ?_
        exact lfA
    · have hx := And.intro hb hx
      iterate 14 refine stA ?_
      exact lfA
  · refine hK3 _ ?_
    refine cdA h rfl (fun h => ?_) (fun h => ?_)
    · apply AW_seq_k
      intro K4 hK4
      have hx := True.intro
      refine rgA [2] [] ?_
      refine stA ?_
      refine enA ?_
      refine hK4 _ ?_
      apply AW_ret
      exact fiA (hKK _ h)
    · apply AW_skip
      refine hK2 _ ?_
      refine AW_joinO [] [] [] (fun y : Unit => ⟨[], []⟩) (fun y => F_Name_j1 KK) ?_ ?_
      · apply AW_seq_k
        intro K6 hK6
        have hx := True.intro
        refine rgA [0, 22, 23] [] ?_
        refine stA ?_
        refine stG fun hp => ?_
        refine stA ?_
        refine enA ?_
        have h := h (by assumption)
        refine hK6 _ ?_
        apply AW_block_k
        intro Q7 hN7 hE7 hO7
        obtain ⟨n8, h⟩ := h
        refine AW_loopO [] [0, 22, 23] [] (fun y : Nat × Int => ⟨[(0, .one (.c (.d (.str a0_s)))), (22, .one (.c (.d (.int .i64 (a0_s.length : Int))))), (23, .one (.c (.d (.int .i64 y.2))))], []⟩) (fun y => F_Name_l2 a0_s KK y.1 y.2) (fun y => y.1) (n8, 0) ?_ h ?_
        · exact siA
        clear h
        rintro ⟨n8, x1⟩ h K8 hK8
        cases n8 with
        | zero => exact h.elim
        | succ n8 =>
          change F_Name_l2 a0_s KK (n8 + 1) x1 at h
          unfold F_Name_l2 at h
          apply AW_seq_k
          intro K9 hK9
          have hx := True.intro
          refine rgA [0, 22, 23, 24] [] ?_
          refine stA ?_
          refine enA ?_
          refine hK9 _ ?_
          apply AW_seq_k
          intro K10 hK10
          refine cdA h rfl (fun h => ?_) (fun h => ?_)
          · apply AW_skip
            refine hK10 _ ?_
            apply AW_seq_k
            intro K11 hK11
            apply AW_block_k
            intro Q12 hN12 hE12 hO12
            apply AW_seq_k
            intro K13 hK13
            have hx := True.intro
            refine rgA [0, 3, 22, 23] [] ?_
            iterate 2 refine stA ?_
            refine enA ?_
            refine hK13 _ ?_
            apply AW_seq_k
            intro K14 hK14
            obtain ⟨ho1, ho2, h⟩ := h
            have hx := True.intro
            have hx := getS ho1 hx
            refine rgV [0, 22, 23] [] 37 (.one (.c (.d (.bool ((!(Lt.letter (((a0_s.getD x1.toNat 0).toNat : Nat) : Int))) && (!(Lt.wordDigit (((a0_s.getD x1.toNat 0).toNat : Nat) : Int)))))))) ?_ ?_
            · clear h
              iterate 6 refine stA ?_
              cases hb : (Lt.letter (((a0_s.getD x1.toNat 0).toNat : Nat) : Int))
              · have hx := And.intro hb hx
                have ho2 := ho2 (by simp only [push_cast, hx])
                have hx := getS ho2 hx
                iterate 6 refine stA ?_
                exact lfA
              · have hx := And.intro hb hx
                iterate 6 refine stA ?_
                exact lfA
            · refine hK14 _ ?_
              refine cdA h rfl (fun h => ?_) (fun h => ?_)
              · apply AW_seq_k
                intro K15 hK15
                have hx := True.intro
                refine rgA [2] [] ?_
                refine stA ?_
                refine enA ?_
                refine hK15 _ ?_
                apply AW_ret
                refine hO12 _ _ (by simp) ?_
                refine hO7 _ _ (by simp) ?_
                exact fiA (hKK _ h)
              · apply AW_skip
                refine hN12 _ ?_
                refine hK11 _ ?_
                have hx := True.intro
                refine rgA [0, 22, 23] [] ?_
                iterate 2 refine stA ?_
                refine enA ?_
                exact hK8 _ (n8, (IntKind.i64.wrap (x1 + 1))) siA h (Nat.lt_succ_self _)
          · apply AW_exit
            refine hE7 _ ?_
            exact ⟨(), siA, h⟩
      · rintro _ h
        change F_Name_j1 KK at h
        unfold F_Name_j1 at h
        apply AW_seq_k
        intro K5 hK5
        have hx := True.intro
        refine rgA [2] [] ?_
        refine stA ?_
        refine enA ?_
        refine hK5 _ ?_
        apply AW_ret
        exact fiA (hKK _ h)

def C_Name : CK1 := pureC (fn1 cS (o1 cB) (fun _ => True) Lt.Name)
theorem c_Name : Con Try.prog 14 C_Name :=
  Con_fn1 (fn := Try.f14) (c := Try.f14.body.getD .skip) (by kernel_rfl) (by kernel_rfl) (by kernel_rfl) (by decide +kernel) (fun g a0_s K hg hp hK => walk_Name g hg a0_s K _ (fun _ h => h) (law_Name a0_s _ hK))
attribute [push_cast] C_Name

set_option maxRecDepth 100000 in
set_option maxHeartbeats 4000000 in
theorem walk_kind (g : G) (hg : g.nt = Try.f24.ntmps) (a0_s : List UInt8) (K : AV → Prop) (KK : (Bool) → Prop) (hKK : ∀ r, KK r → K (o1 cB r) ) (h : F_kind a0_s KK) :
    AW Try.prog g (Try.f24.body.getD .skip) (retQ Try.prog [.tmp 2] K) ⟨entryT 0 [.one (cS.enc a0_s)], []⟩ := by
  have hcs : CT.Ok Try.prog [(14, C_Name)] := (CT.cons c_Name CT.ok0)
  have hn : g.nt = 13 := hg
  have hm : Try.prog.follows .mixedOrders = true := by kernel_rfl
  unfold Try.f24
  dsimp only [Option.getD_some]
  unfold F_kind at h
  apply AW_seq_k
  intro K1 hK1
  have hx := True.intro
  refine rgA [0] [] ?_
  refine stA ?_
  refine enA ?_
  refine hK1 _ ?_
  apply AW_seq_k
  intro K2 hK2
  have hx := True.intro
  refine rgV [] [] 2 (.one (.c (.d (.bool (((decide (a0_s = [105, 110, 116])) || (decide (a0_s = [102, 108, 111, 97, 116]))) || (Lt.Name a0_s)))))) ?_ ?_
  · clear h
    iterate 3 refine stA ?_
    cases hb : (decide (a0_s = [105, 110, 116]))
    · have hx := And.intro hb hx
      iterate 4 refine stA ?_
      cases hb : (decide (a0_s = [102, 108, 111, 97, 116]))
      · have hx := And.intro hb hx
        iterate 4 refine stA ?_
        exact lfA
      · have hx := And.intro hb hx
        iterate 4 refine stA ?_
        exact lfA
    · have hx := And.intro hb hx
      iterate 8 refine stA ?_
      exact lfA
  · refine hK2 _ ?_
    apply AW_ret
    exact fiA (hKK _ h)

def C_kind : CK1 := pureC (fn1 cS (o1 cB) (fun _ => True) Lt.kind)
theorem c_kind : Con Try.prog 24 C_kind :=
  Con_fn1 (fn := Try.f24) (c := Try.f24.body.getD .skip) (by kernel_rfl) (by kernel_rfl) (by kernel_rfl) (by decide +kernel) (fun g a0_s K hg hp hK => walk_kind g hg a0_s K _ (fun _ h => h) (law_kind a0_s _ hK))
attribute [push_cast] C_kind

set_option maxRecDepth 100000 in
set_option maxHeartbeats 4000000 in
theorem walk_typed (g : G) (hg : g.nt = Try.f13.ntmps) (a0_l : List Lt.Var) (a1_most : Int) (K : AV → Prop) (KK : (Bool) → Prop) (hKK : ∀ r, KK r → K (o1 cB r) ) (h : F_typed a0_l a1_most KK) :
    AW Try.prog g (Try.f13.body.getD .skip) (retQ Try.prog [.tmp 4] K) ⟨entryT 0 [.one ((cL Lt.Var.rw).enc a0_l), .one ((cI .i64).enc a1_most)], []⟩ := by
  have hcs : CT.Ok Try.prog [(14, C_Name), (24, C_kind)] := (CT.cons c_Name (CT.cons c_kind CT.ok0))
  have hn : g.nt = 28 := hg
  have hm : Try.prog.follows .mixedOrders = true := by kernel_rfl
  unfold Try.f13
  dsimp only [Option.getD_some]
  unfold F_typed at h
  apply AW_seq_k
  intro K1 hK1
  have hx := True.intro
  refine rgA [0, 1] [] ?_
  refine stA ?_
  refine enA ?_
  refine hK1 _ ?_
  apply AW_seq_k
  intro K2 hK2
  apply AW_seq_k
  intro K3 hK3
  have hx := True.intro
  refine rgA [0, 10] [] ?_
  refine stA ?_
  refine stG fun hp => ?_
  iterate 2 refine stA ?_
  refine enA ?_
  have h := h (by assumption)
  refine hK3 _ ?_
  refine cdA h rfl (fun h => ?_) (fun h => ?_)
  · apply AW_seq_k
    intro K4 hK4
    have hx := True.intro
    refine rgA [4] [] ?_
    refine stA ?_
    refine enA ?_
    refine hK4 _ ?_
    apply AW_ret
    exact fiA (hKK _ h)
  · apply AW_skip
    refine hK2 _ ?_
    refine AW_joinO [] [] [] (fun y : Unit => ⟨[], []⟩) (fun y => F_typed_j1 KK) ?_ ?_
    · apply AW_seq_k
      intro K6 hK6
      have hx := True.intro
      refine rgA [11, 12, 13] [] ?_
      refine stA ?_
      refine stG fun hp => ?_
      refine stA ?_
      refine enA ?_
      have h := h (by assumption)
      refine hK6 _ ?_
      apply AW_block_k
      intro Q7 hN7 hE7 hO7
      obtain ⟨n8, h⟩ := h
      refine AW_loopO [] [11, 12, 13] [] (fun y : Nat × Int => ⟨[(11, .one (.c (.d (.li (a0_l.map Lt.Var.enc))))), (12, .one (.c (.d (.int .i64 (a0_l.length : Int))))), (13, .one (.c (.d (.int .i64 y.2))))], []⟩) (fun y => F_typed_l2 a0_l KK y.1 y.2) (fun y => y.1) (n8, 0) ?_ h ?_
      · exact siA
      clear h
      rintro ⟨n8, x1⟩ h K8 hK8
      cases n8 with
      | zero => exact h.elim
      | succ n8 =>
        change F_typed_l2 a0_l KK (n8 + 1) x1 at h
        unfold F_typed_l2 at h
        apply AW_seq_k
        intro K9 hK9
        have hx := True.intro
        refine rgA [11, 12, 13, 14] [] ?_
        refine stA ?_
        refine enA ?_
        refine hK9 _ ?_
        apply AW_seq_k
        intro K10 hK10
        refine cdA h rfl (fun h => ?_) (fun h => ?_)
        · apply AW_skip
          refine hK10 _ ?_
          apply AW_seq_k
          intro K11 hK11
          apply AW_block_k
          intro Q12 hN12 hE12 hO12
          apply AW_seq_k
          intro K13 hK13
          obtain ⟨ho1, h⟩ := h
          have hx := True.intro
          have hx := getA Lt.Var.enc ho1 hx
          refine rgA [6, 11, 12, 13] [] ?_
          iterate 4 refine stA ?_
          refine enA ?_
          refine hK13 _ ?_
          apply AW_seq_k
          intro K14 hK14
          have hx := True.intro
          refine rgV [11, 12, 13] [.loc 6] 26 (.one (.c (.d (.bool ((!(Lt.Name ((a0_l.getD x1.toNat default).Name))) || (!(Lt.kind ((a0_l.getD x1.toNat default).Type_)))))))) ?_ ?_
          · clear h
            iterate 5 refine stA ?_
            cases hb : (Lt.Name ((a0_l.getD x1.toNat default).Name))
            · have hx := And.intro hb hx
              iterate 5 refine stA ?_
              exact lfA
            · have hx := And.intro hb hx
              iterate 5 refine stA ?_
              exact lfA
          · refine hK14 _ ?_
            refine cdA h rfl (fun h => ?_) (fun h => ?_)
            · apply AW_seq_k
              intro K15 hK15
              have hx := True.intro
              refine rgA [4] [] ?_
              refine stA ?_
              refine enA ?_
              refine hK15 _ ?_
              apply AW_ret
              refine hO12 _ _ (by simp) ?_
              refine hO7 _ _ (by simp) ?_
              exact fiA (hKK _ h)
            · apply AW_skip
              refine hN12 _ ?_
              refine hK11 _ ?_
              have hx := True.intro
              refine rgA [11, 12, 13] [] ?_
              iterate 2 refine stA ?_
              refine enA ?_
              exact hK8 _ (n8, (IntKind.i64.wrap (x1 + 1))) siA h (Nat.lt_succ_self _)
        · apply AW_exit
          refine hE7 _ ?_
          exact ⟨(), siA, h⟩
    · rintro _ h
      change F_typed_j1 KK at h
      unfold F_typed_j1 at h
      apply AW_seq_k
      intro K5 hK5
      have hx := True.intro
      refine rgA [4] [] ?_
      refine stA ?_
      refine enA ?_
      refine hK5 _ ?_
      apply AW_ret
      exact fiA (hKK _ h)

def C_typed : CK1 := pureC (fn2 (cL Lt.Var.rw) (cI .i64) (o1 cB) (fun _ _ => True) Lt.typed)
theorem c_typed : Con Try.prog 13 C_typed :=
  Con_fn2 (fn := Try.f13) (c := Try.f13.body.getD .skip) (by kernel_rfl) (by kernel_rfl) (by kernel_rfl) (by decide +kernel) (fun g a0_l a1_most K hg hp hK => walk_typed g hg a0_l a1_most K _ (fun _ h => h) (law_typed a0_l a1_most _ hK))
attribute [push_cast] C_typed

set_option maxRecDepth 100000 in
set_option maxHeartbeats 4000000 in
theorem walk_Plain (g : G) (hg : g.nt = Try.f51.ntmps) (a0_n : Int) (K : AV → Prop) (KK : (Int) → Prop) (hKK : ∀ r, KK r → K (o1 (cI .i64) r) ) (h : F_Plain a0_n KK) :
    AW Try.prog g (Try.f51.body.getD .skip) (retQ Try.prog [.tmp 2] K) ⟨entryT 0 [.one ((cI .i64).enc a0_n)], []⟩ := by
  have hcs : CT.Ok Try.prog [] := CT.ok0
  have hn : g.nt = 12 := hg
  have hm : Try.prog.follows .mixedOrders = true := by kernel_rfl
  unfold Try.f51
  dsimp only [Option.getD_some]
  unfold F_Plain at h
  apply AW_seq_k
  intro K1 hK1
  have hx := True.intro
  refine rgA [0] [] ?_
  refine stA ?_
  refine enA ?_
  refine hK1 _ ?_
  apply AW_seq_k
  intro K2 hK2
  apply AW_seq_k
  intro K3 hK3
  have hx := True.intro
  refine rgV [0] [] 10 (.one (.c (.d (.bool ((decide ((IntKind.i64.wrap ((BitVec.ofInt IntKind.i64.bits a0_n &&& BitVec.ofInt IntKind.i64.bits 9218868437227405312).toNat : Nat)) = 9218868437227405312)) && (!decide ((IntKind.i64.wrap ((BitVec.ofInt IntKind.i64.bits a0_n &&& BitVec.ofInt IntKind.i64.bits 4503599627370495).toNat : Nat)) = 0))))))) ?_ ?_
  · clear h
    iterate 4 refine stA ?_
    cases hb : (decide ((IntKind.i64.wrap ((BitVec.ofInt IntKind.i64.bits a0_n &&& BitVec.ofInt IntKind.i64.bits 9218868437227405312).toNat : Nat)) = 9218868437227405312))
    · have hx := And.intro hb hx
      iterate 4 refine stA ?_
      exact lfA
    · have hx := And.intro hb hx
      iterate 4 refine stA ?_
      exact lfA
  · refine hK3 _ ?_
    refine cdA h rfl (fun h => ?_) (fun h => ?_)
    · apply AW_seq_k
      intro K4 hK4
      have hx := True.intro
      refine rgA [2] [] ?_
      refine stA ?_
      refine enA ?_
      refine hK4 _ ?_
      apply AW_ret
      exact fiA (hKK _ h)
    · apply AW_skip
      refine hK2 _ ?_
      apply AW_seq_k
      intro K5 hK5
      have hx := True.intro
      refine rgA [2] [] ?_
      iterate 2 refine stA ?_
      refine enA ?_
      refine hK5 _ ?_
      apply AW_ret
      exact fiA (hKK _ h)

def C_Plain : CK1 := pureC (fn1 (cI .i64) (o1 (cI .i64)) (fun _ => True) Lt.Plain)
theorem c_Plain : Con Try.prog 51 C_Plain :=
  Con_fn1 (fn := Try.f51) (c := Try.f51.body.getD .skip) (by kernel_rfl) (by kernel_rfl) (by kernel_rfl) (by decide +kernel) (fun g a0_n K hg hp hK => walk_Plain g hg a0_n K _ (fun _ h => h) (law_Plain a0_n _ hK))
attribute [push_cast] C_Plain

set_option maxRecDepth 100000 in
set_option maxHeartbeats 4000000 in
theorem walk_wordRight (g : G) (hg : g.nt = Try.f42.ntmps) (a0_a : Lt.Arg) (K : AV → Prop) (KK : (Bool) → Prop) (hKK : ∀ r, KK r → K (o1 cB r) ) (h : F_wordRight a0_a KK) :
    AW Try.prog g (Try.f42.body.getD .skip) (retQ Try.prog [.tmp 2] K) ⟨entryT 0 [.one ((cA Lt.Arg.rw).enc a0_a)], []⟩ := by
  have hcs : CT.Ok Try.prog [(14, C_Name), (51, C_Plain)] := (CT.cons c_Name (CT.cons c_Plain CT.ok0))
  have hn : g.nt = 58 := hg
  have hm : Try.prog.follows .mixedOrders = true := by kernel_rfl
  unfold Try.f42
  dsimp only [Option.getD_some]
  unfold F_wordRight at h
  apply AW_seq_k
  intro K1 hK1
  have hx := True.intro
  refine rgA [1] [] ?_
  iterate 2 refine stA ?_
  refine enA ?_
  refine hK1 _ ?_
  apply AW_seq_k
  intro K2 hK2
  apply AW_seq_k
  intro K3 hK3
  have hx := True.intro
  refine rgA [1, 4] [] ?_
  iterate 2 refine stA ?_
  refine enA ?_
  refine hK3 _ ?_
  apply AW_block_k
  intro Q4 hN4 hE4 hO4
  apply AW_seq_k
  intro K5 hK5
  have hx := True.intro
  refine rgA [1, 4, 5] [] ?_
  iterate 2 refine stA ?_
  refine enA ?_
  refine hK5 _ ?_
  refine cdA h rfl (fun h => ?_) (fun h => ?_)
  · apply AW_seq_k
    intro K6 hK6
    have hx := True.intro
    refine rgV [] [.loc 1] 2 (.one (.c (.d (.bool ((Lt.Name a0_a.S) && (decide (a0_a.N = 0))))))) ?_ ?_
    · clear h
      iterate 4 refine stA ?_
      cases hb : (Lt.Name a0_a.S)
      · have hx := And.intro hb hx
        iterate 5 refine stA ?_
        exact lfA
      · have hx := And.intro hb hx
        iterate 5 refine stA ?_
        exact lfA
    · refine hK6 _ ?_
      apply AW_ret
      refine hO4 _ _ (by simp) ?_
      exact fiA (hKK _ h)
  · apply AW_seq_k
    intro K7 hK7
    have hx := True.intro
    refine rgA [1, 4, 15] [] ?_
    iterate 2 refine stA ?_
    refine enA ?_
    refine hK7 _ ?_
    refine cdA h rfl (fun h => ?_) (fun h => ?_)
    · apply AW_seq_k
      intro K8 hK8
      have hx := True.intro
      refine rgA [2] [.loc 1] ?_
      iterate 4 refine stA ?_
      refine enA ?_
      refine hK8 _ ?_
      apply AW_ret
      refine hO4 _ _ (by simp) ?_
      exact fiA (hKK _ h)
    · apply AW_seq_k
      intro K9 hK9
      have hx := True.intro
      refine rgA [1, 4, 20] [] ?_
      iterate 2 refine stA ?_
      refine enA ?_
      refine hK9 _ ?_
      refine cdA h rfl (fun h => ?_) (fun h => ?_)
      · apply AW_seq_k
        intro K10 hK10
        have hx := True.intro
        refine dgV [] [.loc 1] 2 (.one (.c (.d (.bool ((decide (a0_a.S = ([] : List UInt8))) && (decide ((Lt.Plain a0_a.N) = a0_a.N))))))) (.take 0 [] true (.take 1 [2, 3, 4, 5, 6, 7, 8, 9, 10, 11] false (.take 2 [] true (.take 3 [] true (.take 4 [] true (.take 5 [6, 9, 10, 11] false (.take 7 [] true (.two 6 (.take 8 [9, 10, 11] false (.take 9 [] true (.take 10 [] true (.take 11 [] true (.done))))) 8 (.one 6 (.take 9 [] true (.take 10 [] true (.take 11 [] true (.done))))))))))))) ?_ ?_
        · clear h
          cases hb : (decide (a0_a.S = ([] : List UInt8)))
          · have hx := And.intro hb hx
            iterate 7 refine dtA ?_
            refine d2A ?_ ?_
            · iterate 4 refine dtA ?_
              exact dlA
            · refine doA ?_
              iterate 3 refine dtA ?_
              exact dlA
          · have hx := And.intro hb hx
            iterate 7 refine dtA ?_
            refine d2A ?_ ?_
            · iterate 4 refine dtA ?_
              exact dlA
            · refine doA ?_
              iterate 3 refine dtA ?_
              exact dlA
        · refine hK10 _ ?_
          apply AW_ret
          refine hO4 _ _ (by simp) ?_
          exact fiA (hKK _ h)
      · apply AW_seq_k
        intro K11 hK11
        have hx := True.intro
        refine rgA [1, 4, 33] [] ?_
        iterate 2 refine stA ?_
        refine enA ?_
        refine hK11 _ ?_
        refine cdA h rfl (fun h => ?_) (fun h => ?_)
        · apply AW_seq_k
          intro K12 hK12
          have hx := True.intro
          refine rgV [] [.loc 1] 2 (.one (.c (.d (.bool ((decide (a0_a.S = ([] : List UInt8))) && (decide (a0_a.N = 0))))))) ?_ ?_
          · clear h
            iterate 4 refine stA ?_
            cases hb : (decide (a0_a.S = ([] : List UInt8)))
            · have hx := And.intro hb hx
              iterate 5 refine stA ?_
              exact lfA
            · have hx := And.intro hb hx
              iterate 5 refine stA ?_
              exact lfA
          · refine hK12 _ ?_
            apply AW_ret
            refine hO4 _ _ (by simp) ?_
            exact fiA (hKK _ h)
        · apply AW_seq_k
          intro K13 hK13
          have hx := True.intro
          refine rgA [1, 43] [] ?_
          iterate 2 refine stA ?_
          refine enA ?_
          refine hK13 _ ?_
          refine cdA h rfl (fun h => ?_) (fun h => ?_)
          · apply AW_seq_k
            intro K14 hK14
            have hx := True.intro
            refine rgV [] [.loc 1] 2 (.one (.c (.d (.bool (((decide (a0_a.S = ([] : List UInt8))) && (decide (0 ≤ a0_a.N))) && (decide (a0_a.N ≤ 999))))))) ?_ ?_
            · clear h
              iterate 4 refine stA ?_
              cases hb : (decide (a0_a.S = ([] : List UInt8)))
              · have hx := And.intro hb hx
                iterate 10 refine stA ?_
                exact lfA
              · have hx := And.intro hb hx
                iterate 5 refine stA ?_
                cases hb : (decide (0 ≤ a0_a.N))
                · have hx := And.intro hb hx
                  iterate 5 refine stA ?_
                  exact lfA
                · have hx := And.intro hb hx
                  iterate 5 refine stA ?_
                  exact lfA
            · refine hK14 _ ?_
              apply AW_ret
              refine hO4 _ _ (by simp) ?_
              exact fiA (hKK _ h)
          · apply AW_skip
            refine hN4 _ ?_
            refine hK2 _ ?_
            apply AW_seq_k
            intro K15 hK15
            have hx := True.intro
            refine rgA [2] [.loc 1] ?_
            refine stA ?_
            refine enA ?_
            refine hK15 _ ?_
            apply AW_ret
            exact fiA (hKK _ h)

def C_wordRight : CK1 := pureC (fn1 (cA Lt.Arg.rw) (o1 cB) (fun _ => True) Lt.wordRight)
theorem c_wordRight : Con Try.prog 42 C_wordRight :=
  Con_fn1 (fn := Try.f42) (c := Try.f42.body.getD .skip) (by kernel_rfl) (by kernel_rfl) (by kernel_rfl) (by decide +kernel) (fun g a0_a K hg hp hK => walk_wordRight g hg a0_a K _ (fun _ h => h) (law_wordRight a0_a _ hK))
attribute [push_cast] C_wordRight

set_option maxRecDepth 100000 in
set_option maxHeartbeats 4000000 in
theorem walk_showArgs (g : G) (hg : g.nt = Try.f49.ntmps) (a0_l : List Lt.Arg) (a1_objs : Bool) (K : AV → Prop) (KK : (Bool) → Prop) (hKK : ∀ r, KK r → K (o1 cB r) ) (h : F_showArgs a0_l a1_objs KK) :
    AW Try.prog g (Try.f49.body.getD .skip) (retQ Try.prog [.tmp 4] K) ⟨entryT 0 [.one ((cL Lt.Arg.rw).enc a0_l), .one (cB.enc a1_objs)], []⟩ := by
  have hcs : CT.Ok Try.prog [(42, C_wordRight)] := (CT.cons c_wordRight CT.ok0)
  have hn : g.nt = 26 := hg
  have hm : Try.prog.follows .mixedOrders = true := by kernel_rfl
  unfold Try.f49
  dsimp only [Option.getD_some]
  unfold F_showArgs at h
  apply AW_seq_k
  intro K1 hK1
  have hx := True.intro
  refine rgA [0, 1] [] ?_
  refine stA ?_
  refine enA ?_
  refine hK1 _ ?_
  refine AW_joinO [] [] [] (fun y : Unit => ⟨[], []⟩) (fun y => F_showArgs_j1 KK) ?_ ?_
  · apply AW_seq_k
    intro K3 hK3
    have hx := True.intro
    refine rgA [1, 7, 8, 9] [] ?_
    refine stA ?_
    refine stG fun hp => ?_
    refine stA ?_
    refine enA ?_
    have h := h (by assumption)
    refine hK3 _ ?_
    apply AW_block_k
    intro Q4 hN4 hE4 hO4
    obtain ⟨n5, h⟩ := h
    refine AW_loopO [] [1, 7, 8, 9] [] (fun y : Nat × Int => ⟨[(1, .one (.c (.d (.bool a1_objs)))), (7, .one (.c (.d (.li (a0_l.map Lt.Arg.enc))))), (8, .one (.c (.d (.int .i64 (a0_l.length : Int))))), (9, .one (.c (.d (.int .i64 y.2))))], []⟩) (fun y => F_showArgs_l2 a0_l a1_objs KK y.1 y.2) (fun y => y.1) (n5, 0) ?_ h ?_
    · exact siA
    clear h
    rintro ⟨n5, x1⟩ h K5 hK5
    cases n5 with
    | zero => exact h.elim
    | succ n5 =>
      change F_showArgs_l2 a0_l a1_objs KK (n5 + 1) x1 at h
      unfold F_showArgs_l2 at h
      apply AW_seq_k
      intro K6 hK6
      have hx := True.intro
      refine rgA [1, 7, 8, 9, 10] [] ?_
      refine stA ?_
      refine enA ?_
      refine hK6 _ ?_
      apply AW_seq_k
      intro K7 hK7
      refine cdA h rfl (fun h => ?_) (fun h => ?_)
      · apply AW_skip
        refine hK7 _ ?_
        apply AW_seq_k
        intro K8 hK8
        apply AW_block_k
        intro Q9 hN9 hE9 hO9
        apply AW_seq_k
        intro K10 hK10
        obtain ⟨ho1, h⟩ := h
        have hx := True.intro
        have hx := getA Lt.Arg.enc ho1 hx
        refine rgA [1, 6, 7, 8, 9] [] ?_
        iterate 4 refine stA ?_
        refine enA ?_
        refine hK10 _ ?_
        apply AW_seq_k
        intro K11 hK11
        have hx := True.intro
        refine rgV [1, 7, 8, 9] [.loc 6] 24 (.one (.c (.d (.bool ((!(Lt.wordRight (a0_l.getD x1.toNat default))) || ((decide ((a0_l.getD x1.toNat default).Kind = 5)) && (!a1_objs))))))) ?_ ?_
        · clear h
          iterate 4 refine stA ?_
          cases hb : (Lt.wordRight (a0_l.getD x1.toNat default))
          · have hx := And.intro hb hx
            iterate 8 refine stA ?_
            exact lfA
          · have hx := And.intro hb hx
            iterate 4 refine stA ?_
            cases hb : (decide ((a0_l.getD x1.toNat default).Kind = 5))
            · have hx := And.intro hb hx
              iterate 4 refine stA ?_
              exact lfA
            · have hx := And.intro hb hx
              iterate 4 refine stA ?_
              exact lfA
        · refine hK11 _ ?_
          refine cdA h rfl (fun h => ?_) (fun h => ?_)
          · apply AW_seq_k
            intro K12 hK12
            have hx := True.intro
            refine rgA [4] [] ?_
            refine stA ?_
            refine enA ?_
            refine hK12 _ ?_
            apply AW_ret
            refine hO9 _ _ (by simp) ?_
            refine hO4 _ _ (by simp) ?_
            exact fiA (hKK _ h)
          · apply AW_skip
            refine hN9 _ ?_
            refine hK8 _ ?_
            have hx := True.intro
            refine rgA [1, 7, 8, 9] [] ?_
            iterate 2 refine stA ?_
            refine enA ?_
            exact hK5 _ (n5, (IntKind.i64.wrap (x1 + 1))) siA h (Nat.lt_succ_self _)
      · apply AW_exit
        refine hE4 _ ?_
        exact ⟨(), siA, h⟩
  · rintro _ h
    change F_showArgs_j1 KK at h
    unfold F_showArgs_j1 at h
    apply AW_seq_k
    intro K2 hK2
    have hx := True.intro
    refine rgA [4] [] ?_
    refine stA ?_
    refine enA ?_
    refine hK2 _ ?_
    apply AW_ret
    exact fiA (hKK _ h)

def C_showArgs : CK1 := pureC (fn2 (cL Lt.Arg.rw) cB (o1 cB) (fun _ _ => True) Lt.showArgs)
theorem c_showArgs : Con Try.prog 49 C_showArgs :=
  Con_fn2 (fn := Try.f49) (c := Try.f49.body.getD .skip) (by kernel_rfl) (by kernel_rfl) (by kernel_rfl) (by decide +kernel) (fun g a0_l a1_objs K hg hp hK => walk_showArgs g hg a0_l a1_objs K _ (fun _ h => h) (law_showArgs a0_l a1_objs _ hK))
attribute [push_cast] C_showArgs

set_option maxRecDepth 100000 in
set_option maxHeartbeats 4000000 in
theorem walk_showEnd (g : G) (hg : g.nt = Try.f38.ntmps) (a0_t : Lt.Term) (K : AV → Prop) (KK : (Bool) → Prop) (hKK : ∀ r, KK r → K (o1 cB r) ) (h : F_showEnd a0_t KK) :
    AW Try.prog g (Try.f38.body.getD .skip) (retQ Try.prog [.tmp 2] K) ⟨entryT 0 [.one ((cA Lt.Term.rw).enc a0_t)], []⟩ := by
  have hcs : CT.Ok Try.prog [(14, C_Name), (49, C_showArgs)] := (CT.cons c_Name (CT.cons c_showArgs CT.ok0))
  have hn : g.nt = 79 := hg
  have hm : Try.prog.follows .mixedOrders = true := by kernel_rfl
  unfold Try.f38
  dsimp only [Option.getD_some]
  unfold F_showEnd at h
  apply AW_seq_k
  intro K1 hK1
  have hx := True.intro
  refine rgA [1] [] ?_
  iterate 2 refine stA ?_
  refine enA ?_
  refine hK1 _ ?_
  refine AW_joinO [] [1] [] (fun y : Unit => ⟨[(1, .one (.c (.pl ⟨.loc 1, 0, []⟩)))], [(.loc 1, ⟨true, [.d (.int .i64 a0_t.Kind), .d (.int .i64 a0_t.A.Kind), .d (.str a0_t.A.S), .d (.int .i64 a0_t.A.N), .d (.li (a0_t.To.map rS.enc)), .d (.int .i64 a0_t.N)]⟩)]⟩) (fun y => F_showEnd_j1 a0_t KK) ?_ ?_
  · apply AW_seq_k
    intro K16 hK16
    have hx := True.intro
    refine rgA [1, 8, 9, 10] [] ?_
    iterate 2 refine stA ?_
    refine stG fun hp => ?_
    refine stA ?_
    refine enA ?_
    have h := h (by assumption)
    refine hK16 _ ?_
    apply AW_block_k
    intro Q17 hN17 hE17 hO17
    obtain ⟨n18, h⟩ := h
    refine AW_loopO [] [1, 8, 9, 10] [] (fun y : Nat × Int => ⟨[(1, .one (.c (.pl ⟨.loc 1, 0, []⟩))), (8, .one (.c (.d (.li (a0_t.To.map rS.enc))))), (9, .one (.c (.d (.int .i64 (a0_t.To.length : Int))))), (10, .one (.c (.d (.int .i64 y.2))))], [(.loc 1, ⟨true, [.d (.int .i64 a0_t.Kind), .d (.int .i64 a0_t.A.Kind), .d (.str a0_t.A.S), .d (.int .i64 a0_t.A.N), .d (.li (a0_t.To.map rS.enc)), .d (.int .i64 a0_t.N)]⟩)]⟩) (fun y => F_showEnd_l2 a0_t KK y.1 y.2) (fun y => y.1) (n18, 0) ?_ h ?_
    · exact siA
    clear h
    rintro ⟨n18, x1⟩ h K18 hK18
    cases n18 with
    | zero => exact h.elim
    | succ n18 =>
      change F_showEnd_l2 a0_t KK (n18 + 1) x1 at h
      unfold F_showEnd_l2 at h
      apply AW_seq_k
      intro K19 hK19
      have hx := True.intro
      refine rgA [1, 8, 9, 10, 11] [] ?_
      refine stA ?_
      refine enA ?_
      refine hK19 _ ?_
      apply AW_seq_k
      intro K20 hK20
      refine cdA h rfl (fun h => ?_) (fun h => ?_)
      · apply AW_skip
        refine hK20 _ ?_
        apply AW_seq_k
        intro K21 hK21
        apply AW_block_k
        intro Q22 hN22 hE22 hO22
        apply AW_seq_k
        intro K23 hK23
        obtain ⟨ho1, h⟩ := h
        have hx := True.intro
        have hx := getA rS.enc ho1 hx
        refine rgA [1, 4, 8, 9, 10] [] ?_
        iterate 3 refine stA ?_
        refine enA ?_
        refine hK23 _ ?_
        apply AW_seq_k
        intro K24 hK24
        have hx := True.intro
        refine rgA [1, 8, 9, 10, 16] [] ?_
        iterate 3 refine stA ?_
        refine enA ?_
        refine hK24 _ ?_
        refine cdA h rfl (fun h => ?_) (fun h => ?_)
        · apply AW_seq_k
          intro K25 hK25
          have hx := True.intro
          refine rgA [2] [.loc 1] ?_
          refine stA ?_
          refine enA ?_
          refine hK25 _ ?_
          apply AW_ret
          refine hO22 _ _ (by simp) ?_
          refine hO17 _ _ (by simp) ?_
          exact fiA (hKK _ h)
        · apply AW_skip
          refine hN22 _ ?_
          refine hK21 _ ?_
          have hx := True.intro
          refine rgA [1, 8, 9, 10] [] ?_
          iterate 2 refine stA ?_
          refine enA ?_
          exact hK18 _ (n18, (IntKind.i64.wrap (x1 + 1))) siA h (Nat.lt_succ_self _)
      · apply AW_exit
        refine hE17 _ ?_
        exact ⟨(), siA, h⟩
  · rintro _ h
    change F_showEnd_j1 a0_t KK at h
    unfold F_showEnd_j1 at h
    apply AW_seq_k
    intro K2 hK2
    have hx := True.intro
    refine rgA [1, 5] [.gh 20] ?_
    iterate 5 refine stA ?_
    refine enA ?_
    refine hK2 _ ?_
    apply AW_seq_k
    intro K3 hK3
    have hx := True.intro
    refine rgA [1, 5, 6] [] ?_
    iterate 5 refine stA ?_
    refine enA ?_
    refine hK3 _ ?_
    apply AW_seq_k
    intro K4 hK4
    apply AW_seq_k
    intro K5 hK5
    have hx := True.intro
    refine rgA [1, 5, 6, 27] [] ?_
    iterate 2 refine stA ?_
    refine enA ?_
    refine hK5 _ ?_
    apply AW_block_k
    intro Q6 hN6 hE6 hO6
    apply AW_seq_k
    intro K7 hK7
    have hx := True.intro
    refine rgA [1, 5, 6, 27, 28] [] ?_
    iterate 2 refine stA ?_
    refine enA ?_
    refine hK7 _ ?_
    refine cdA h rfl (fun h => ?_) (fun h => ?_)
    · apply AW_seq_k
      intro K8 hK8
      have hx := True.intro
      refine rgV [] [.loc 1] 2 (.one (.c (.d (.bool (((decide (a0_t.A.Kind = 0) && (decide (a0_t.A.S = ([] : List UInt8)) && decide (a0_t.A.N = 0))) && (decide ((a0_t.To.length : Int) = 1))) && (decide (a0_t.N = 0))))))) ?_ ?_
      · clear h
        iterate 2 refine stA ?_
        cases hb : (decide (a0_t.A.Kind = 0))
        · have hx := And.intro hb hx
          iterate 11 refine stA ?_
          exact lfA
        · have hx := And.intro hb hx
          cases hb : (decide (a0_t.A.S = ([] : List UInt8)))
          · have hx := And.intro hb hx
            iterate 11 refine stA ?_
            exact lfA
          · have hx := And.intro hb hx
            cases hb : (decide (a0_t.A.N = 0))
            · have hx := And.intro hb hx
              iterate 11 refine stA ?_
              exact lfA
            · have hx := And.intro hb hx
              iterate 6 refine stA ?_
              cases hb : (decide ((a0_t.To.length : Int) = 1))
              · have hx := And.intro hb hx
                iterate 5 refine stA ?_
                exact lfA
              · have hx := And.intro hb hx
                iterate 5 refine stA ?_
                exact lfA
      · refine hK8 _ ?_
        apply AW_ret
        refine hO6 _ _ (by simp) ?_
        exact fiA (hKK _ h)
    · apply AW_seq_k
      intro K9 hK9
      have hx := True.intro
      refine rgA [1, 5, 6, 27, 42] [] ?_
      iterate 2 refine stA ?_
      refine enA ?_
      refine hK9 _ ?_
      refine cdA h rfl (fun h => ?_) (fun h => ?_)
      · apply AW_seq_k
        intro K10 hK10
        have hx := True.intro
        refine rgV [] [.loc 1] 2 (.one (.c (.d (.bool (((Lt.showArgs [a0_t.A] false) && (decide ((a0_t.To.length : Int) = 2))) && (decide (a0_t.N = 0))))))) ?_ ?_
        · clear h
          iterate 2 refine stA ?_
          cases hb : (Lt.showArgs [a0_t.A] false)
          · have hx := And.intro hb hx
            iterate 11 refine stA ?_
            exact lfA
          · have hx := And.intro hb hx
            iterate 6 refine stA ?_
            cases hb : (decide ((a0_t.To.length : Int) = 2))
            · have hx := And.intro hb hx
              iterate 5 refine stA ?_
              exact lfA
            · have hx := And.intro hb hx
              iterate 5 refine stA ?_
              exact lfA
        · refine hK10 _ ?_
          apply AW_ret
          refine hO6 _ _ (by simp) ?_
          exact fiA (hKK _ h)
      · apply AW_seq_k
        intro K11 hK11
        have hx := True.intro
        refine rgA [1, 5, 6, 27, 56] [] ?_
        iterate 2 refine stA ?_
        refine enA ?_
        refine hK11 _ ?_
        refine cdA h rfl (fun h => ?_) (fun h => ?_)
        · apply AW_seq_k
          intro K12 hK12
          have hx := True.intro
          refine rgV [] [.loc 1] 2 (.one (.c (.d (.bool (((Lt.showArgs [a0_t.A] false) && (decide ((a0_t.To.length : Int) = 0))) && (decide (a0_t.N = 0))))))) ?_ ?_
          · clear h
            iterate 2 refine stA ?_
            cases hb : (Lt.showArgs [a0_t.A] false)
            · have hx := And.intro hb hx
              iterate 11 refine stA ?_
              exact lfA
            · have hx := And.intro hb hx
              iterate 6 refine stA ?_
              cases hb : (decide ((a0_t.To.length : Int) = 0))
              · have hx := And.intro hb hx
                iterate 5 refine stA ?_
                exact lfA
              · have hx := And.intro hb hx
                iterate 5 refine stA ?_
                exact lfA
          · refine hK12 _ ?_
            apply AW_ret
            refine hO6 _ _ (by simp) ?_
            exact fiA (hKK _ h)
        · apply AW_seq_k
          intro K13 hK13
          have hx := True.intro
          refine rgA [1, 6, 70] [] ?_
          iterate 2 refine stA ?_
          refine enA ?_
          refine hK13 _ ?_
          refine cdA h rfl (fun h => ?_) (fun h => ?_)
          · apply AW_seq_k
            intro K14 hK14
            have hx := True.intro
            refine rgV [] [.loc 1] 2 (.one (.c (.d (.bool ((decide (a0_t.A.Kind = 0) && (decide (a0_t.A.S = ([] : List UInt8)) && decide (a0_t.A.N = 0))) && (decide ((a0_t.To.length : Int) = 0))))))) ?_ ?_
            · clear h
              iterate 2 refine stA ?_
              cases hb : (decide (a0_t.A.Kind = 0))
              · have hx := And.intro hb hx
                iterate 6 refine stA ?_
                exact lfA
              · have hx := And.intro hb hx
                cases hb : (decide (a0_t.A.S = ([] : List UInt8)))
                · have hx := And.intro hb hx
                  iterate 6 refine stA ?_
                  exact lfA
                · have hx := And.intro hb hx
                  cases hb : (decide (a0_t.A.N = 0))
                  · have hx := And.intro hb hx
                    iterate 6 refine stA ?_
                    exact lfA
                  · have hx := And.intro hb hx
                    iterate 6 refine stA ?_
                    exact lfA
            · refine hK14 _ ?_
              apply AW_ret
              refine hO6 _ _ (by simp) ?_
              exact fiA (hKK _ h)
          · apply AW_skip
            refine hN6 _ ?_
            refine hK4 _ ?_
            apply AW_seq_k
            intro K15 hK15
            have hx := True.intro
            refine rgA [2] [.loc 1] ?_
            refine stA ?_
            refine enA ?_
            refine hK15 _ ?_
            apply AW_ret
            exact fiA (hKK _ h)

def C_showEnd : CK1 := pureC (fn1 (cA Lt.Term.rw) (o1 cB) (fun _ => True) Lt.showEnd)
theorem c_showEnd : Con Try.prog 38 C_showEnd :=
  Con_fn1 (fn := Try.f38) (c := Try.f38.body.getD .skip) (by kernel_rfl) (by kernel_rfl) (by kernel_rfl) (by decide +kernel) (fun g a0_t K hg hp hK => walk_showEnd g hg a0_t K _ (fun _ h => h) (law_showEnd a0_t _ hK))
attribute [push_cast] C_showEnd

set_option maxRecDepth 100000 in
set_option maxHeartbeats 4000000 in
theorem walk_phi (g : G) (hg : g.nt = Try.f39.ntmps) (a0_x : Lt.Phi) (K : AV → Prop) (KK : (Bool) → Prop) (hKK : ∀ r, KK r → K (o1 cB r) ) (h : F_phi a0_x KK) :
    AW Try.prog g (Try.f39.body.getD .skip) (retQ Try.prog [.tmp 2] K) ⟨entryT 0 [.one ((cA Lt.Phi.rw).enc a0_x)], []⟩ := by
  have hcs : CT.Ok Try.prog [(14, C_Name), (49, C_showArgs)] := (CT.cons c_Name (CT.cons c_showArgs CT.ok0))
  have hn : g.nt = 40 := hg
  have hm : Try.prog.follows .mixedOrders = true := by kernel_rfl
  unfold Try.f39
  dsimp only [Option.getD_some]
  unfold F_phi at h
  apply AW_seq_k
  intro K1 hK1
  have hx := True.intro
  refine rgA [1] [] ?_
  iterate 2 refine stA ?_
  refine enA ?_
  refine hK1 _ ?_
  apply AW_seq_k
  intro K2 hK2
  apply AW_seq_k
  intro K3 hK3
  have hx := True.intro
  refine rgV [1] [] 20 (.one (.c (.d (.bool (((!(Lt.Name a0_x.Dst)) || (decide ((a0_x.Ins.length : Int) = 0))) || (decide (256 < (a0_x.Ins.length : Int)))))))) ?_ ?_
  · clear h
    iterate 5 refine stA ?_
    cases hb : (Lt.Name a0_x.Dst)
    · have hx := And.intro hb hx
      iterate 11 refine stA ?_
      exact lfA
    · have hx := And.intro hb hx
      iterate 6 refine stA ?_
      cases hb : (decide ((a0_x.Ins.length : Int) = 0))
      · have hx := And.intro hb hx
        iterate 5 refine stA ?_
        exact lfA
      · have hx := And.intro hb hx
        iterate 5 refine stA ?_
        exact lfA
  · refine hK3 _ ?_
    refine cdA h rfl (fun h => ?_) (fun h => ?_)
    · apply AW_seq_k
      intro K4 hK4
      have hx := True.intro
      refine rgA [2] [.loc 1] ?_
      refine stA ?_
      refine enA ?_
      refine hK4 _ ?_
      apply AW_ret
      exact fiA (hKK _ h)
    · apply AW_skip
      refine hK2 _ ?_
      refine AW_joinO [] [] [] (fun y : Unit => ⟨[], []⟩) (fun y => F_phi_j1 KK) ?_ ?_
      · apply AW_seq_k
        intro K6 hK6
        have hx := True.intro
        refine rgA [22, 23, 24] [.loc 1] ?_
        iterate 2 refine stA ?_
        refine stG fun hp => ?_
        refine stA ?_
        refine enA ?_
        have h := h (by assumption)
        refine hK6 _ ?_
        apply AW_block_k
        intro Q7 hN7 hE7 hO7
        obtain ⟨n8, h⟩ := h
        refine AW_loopO [] [22, 23, 24] [] (fun y : Nat × Int => ⟨[(22, .one (.c (.d (.li (a0_x.Ins.map Lt.In.enc))))), (23, .one (.c (.d (.int .i64 (a0_x.Ins.length : Int))))), (24, .one (.c (.d (.int .i64 y.2))))], []⟩) (fun y => F_phi_l2 a0_x KK y.1 y.2) (fun y => y.1) (n8, 0) ?_ h ?_
        · exact siA
        clear h
        rintro ⟨n8, x1⟩ h K8 hK8
        cases n8 with
        | zero => exact h.elim
        | succ n8 =>
          change F_phi_l2 a0_x KK (n8 + 1) x1 at h
          unfold F_phi_l2 at h
          apply AW_seq_k
          intro K9 hK9
          have hx := True.intro
          refine rgA [22, 23, 24, 25] [] ?_
          refine stA ?_
          refine enA ?_
          refine hK9 _ ?_
          apply AW_seq_k
          intro K10 hK10
          refine cdA h rfl (fun h => ?_) (fun h => ?_)
          · apply AW_skip
            refine hK10 _ ?_
            apply AW_seq_k
            intro K11 hK11
            apply AW_block_k
            intro Q12 hN12 hE12 hO12
            apply AW_seq_k
            intro K13 hK13
            obtain ⟨ho1, h⟩ := h
            have hx := True.intro
            have hx := getA Lt.In.enc ho1 hx
            refine rgA [4, 22, 23, 24] [] ?_
            iterate 4 refine stA ?_
            refine enA ?_
            refine hK13 _ ?_
            apply AW_seq_k
            intro K14 hK14
            have hx := True.intro
            refine rgV [22, 23, 24] [.gh 35, .loc 4] 38 (.one (.c (.d (.bool ((!(Lt.Name ((a0_x.Ins.getD x1.toNat default).Block))) || (!(Lt.showArgs [((a0_x.Ins.getD x1.toNat default).A)] false))))))) ?_ ?_
            · clear h
              iterate 5 refine stA ?_
              cases hb : (Lt.Name ((a0_x.Ins.getD x1.toNat default).Block))
              · have hx := And.intro hb hx
                iterate 6 refine stA ?_
                exact lfA
              · have hx := And.intro hb hx
                iterate 6 refine stA ?_
                exact lfA
            · refine hK14 _ ?_
              refine cdA h rfl (fun h => ?_) (fun h => ?_)
              · apply AW_seq_k
                intro K15 hK15
                have hx := True.intro
                refine rgA [2] [] ?_
                refine stA ?_
                refine enA ?_
                refine hK15 _ ?_
                apply AW_ret
                refine hO12 _ _ (by simp) ?_
                refine hO7 _ _ (by simp) ?_
                exact fiA (hKK _ h)
              · apply AW_skip
                refine hN12 _ ?_
                refine hK11 _ ?_
                have hx := True.intro
                refine rgA [22, 23, 24] [] ?_
                iterate 2 refine stA ?_
                refine enA ?_
                exact hK8 _ (n8, (IntKind.i64.wrap (x1 + 1))) siA h (Nat.lt_succ_self _)
          · apply AW_exit
            refine hE7 _ ?_
            exact ⟨(), siA, h⟩
      · rintro _ h
        change F_phi_j1 KK at h
        unfold F_phi_j1 at h
        apply AW_seq_k
        intro K5 hK5
        have hx := True.intro
        refine rgA [2] [] ?_
        refine stA ?_
        refine enA ?_
        refine hK5 _ ?_
        apply AW_ret
        exact fiA (hKK _ h)

def C_phi : CK1 := pureC (fn1 (cA Lt.Phi.rw) (o1 cB) (fun _ => True) Lt.phi)
theorem c_phi : Con Try.prog 39 C_phi :=
  Con_fn1 (fn := Try.f39) (c := Try.f39.body.getD .skip) (by kernel_rfl) (by kernel_rfl) (by kernel_rfl) (by decide +kernel) (fun g a0_x K hg hp hK => walk_phi g hg a0_x K _ (fun _ h => h) (law_phi a0_x _ hK))
attribute [push_cast] C_phi

set_option maxRecDepth 100000 in
set_option maxHeartbeats 4000000 in
theorem walk_nth (g : G) (hg : g.nt = Try.f52.ntmps) (a0_list : List UInt8) (a1_n : Int) (K : AV → Prop) (KK : (List UInt8) → Prop) (hKK : ∀ r, KK r → K (o1 cS r) ) (h : F_nth a0_list a1_n KK) :
    AW Try.prog g (Try.f52.body.getD .skip) (retQ Try.prog [.tmp 4] K) ⟨entryT 0 [.one (cS.enc a0_list), .one ((cI .i64).enc a1_n)], []⟩ := by
  have hcs : CT.Ok Try.prog [] := CT.ok0
  have hn : g.nt = 27 := hg
  have hm : Try.prog.follows .mixedOrders = true := by kernel_rfl
  unfold Try.f52
  dsimp only [Option.getD_some]
  unfold F_nth at h
  apply AW_seq_k
  intro K1 hK1
  have hx := True.intro
  refine rgA [0, 1] [] ?_
  refine stA ?_
  refine enA ?_
  refine hK1 _ ?_
  apply AW_seq_k
  intro K2 hK2
  have hx := True.intro
  refine rgA [0, 1, 5] [] ?_
  refine stA ?_
  refine enA ?_
  refine hK2 _ ?_
  refine AW_joinO [] [] [] (fun y : Unit => ⟨[], []⟩) (fun y => F_nth_j1 KK) ?_ ?_
  · apply AW_seq_k
    intro K4 hK4
    have hx := True.intro
    refine rgA [0, 1, 5, 6] [] ?_
    refine stA ?_
    refine enA ?_
    refine hK4 _ ?_
    apply AW_block_k
    intro Q5 hN5 hE5 hO5
    obtain ⟨n6, h⟩ := h
    refine AW_loopO [] [0, 1, 5, 6] [] (fun y : Nat × Int × Int × Int => ⟨[(0, .one (.c (.d (.str a0_list)))), (1, .one (.c (.d (.int .i64 y.2.1)))), (5, .one (.c (.d (.int .i64 y.2.2.1)))), (6, .one (.c (.d (.int .i64 y.2.2.2))))], []⟩) (fun y => F_nth_l2 a0_list KK y.1 y.2.1 y.2.2.1 y.2.2.2) (fun y => y.1) (n6, a1_n, 0, 1) ?_ h ?_
    · exact siA
    clear h
    rintro ⟨n6, x1, x2, x3⟩ h K6 hK6
    cases n6 with
    | zero => exact h.elim
    | succ n6 =>
      change F_nth_l2 a0_list KK (n6 + 1) x1 x2 x3 at h
      unfold F_nth_l2 at h
      apply AW_seq_k
      intro K7 hK7
      apply AW_seq_k
      intro K8 hK8
      have hx := True.intro
      refine rgA [0, 1, 5, 6, 10] [] ?_
      iterate 2 refine stA ?_
      refine stG fun hp => ?_
      refine stA ?_
      refine enA ?_
      have h := h (by assumption)
      refine hK8 _ ?_
      refine cdA h rfl (fun h => ?_) (fun h => ?_)
      · apply AW_skip
        refine hK7 _ ?_
        refine AW_joinO [] [0, 1, 5, 6] [] (fun y : Int × Int => ⟨[(0, .one (.c (.d (.str a0_list)))), (1, .one (.c (.d (.int .i64 y.1)))), (5, .one (.c (.d (.int .i64 y.2)))), (6, .one (.c (.d (.int .i64 x3))))], []⟩) (fun y => F_nth_j3 x3 (fun y1 y2 y3 => F_nth_l2 a0_list KK n6 y1 y2 y3) y.1 y.2 KK) ?_ ?_
        · apply AW_block_k
          intro Q9 hN9 hE9 hO9
          apply AW_seq_k
          intro K10 hK10
          apply AW_seq_k
          intro K11 hK11
          obtain ⟨ho1, h⟩ := h
          have hx := True.intro
          have hx := getS ho1 hx
          refine rgA [0, 1, 5, 6, 16] [] ?_
          iterate 4 refine stA ?_
          refine enA ?_
          refine hK11 _ ?_
          refine cdA h rfl (fun h => ?_) (fun h => ?_)
          · apply AW_exit
            refine hE9 _ ?_
            exact ⟨(x1, x2), siA, h⟩
          · apply AW_skip
            refine hK10 _ ?_
            apply AW_seq_k
            intro K12 hK12
            apply AW_seq_k
            intro K13 hK13
            have hx := True.intro
            refine rgA [0, 1, 5, 6] [] ?_
            iterate 3 refine stA ?_
            refine enA ?_
            refine hK13 _ ?_
            apply AW_seq_k
            intro K14 hK14
            have hx := True.intro
            refine rgA [0, 1, 5, 6, 20] [] ?_
            iterate 2 refine stA ?_
            refine enA ?_
            refine hK14 _ ?_
            refine cdA h rfl (fun h => ?_) (fun h => ?_)
            · apply AW_seq_k
              intro K15 hK15
              obtain ⟨ho1, h⟩ := h
              have hx := True.intro
              have hx := useA ho1.1 hx
              have hx := useA ho1.2.1 hx
              have hx := useA ho1.2.2.1 hx
              have hx := useA ho1.2.2.2 hx
              refine rgA [4] [] ?_
              iterate 6 refine stA ?_
              refine enA ?_
              refine hK15 _ ?_
              apply AW_ret
              refine hO9 _ _ (by simp) ?_
              refine hO5 _ _ (by simp) ?_
              exact fiA (hKK _ h)
            · apply AW_skip
              refine hK12 _ ?_
              have hx := True.intro
              refine rgA [0, 1, 5, 6] [] ?_
              iterate 2 refine stA ?_
              refine enA ?_
              refine hN9 _ ?_
              exact ⟨((IntKind.i64.wrap (x1 - 1)), x3), siA, h⟩
        · rintro ⟨x4, x5⟩ h
          change F_nth_j3 x3 (fun y1 y2 y3 => F_nth_l2 a0_list KK n6 y1 y2 y3) x4 x5 KK at h
          unfold F_nth_j3 at h
          have hx := True.intro
          refine rgA [0, 1, 5, 6] [] ?_
          iterate 3 refine stA ?_
          refine enA ?_
          exact hK6 _ (n6, x4, x5, (IntKind.i64.wrap (x3 + 1))) siA h (Nat.lt_succ_self _)
      · apply AW_exit
        refine hE5 _ ?_
        exact ⟨(), siA, h⟩
  · rintro _ h
    change F_nth_j1 KK at h
    unfold F_nth_j1 at h
    apply AW_seq_k
    intro K3 hK3
    have hx := True.intro
    refine rgA [4] [] ?_
    refine stA ?_
    refine enA ?_
    refine hK3 _ ?_
    apply AW_ret
    exact fiA (hKK _ h)

def C_nth : CK1 := pureC (fn2 cS (cI .i64) (o1 cS) (fun _ _ => True) Lt.nth)
theorem c_nth : Con Try.prog 52 C_nth :=
  Con_fn2 (fn := Try.f52) (c := Try.f52.body.getD .skip) (by kernel_rfl) (by kernel_rfl) (by kernel_rfl) (by decide +kernel) (fun g a0_list a1_n K hg hp hK => walk_nth g hg a0_list a1_n K _ (fun _ h => h) (law_nth a0_list a1_n _ hK))
attribute [push_cast] C_nth

set_option maxRecDepth 100000 in
set_option maxHeartbeats 4000000 in
theorem walk_Of (g : G) (hg : g.nt = Try.f44.ntmps) (a0_op : Int) (K : AV → Prop) (KK : (Lt.Form × Bool) → Prop) (hKK : ∀ r, KK r → K (o2 (cA Lt.Form.rw) cB r) ) (h : F_Of a0_op KK) :
    AW Try.prog g (Try.f44.body.getD .skip) (retQ Try.prog [.cell 2 109, .tmp 3] K) ⟨entryT 0 [.one ((cI .i64).enc a0_op)], []⟩ := by
  have hcs : CT.Ok Try.prog [(52, C_nth)] := (CT.cons c_nth CT.ok0)
  have hn : g.nt = 57 := hg
  have hm : Try.prog.follows .mixedOrders = true := by kernel_rfl
  unfold Try.f44
  dsimp only [Option.getD_some]
  unfold F_Of at h
  apply AW_seq_k
  intro K1 hK1
  have hx := True.intro
  refine rgA [0, 2] [] ?_
  iterate 2 refine stA ?_
  refine enA ?_
  refine hK1 _ ?_
  apply AW_seq_k
  intro K2 hK2
  apply AW_block_k
  intro Q3 hN3 hE3 hO3
  apply AW_seq_k
  intro K4 hK4
  have hx := True.intro
  refine rgV [0, 2] [] 4 (.one (.c (.d (.bool ((decide (1 ≤ a0_op)) && (decide (a0_op ≤ 21))))))) ?_ ?_
  · clear h
    iterate 3 refine stA ?_
    cases hb : (decide (1 ≤ a0_op))
    · have hx := And.intro hb hx
      iterate 4 refine stA ?_
      exact lfA
    · have hx := And.intro hb hx
      iterate 4 refine stA ?_
      exact lfA
  · refine hK4 _ ?_
    refine cdA h rfl (fun h => ?_) (fun h => ?_)
    · apply AW_seq_k
      intro K5 hK5
      have hx := True.intro
      refine rgA [2, 3] [] ?_
      iterate 5 refine stA ?_
      refine enA ?_
      refine hK5 _ ?_
      apply AW_ret
      refine hO3 _ _ (by simp) ?_
      exact fiA (hKK _ h)
    · apply AW_seq_k
      intro K6 hK6
      have hx := True.intro
      refine rgV [0, 2] [] 14 (.one (.c (.d (.bool ((decide (22 ≤ a0_op)) && (decide (a0_op ≤ 24))))))) ?_ ?_
      · clear h
        iterate 3 refine stA ?_
        cases hb : (decide (22 ≤ a0_op))
        · have hx := And.intro hb hx
          iterate 4 refine stA ?_
          exact lfA
        · have hx := And.intro hb hx
          iterate 4 refine stA ?_
          exact lfA
      · refine hK6 _ ?_
        refine cdA h rfl (fun h => ?_) (fun h => ?_)
        · apply AW_seq_k
          intro K7 hK7
          have hx := True.intro
          refine rgA [2, 3] [] ?_
          iterate 6 refine stA ?_
          refine enA ?_
          refine hK7 _ ?_
          apply AW_ret
          refine hO3 _ _ (by simp) ?_
          exact fiA (hKK _ h)
        · apply AW_skip
          refine hN3 _ ?_
          refine hK2 _ ?_
          apply AW_seq_k
          intro K8 hK8
          apply AW_seq_k
          intro K9 hK9
          have hx := True.intro
          refine rgA [2, 25] [] ?_
          refine stA ?_
          refine enA ?_
          refine hK9 _ ?_
          apply AW_block_k
          intro Q10 hN10 hE10 hO10
          apply AW_seq_k
          intro K11 hK11
          have hx := True.intro
          refine rgA [2, 25, 26] [] ?_
          iterate 2 refine stA ?_
          refine enA ?_
          refine hK11 _ ?_
          refine cdA h rfl (fun h => ?_) (fun h => ?_)
          · apply AW_seq_k
            intro K12 hK12
            have hx := True.intro
            refine rgA [2, 3] [] ?_
            iterate 3 refine stA ?_
            refine enA ?_
            refine hK12 _ ?_
            apply AW_ret
            refine hO10 _ _ (by simp) ?_
            exact fiA (hKK _ h)
          · apply AW_seq_k
            intro K13 hK13
            have hx := True.intro
            refine rgA [2, 25, 29] [] ?_
            iterate 2 refine stA ?_
            refine enA ?_
            refine hK13 _ ?_
            refine cdA h rfl (fun h => ?_) (fun h => ?_)
            · apply AW_seq_k
              intro K14 hK14
              have hx := True.intro
              refine rgA [2, 3] [] ?_
              iterate 3 refine stA ?_
              refine enA ?_
              refine hK14 _ ?_
              apply AW_ret
              refine hO10 _ _ (by simp) ?_
              exact fiA (hKK _ h)
            · apply AW_seq_k
              intro K15 hK15
              have hx := True.intro
              refine rgA [2, 25, 32] [] ?_
              iterate 2 refine stA ?_
              refine enA ?_
              refine hK15 _ ?_
              refine cdA h rfl (fun h => ?_) (fun h => ?_)
              · apply AW_seq_k
                intro K16 hK16
                have hx := True.intro
                refine rgA [2, 3] [] ?_
                iterate 3 refine stA ?_
                refine enA ?_
                refine hK16 _ ?_
                apply AW_ret
                refine hO10 _ _ (by simp) ?_
                exact fiA (hKK _ h)
              · apply AW_seq_k
                intro K17 hK17
                have hx := True.intro
                refine rgA [2, 25, 35] [] ?_
                iterate 2 refine stA ?_
                refine enA ?_
                refine hK17 _ ?_
                refine cdA h rfl (fun h => ?_) (fun h => ?_)
                · apply AW_seq_k
                  intro K18 hK18
                  have hx := True.intro
                  refine rgA [2, 3] [] ?_
                  iterate 3 refine stA ?_
                  refine enA ?_
                  refine hK18 _ ?_
                  apply AW_ret
                  refine hO10 _ _ (by simp) ?_
                  exact fiA (hKK _ h)
                · apply AW_seq_k
                  intro K19 hK19
                  have hx := True.intro
                  refine rgA [2, 25, 38] [] ?_
                  iterate 2 refine stA ?_
                  refine enA ?_
                  refine hK19 _ ?_
                  refine cdA h rfl (fun h => ?_) (fun h => ?_)
                  · apply AW_seq_k
                    intro K20 hK20
                    have hx := True.intro
                    refine rgA [2, 3] [] ?_
                    iterate 3 refine stA ?_
                    refine enA ?_
                    refine hK20 _ ?_
                    apply AW_ret
                    refine hO10 _ _ (by simp) ?_
                    exact fiA (hKK _ h)
                  · apply AW_seq_k
                    intro K21 hK21
                    have hx := True.intro
                    refine rgA [2, 25, 41] [] ?_
                    iterate 2 refine stA ?_
                    refine enA ?_
                    refine hK21 _ ?_
                    refine cdA h rfl (fun h => ?_) (fun h => ?_)
                    · apply AW_seq_k
                      intro K22 hK22
                      have hx := True.intro
                      refine rgA [2, 3] [] ?_
                      iterate 3 refine stA ?_
                      refine enA ?_
                      refine hK22 _ ?_
                      apply AW_ret
                      refine hO10 _ _ (by simp) ?_
                      exact fiA (hKK _ h)
                    · apply AW_seq_k
                      intro K23 hK23
                      have hx := True.intro
                      refine rgA [2, 25, 44] [] ?_
                      iterate 2 refine stA ?_
                      refine enA ?_
                      refine hK23 _ ?_
                      refine cdA h rfl (fun h => ?_) (fun h => ?_)
                      · apply AW_seq_k
                        intro K24 hK24
                        have hx := True.intro
                        refine rgA [2, 3] [] ?_
                        iterate 3 refine stA ?_
                        refine enA ?_
                        refine hK24 _ ?_
                        apply AW_ret
                        refine hO10 _ _ (by simp) ?_
                        exact fiA (hKK _ h)
                      · apply AW_seq_k
                        intro K25 hK25
                        have hx := True.intro
                        refine rgA [2, 25, 47] [] ?_
                        iterate 2 refine stA ?_
                        refine enA ?_
                        refine hK25 _ ?_
                        refine cdA h rfl (fun h => ?_) (fun h => ?_)
                        · apply AW_seq_k
                          intro K26 hK26
                          have hx := True.intro
                          refine rgA [2, 3] [] ?_
                          iterate 3 refine stA ?_
                          refine enA ?_
                          refine hK26 _ ?_
                          apply AW_ret
                          refine hO10 _ _ (by simp) ?_
                          exact fiA (hKK _ h)
                        · apply AW_seq_k
                          intro K27 hK27
                          have hx := True.intro
                          refine rgA [2, 25, 50] [] ?_
                          iterate 2 refine stA ?_
                          refine enA ?_
                          refine hK27 _ ?_
                          refine cdA h rfl (fun h => ?_) (fun h => ?_)
                          · apply AW_seq_k
                            intro K28 hK28
                            have hx := True.intro
                            refine rgA [2, 3] [] ?_
                            iterate 3 refine stA ?_
                            refine enA ?_
                            refine hK28 _ ?_
                            apply AW_ret
                            refine hO10 _ _ (by simp) ?_
                            exact fiA (hKK _ h)
                          · apply AW_seq_k
                            intro K29 hK29
                            have hx := True.intro
                            refine rgA [2, 53] [] ?_
                            iterate 2 refine stA ?_
                            refine enA ?_
                            refine hK29 _ ?_
                            refine cdA h rfl (fun h => ?_) (fun h => ?_)
                            · apply AW_seq_k
                              intro K30 hK30
                              have hx := True.intro
                              refine rgA [2, 3] [] ?_
                              iterate 3 refine stA ?_
                              refine enA ?_
                              refine hK30 _ ?_
                              apply AW_ret
                              refine hO10 _ _ (by simp) ?_
                              exact fiA (hKK _ h)
                            · apply AW_skip
                              refine hN10 _ ?_
                              refine hK8 _ ?_
                              apply AW_seq_k
                              intro K31 hK31
                              have hx := True.intro
                              refine rgA [2, 3] [] ?_
                              iterate 3 refine stA ?_
                              refine enA ?_
                              refine hK31 _ ?_
                              apply AW_ret
                              exact fiA (hKK _ h)

def C_Of : CK1 := pureC (fn1 (cI .i64) (o2 (cA Lt.Form.rw) cB) (fun _ => True) Lt.Of)
theorem c_Of : Con Try.prog 44 C_Of :=
  Con_fn1 (fn := Try.f44) (c := Try.f44.body.getD .skip) (by kernel_rfl) (by kernel_rfl) (by kernel_rfl) (by decide +kernel) (fun g a0_op K hg hp hK => walk_Of g hg a0_op K _ (fun _ h => h) (law_Of a0_op _ hK))
attribute [push_cast] C_Of

set_option maxRecDepth 100000 in
set_option maxHeartbeats 4000000 in
theorem walk_frame (g : G) (hg : g.nt = Try.f50.ntmps) (a0_f : Lt.Frame) (K : AV → Prop) (KK : (Bool) → Prop) (hKK : ∀ r, KK r → K (o1 cB r) ) (h : F_frame a0_f KK) :
    AW Try.prog g (Try.f50.body.getD .skip) (retQ Try.prog [.tmp 2] K) ⟨entryT 0 [.one ((cA Lt.Frame.rw).enc a0_f)], []⟩ := by
  have hcs : CT.Ok Try.prog [(14, C_Name), (49, C_showArgs)] := (CT.cons c_Name (CT.cons c_showArgs CT.ok0))
  have hn : g.nt = 50 := hg
  have hm : Try.prog.follows .mixedOrders = true := by kernel_rfl
  unfold Try.f50
  dsimp only [Option.getD_some]
  unfold F_frame at h
  apply AW_seq_k
  intro K1 hK1
  have hx := True.intro
  refine rgA [1] [] ?_
  iterate 2 refine stA ?_
  refine enA ?_
  refine hK1 _ ?_
  apply AW_seq_k
  intro K2 hK2
  apply AW_seq_k
  intro K3 hK3
  have hx := True.intro
  refine rgV [1] [] 30 (.one (.c (.d (.bool (((((!(Lt.Name a0_f.Func)) || (!(Lt.Name a0_f.Block))) || (decide (a0_f.At < 0))) || (decide (1024 < a0_f.At))) || (decide (16 < (a0_f.Vars.length : Int)))))))) ?_ ?_
  · clear h
    iterate 5 refine stA ?_
    cases hb : (Lt.Name a0_f.Func)
    · have hx := And.intro hb hx
      iterate 21 refine stA ?_
      exact lfA
    · have hx := And.intro hb hx
      iterate 6 refine stA ?_
      cases hb : (Lt.Name a0_f.Block)
      · have hx := And.intro hb hx
        iterate 15 refine stA ?_
        exact lfA
      · have hx := And.intro hb hx
        iterate 5 refine stA ?_
        cases hb : (decide (a0_f.At < 0))
        · have hx := And.intro hb hx
          iterate 5 refine stA ?_
          cases hb : (decide (1024 < a0_f.At))
          · have hx := And.intro hb hx
            iterate 5 refine stA ?_
            exact lfA
          · have hx := And.intro hb hx
            iterate 5 refine stA ?_
            exact lfA
        · have hx := And.intro hb hx
          iterate 10 refine stA ?_
          exact lfA
  · refine hK3 _ ?_
    refine cdA h rfl (fun h => ?_) (fun h => ?_)
    · apply AW_seq_k
      intro K4 hK4
      have hx := True.intro
      refine rgA [2] [.loc 1] ?_
      refine stA ?_
      refine enA ?_
      refine hK4 _ ?_
      apply AW_ret
      exact fiA (hKK _ h)
    · apply AW_skip
      refine hK2 _ ?_
      refine AW_joinO [] [] [] (fun y : Unit => ⟨[], []⟩) (fun y => F_frame_j1 KK) ?_ ?_
      · apply AW_seq_k
        intro K6 hK6
        have hx := True.intro
        refine rgA [32, 33, 34] [.loc 1] ?_
        iterate 2 refine stA ?_
        refine stG fun hp => ?_
        refine stA ?_
        refine enA ?_
        have h := h (by assumption)
        refine hK6 _ ?_
        apply AW_block_k
        intro Q7 hN7 hE7 hO7
        obtain ⟨n8, h⟩ := h
        refine AW_loopO [] [32, 33, 34] [] (fun y : Nat × Int => ⟨[(32, .one (.c (.d (.li (a0_f.Vars.map Lt.Bind.enc))))), (33, .one (.c (.d (.int .i64 (a0_f.Vars.length : Int))))), (34, .one (.c (.d (.int .i64 y.2))))], []⟩) (fun y => F_frame_l2 a0_f KK y.1 y.2) (fun y => y.1) (n8, 0) ?_ h ?_
        · exact siA
        clear h
        rintro ⟨n8, x1⟩ h K8 hK8
        cases n8 with
        | zero => exact h.elim
        | succ n8 =>
          change F_frame_l2 a0_f KK (n8 + 1) x1 at h
          unfold F_frame_l2 at h
          apply AW_seq_k
          intro K9 hK9
          have hx := True.intro
          refine rgA [32, 33, 34, 35] [] ?_
          refine stA ?_
          refine enA ?_
          refine hK9 _ ?_
          apply AW_seq_k
          intro K10 hK10
          refine cdA h rfl (fun h => ?_) (fun h => ?_)
          · apply AW_skip
            refine hK10 _ ?_
            apply AW_seq_k
            intro K11 hK11
            apply AW_block_k
            intro Q12 hN12 hE12 hO12
            apply AW_seq_k
            intro K13 hK13
            obtain ⟨ho1, h⟩ := h
            have hx := True.intro
            have hx := getA Lt.Bind.enc ho1 hx
            refine rgA [4, 32, 33, 34] [] ?_
            iterate 4 refine stA ?_
            refine enA ?_
            refine hK13 _ ?_
            apply AW_seq_k
            intro K14 hK14
            have hx := True.intro
            refine rgV [32, 33, 34] [.gh 45, .loc 4] 48 (.one (.c (.d (.bool ((!(Lt.Name ((a0_f.Vars.getD x1.toNat default).Name))) || (!(Lt.showArgs [((a0_f.Vars.getD x1.toNat default).A)] true))))))) ?_ ?_
            · clear h
              iterate 5 refine stA ?_
              cases hb : (Lt.Name ((a0_f.Vars.getD x1.toNat default).Name))
              · have hx := And.intro hb hx
                iterate 6 refine stA ?_
                exact lfA
              · have hx := And.intro hb hx
                iterate 6 refine stA ?_
                exact lfA
            · refine hK14 _ ?_
              refine cdA h rfl (fun h => ?_) (fun h => ?_)
              · apply AW_seq_k
                intro K15 hK15
                have hx := True.intro
                refine rgA [2] [] ?_
                refine stA ?_
                refine enA ?_
                refine hK15 _ ?_
                apply AW_ret
                refine hO12 _ _ (by simp) ?_
                refine hO7 _ _ (by simp) ?_
                exact fiA (hKK _ h)
              · apply AW_skip
                refine hN12 _ ?_
                refine hK11 _ ?_
                have hx := True.intro
                refine rgA [32, 33, 34] [] ?_
                iterate 2 refine stA ?_
                refine enA ?_
                exact hK8 _ (n8, (IntKind.i64.wrap (x1 + 1))) siA h (Nat.lt_succ_self _)
          · apply AW_exit
            refine hE7 _ ?_
            exact ⟨(), siA, h⟩
      · rintro _ h
        change F_frame_j1 KK at h
        unfold F_frame_j1 at h
        apply AW_seq_k
        intro K5 hK5
        have hx := True.intro
        refine rgA [2] [] ?_
        refine stA ?_
        refine enA ?_
        refine hK5 _ ?_
        apply AW_ret
        exact fiA (hKK _ h)

def C_frame : CK1 := pureC (fn1 (cA Lt.Frame.rw) (o1 cB) (fun _ => True) Lt.frame)
theorem c_frame : Con Try.prog 50 C_frame :=
  Con_fn1 (fn := Try.f50) (c := Try.f50.body.getD .skip) (by kernel_rfl) (by kernel_rfl) (by kernel_rfl) (by decide +kernel) (fun g a0_f K hg hp hK => walk_frame g hg a0_f K _ (fun _ h => h) (law_frame a0_f _ hK))
attribute [push_cast] C_frame

set_option maxRecDepth 100000 in
set_option maxHeartbeats 4000000 in
theorem walk_instr (g : G) (hg : g.nt = Try.f40.ntmps) (a0_i : Lt.Instr) (K : AV → Prop) (KK : (Bool) → Prop) (hKK : ∀ r, KK r → K (o1 cB r) ) (h : F_instr a0_i KK) :
    AW Try.prog g (Try.f40.body.getD .skip) (retQ Try.prog [.tmp 2] K) ⟨entryT 0 [.one ((cA Lt.Instr.rw).enc a0_i)], []⟩ := by
  have hcs : CT.Ok Try.prog [(14, C_Name), (44, C_Of), (49, C_showArgs), (50, C_frame)] := (CT.cons c_Name (CT.cons c_Of (CT.cons c_showArgs (CT.cons c_frame CT.ok0))))
  have hn : g.nt = 138 := hg
  have hm : Try.prog.follows .mixedOrders = true := by kernel_rfl
  unfold Try.f40
  dsimp only [Option.getD_some]
  unfold F_instr at h
  apply AW_seq_k
  intro K1 hK1
  have hx := True.intro
  refine rgA [1] [] ?_
  iterate 2 refine stA ?_
  refine enA ?_
  refine hK1 _ ?_
  apply AW_seq_k
  intro K2 hK2
  have hx := True.intro
  refine rgA [1, 3, 4] [] ?_
  iterate 9 refine stA ?_
  refine enA ?_
  refine hK2 _ ?_
  apply AW_seq_k
  intro K3 hK3
  apply AW_seq_k
  intro K4 hK4
  have hx := True.intro
  refine rgV [1, 3] [] 52 (.one (.c (.d (.bool (((((!((Lt.Of a0_i.Op).2)) || (!(((Lt.Of a0_i.Op).1).Dst == (!decide (a0_i.Dst = ([] : List UInt8)))))) || (!(((Lt.Of a0_i.Op).1).Named == (!decide (a0_i.Name = ([] : List UInt8)))))) || (((Lt.Of a0_i.Op).1).Dst && (!(Lt.Name a0_i.Dst)))) || (((Lt.Of a0_i.Op).1).Named && (!(Lt.Name a0_i.Name)))))))) ?_ ?_
  · clear h
    iterate 3 refine stA ?_
    cases hb : ((Lt.Of a0_i.Op).2)
    · have hx := And.intro hb hx
      iterate 35 refine stA ?_
      exact lfA
    · have hx := And.intro hb hx
      iterate 8 refine stA ?_
      cases hb : (((Lt.Of a0_i.Op).1).Dst == (!decide (a0_i.Dst = ([] : List UInt8))))
      · have hx := And.intro hb hx
        iterate 27 refine stA ?_
        exact lfA
      · have hx := And.intro hb hx
        iterate 8 refine stA ?_
        cases hb : (((Lt.Of a0_i.Op).1).Named == (!decide (a0_i.Name = ([] : List UInt8))))
        · have hx := And.intro hb hx
          iterate 19 refine stA ?_
          exact lfA
        · have hx := And.intro hb hx
          iterate 3 refine stA ?_
          cases hb : (((Lt.Of a0_i.Op).1).Dst)
          · have hx := And.intro hb hx
            iterate 10 refine stA ?_
            cases hb : (((Lt.Of a0_i.Op).1).Named)
            · have hx := And.intro hb hx
              iterate 6 refine stA ?_
              exact lfA
            · have hx := And.intro hb hx
              iterate 6 refine stA ?_
              exact lfA
          · have hx := And.intro hb hx
            iterate 7 refine stA ?_
            cases hb : (Lt.Name a0_i.Dst)
            · have hx := And.intro hb hx
              iterate 9 refine stA ?_
              exact lfA
            · have hx := And.intro hb hx
              iterate 3 refine stA ?_
              cases hb : (((Lt.Of a0_i.Op).1).Named)
              · have hx := And.intro hb hx
                iterate 6 refine stA ?_
                exact lfA
              · have hx := And.intro hb hx
                iterate 6 refine stA ?_
                exact lfA
  · refine hK4 _ ?_
    refine cdA h rfl (fun h => ?_) (fun h => ?_)
    · apply AW_seq_k
      intro K5 hK5
      have hx := True.intro
      refine rgA [2] [.loc 3, .loc 1] ?_
      refine stA ?_
      refine enA ?_
      refine hK5 _ ?_
      apply AW_ret
      exact fiA (hKK _ h)
    · apply AW_skip
      refine hK3 _ ?_
      apply AW_seq_k
      intro K6 hK6
      apply AW_seq_k
      intro K7 hK7
      have hx := True.intro
      refine rgV [1] [.loc 3] 84 (.one (.c (.d (.bool (((((decide ((a0_i.Args.length : Int) < ((Lt.Of a0_i.Op).1).Least)) || (decide (((Lt.Of a0_i.Op).1).Most < (a0_i.Args.length : Int)))) || (!(Lt.showArgs a0_i.Args false))) || (decide (16 < (a0_i.Frames.length : Int)))) || (decide (99 < (a0_i.Objs.length : Int)))))))) ?_ ?_
      · clear h
        iterate 7 refine stA ?_
        cases hb : (decide ((a0_i.Args.length : Int) < ((Lt.Of a0_i.Op).1).Least))
        · have hx := And.intro hb hx
          iterate 8 refine stA ?_
          cases hb : (decide (((Lt.Of a0_i.Op).1).Most < (a0_i.Args.length : Int)))
          · have hx := And.intro hb hx
            iterate 6 refine stA ?_
            cases hb : (Lt.showArgs a0_i.Args false)
            · have hx := And.intro hb hx
              iterate 11 refine stA ?_
              exact lfA
            · have hx := And.intro hb hx
              iterate 6 refine stA ?_
              cases hb : (decide (16 < (a0_i.Frames.length : Int)))
              · have hx := And.intro hb hx
                iterate 5 refine stA ?_
                exact lfA
              · have hx := And.intro hb hx
                iterate 5 refine stA ?_
                exact lfA
          · have hx := And.intro hb hx
            iterate 17 refine stA ?_
            exact lfA
        · have hx := And.intro hb hx
          iterate 25 refine stA ?_
          exact lfA
      · refine hK7 _ ?_
        refine cdA h rfl (fun h => ?_) (fun h => ?_)
        · apply AW_seq_k
          intro K8 hK8
          have hx := True.intro
          refine rgA [2] [.loc 1] ?_
          refine stA ?_
          refine enA ?_
          refine hK8 _ ?_
          apply AW_ret
          exact fiA (hKK _ h)
        · apply AW_skip
          refine hK6 _ ?_
          apply AW_seq_k
          intro K9 hK9
          apply AW_seq_k
          intro K10 hK10
          have hx := True.intro
          refine rgV [1] [] 92 (.one (.c (.d (.bool ((!decide (a0_i.Op = 31)) && (!decide (a0_i.Op = 34))))))) ?_ ?_
          · clear h
            iterate 4 refine stA ?_
            cases hb : (decide (a0_i.Op = 31))
            · have hx := And.intro hb hx
              iterate 4 refine stA ?_
              exact lfA
            · have hx := And.intro hb hx
              iterate 4 refine stA ?_
              exact lfA
          · refine hK10 _ ?_
            refine cdA h rfl (fun h => ?_) (fun h => ?_)
            · apply AW_seq_k
              intro K11 hK11
              have hx := True.intro
              refine rgV [] [.loc 1] 2 (.one (.c (.d (.bool ((decide ((a0_i.Frames.length : Int) = 0)) && (decide ((a0_i.Objs.length : Int) = 0))))))) ?_ ?_
              · clear h
                iterate 5 refine stA ?_
                cases hb : (decide ((a0_i.Frames.length : Int) = 0))
                · have hx := And.intro hb hx
                  iterate 6 refine stA ?_
                  exact lfA
                · have hx := And.intro hb hx
                  iterate 6 refine stA ?_
                  exact lfA
              · refine hK11 _ ?_
                apply AW_ret
                exact fiA (hKK _ h)
            · apply AW_skip
              refine hK9 _ ?_
              refine AW_joinO [] [1] [] (fun y : Unit => ⟨[(1, .one (.c (.pl ⟨.loc 1, 0, []⟩)))], [(.loc 1, ⟨true, [.d (.int .i64 a0_i.Op), .d (.str a0_i.Dst), .d (.str a0_i.Name), .d (.li (a0_i.Args.map Lt.Arg.enc)), .d (.li (a0_i.Frames.map Lt.Frame.enc)), .d (.li (a0_i.Objs.map Lt.Virt.enc))]⟩)]⟩) (fun y => F_instr_j1 a0_i KK) ?_ ?_
              · apply AW_seq_k
                intro K23 hK23
                have hx := True.intro
                refine rgA [1, 104, 105, 106] [] ?_
                iterate 2 refine stA ?_
                refine stG fun hp => ?_
                refine stA ?_
                refine enA ?_
                have h := h (by assumption)
                refine hK23 _ ?_
                apply AW_block_k
                intro Q24 hN24 hE24 hO24
                obtain ⟨n25, h⟩ := h
                refine AW_loopO [] [1, 104, 105, 106] [] (fun y : Nat × Int => ⟨[(1, .one (.c (.pl ⟨.loc 1, 0, []⟩))), (104, .one (.c (.d (.li (a0_i.Frames.map Lt.Frame.enc))))), (105, .one (.c (.d (.int .i64 (a0_i.Frames.length : Int))))), (106, .one (.c (.d (.int .i64 y.2))))], [(.loc 1, ⟨true, [.d (.int .i64 a0_i.Op), .d (.str a0_i.Dst), .d (.str a0_i.Name), .d (.li (a0_i.Args.map Lt.Arg.enc)), .d (.li (a0_i.Frames.map Lt.Frame.enc)), .d (.li (a0_i.Objs.map Lt.Virt.enc))]⟩)]⟩) (fun y => F_instr_l4 a0_i KK y.1 y.2) (fun y => y.1) (n25, 0) ?_ h ?_
                · exact siA
                clear h
                rintro ⟨n25, x2⟩ h K25 hK25
                cases n25 with
                | zero => exact h.elim
                | succ n25 =>
                  change F_instr_l4 a0_i KK (n25 + 1) x2 at h
                  unfold F_instr_l4 at h
                  apply AW_seq_k
                  intro K26 hK26
                  have hx := True.intro
                  refine rgA [1, 104, 105, 106, 107] [] ?_
                  refine stA ?_
                  refine enA ?_
                  refine hK26 _ ?_
                  apply AW_seq_k
                  intro K27 hK27
                  refine cdA h rfl (fun h => ?_) (fun h => ?_)
                  · apply AW_skip
                    refine hK27 _ ?_
                    apply AW_seq_k
                    intro K28 hK28
                    apply AW_block_k
                    intro Q29 hN29 hE29 hO29
                    apply AW_seq_k
                    intro K30 hK30
                    obtain ⟨ho1, h⟩ := h
                    have hx := True.intro
                    have hx := getA Lt.Frame.enc ho1 hx
                    refine rgA [1, 6, 104, 105, 106] [] ?_
                    iterate 4 refine stA ?_
                    refine enA ?_
                    refine hK30 _ ?_
                    apply AW_seq_k
                    intro K31 hK31
                    have hx := True.intro
                    refine rgA [1, 104, 105, 106, 112] [.loc 6] ?_
                    iterate 3 refine stA ?_
                    refine enA ?_
                    refine hK31 _ ?_
                    refine cdA h rfl (fun h => ?_) (fun h => ?_)
                    · apply AW_seq_k
                      intro K32 hK32
                      have hx := True.intro
                      refine rgA [2] [.loc 1] ?_
                      refine stA ?_
                      refine enA ?_
                      refine hK32 _ ?_
                      apply AW_ret
                      refine hO29 _ _ (by simp) ?_
                      refine hO24 _ _ (by simp) ?_
                      exact fiA (hKK _ h)
                    · apply AW_skip
                      refine hN29 _ ?_
                      refine hK28 _ ?_
                      have hx := True.intro
                      refine rgA [1, 104, 105, 106] [] ?_
                      iterate 2 refine stA ?_
                      refine enA ?_
                      exact hK25 _ (n25, (IntKind.i64.wrap (x2 + 1))) siA h (Nat.lt_succ_self _)
                  · apply AW_exit
                    refine hE24 _ ?_
                    exact ⟨(), siA, h⟩
              · rintro _ h
                change F_instr_j1 a0_i KK at h
                unfold F_instr_j1 at h
                refine AW_joinO [] [] [] (fun y : Unit => ⟨[], []⟩) (fun y => F_instr_j2 KK) ?_ ?_
                · apply AW_seq_k
                  intro K13 hK13
                  have hx := True.intro
                  refine rgA [115, 116, 117] [.loc 1] ?_
                  iterate 2 refine stA ?_
                  refine stG fun hp => ?_
                  refine stA ?_
                  refine enA ?_
                  have h := h (by assumption)
                  refine hK13 _ ?_
                  apply AW_block_k
                  intro Q14 hN14 hE14 hO14
                  obtain ⟨n15, h⟩ := h
                  refine AW_loopO [] [115, 116, 117] [] (fun y : Nat × Int => ⟨[(115, .one (.c (.d (.li (a0_i.Objs.map Lt.Virt.enc))))), (116, .one (.c (.d (.int .i64 (a0_i.Objs.length : Int))))), (117, .one (.c (.d (.int .i64 y.2))))], []⟩) (fun y => F_instr_l3 a0_i KK y.1 y.2) (fun y => y.1) (n15, 0) ?_ h ?_
                  · exact siA
                  clear h
                  rintro ⟨n15, x1⟩ h K15 hK15
                  cases n15 with
                  | zero => exact h.elim
                  | succ n15 =>
                    change F_instr_l3 a0_i KK (n15 + 1) x1 at h
                    unfold F_instr_l3 at h
                    apply AW_seq_k
                    intro K16 hK16
                    have hx := True.intro
                    refine rgA [115, 116, 117, 118] [] ?_
                    refine stA ?_
                    refine enA ?_
                    refine hK16 _ ?_
                    apply AW_seq_k
                    intro K17 hK17
                    refine cdA h rfl (fun h => ?_) (fun h => ?_)
                    · apply AW_skip
                      refine hK17 _ ?_
                      apply AW_seq_k
                      intro K18 hK18
                      apply AW_block_k
                      intro Q19 hN19 hE19 hO19
                      apply AW_seq_k
                      intro K20 hK20
                      obtain ⟨ho1, h⟩ := h
                      have hx := True.intro
                      have hx := getA Lt.Virt.enc ho1 hx
                      refine rgA [8, 115, 116, 117] [] ?_
                      iterate 4 refine stA ?_
                      refine enA ?_
                      refine hK20 _ ?_
                      apply AW_seq_k
                      intro K21 hK21
                      have hx := True.intro
                      refine rgV [115, 116, 117] [.loc 8] 136 (.one (.c (.d (.bool (((!(Lt.Name ((a0_i.Objs.getD x1.toNat default).Class))) || (decide (8 < (((a0_i.Objs.getD x1.toNat default).Vals).length : Int)))) || (!(Lt.showArgs ((a0_i.Objs.getD x1.toNat default).Vals) true))))))) ?_ ?_
                      · clear h
                        iterate 5 refine stA ?_
                        cases hb : (Lt.Name ((a0_i.Objs.getD x1.toNat default).Class))
                        · have hx := And.intro hb hx
                          iterate 11 refine stA ?_
                          exact lfA
                        · have hx := And.intro hb hx
                          iterate 6 refine stA ?_
                          cases hb : (decide (8 < (((a0_i.Objs.getD x1.toNat default).Vals).length : Int)))
                          · have hx := And.intro hb hx
                            iterate 5 refine stA ?_
                            exact lfA
                          · have hx := And.intro hb hx
                            iterate 5 refine stA ?_
                            exact lfA
                      · refine hK21 _ ?_
                        refine cdA h rfl (fun h => ?_) (fun h => ?_)
                        · apply AW_seq_k
                          intro K22 hK22
                          have hx := True.intro
                          refine rgA [2] [] ?_
                          refine stA ?_
                          refine enA ?_
                          refine hK22 _ ?_
                          apply AW_ret
                          refine hO19 _ _ (by simp) ?_
                          refine hO14 _ _ (by simp) ?_
                          exact fiA (hKK _ h)
                        · apply AW_skip
                          refine hN19 _ ?_
                          refine hK18 _ ?_
                          have hx := True.intro
                          refine rgA [115, 116, 117] [] ?_
                          iterate 2 refine stA ?_
                          refine enA ?_
                          exact hK15 _ (n15, (IntKind.i64.wrap (x1 + 1))) siA h (Nat.lt_succ_self _)
                    · apply AW_exit
                      refine hE14 _ ?_
                      exact ⟨(), siA, h⟩
                · rintro _ h
                  change F_instr_j2 KK at h
                  unfold F_instr_j2 at h
                  apply AW_seq_k
                  intro K12 hK12
                  have hx := True.intro
                  refine rgA [2] [] ?_
                  refine stA ?_
                  refine enA ?_
                  refine hK12 _ ?_
                  apply AW_ret
                  exact fiA (hKK _ h)

def C_instr : CK1 := pureC (fn1 (cA Lt.Instr.rw) (o1 cB) (fun _ => True) Lt.instr)
theorem c_instr : Con Try.prog 40 C_instr :=
  Con_fn1 (fn := Try.f40) (c := Try.f40.body.getD .skip) (by kernel_rfl) (by kernel_rfl) (by kernel_rfl) (by decide +kernel) (fun g a0_i K hg hp hK => walk_instr g hg a0_i K _ (fun _ h => h) (law_instr a0_i _ hK))
attribute [push_cast] C_instr

end Go.Am
end

section
namespace Go.Am
open Go.Proofs
set_option linter.unusedSimpArgs false
set_option linter.unusedVariables false
set_option maxRecDepth 100000 in
set_option maxHeartbeats 4000000 in
theorem walk_block (g : G) (hg : g.nt = Try.f28.ntmps) (a0_b : Lt.Block) (K : AV → Prop) (KK : (Bool) → Prop) (hKK : ∀ r, KK r → K (o1 cB r) ) (h : F_block a0_b KK) :
    AW Try.prog g (Try.f28.body.getD .skip) (retQ Try.prog [.tmp 2] K) ⟨entryT 0 [.one ((cA Lt.Block.rw).enc a0_b)], []⟩ := by
  have hcs : CT.Ok Try.prog [(14, C_Name), (38, C_showEnd), (39, C_phi), (40, C_instr)] := (CT.cons c_Name (CT.cons c_showEnd (CT.cons c_phi (CT.cons c_instr CT.ok0))))
  have hn : g.nt = 39 := hg
  have hm : Try.prog.follows .mixedOrders = true := by kernel_rfl
  unfold Try.f28
  dsimp only [Option.getD_some]
  unfold F_block at h
  apply AW_seq_k
  intro K1 hK1
  have hx := True.intro
  refine rgA [1] [] ?_
  iterate 2 refine stA ?_
  refine enA ?_
  refine hK1 _ ?_
  apply AW_seq_k
  intro K2 hK2
  apply AW_seq_k
  intro K3 hK3
  have hx := True.intro
  refine rgV [1] [] 16 (.one (.c (.d (.bool ((!(Lt.Name a0_b.Name)) || (!(Lt.showEnd a0_b.End))))))) ?_ ?_
  · clear h
    iterate 5 refine stA ?_
    cases hb : (Lt.Name a0_b.Name)
    · have hx := And.intro hb hx
      iterate 5 refine stA ?_
      exact lfA
    · have hx := And.intro hb hx
      iterate 5 refine stA ?_
      exact lfA
  · refine hK3 _ ?_
    refine cdA h rfl (fun h => ?_) (fun h => ?_)
    · apply AW_seq_k
      intro K4 hK4
      have hx := True.intro
      refine rgA [2] [.loc 1] ?_
      refine stA ?_
      refine enA ?_
      refine hK4 _ ?_
      apply AW_ret
      exact fiA (hKK _ h)
    · apply AW_skip
      refine hK2 _ ?_
      refine AW_joinO [] [1] [] (fun y : Unit => ⟨[(1, .one (.c (.pl ⟨.loc 1, 0, []⟩)))], [(.loc 1, ⟨true, [.d (.str a0_b.Name), .d (.li (a0_b.Phis.map Lt.Phi.enc)), .d (.li (a0_b.Code.map Lt.Instr.enc)), .d (.int .i64 a0_b.End.Kind), .d (.int .i64 a0_b.End.A.Kind), .d (.str a0_b.End.A.S), .d (.int .i64 a0_b.End.A.N), .d (.li (a0_b.End.To.map rS.enc)), .d (.int .i64 a0_b.End.N)]⟩)]⟩) (fun y => F_block_j1 a0_b KK) ?_ ?_
      · apply AW_seq_k
        intro K16 hK16
        have hx := True.intro
        refine rgA [1, 18, 19, 20] [] ?_
        iterate 2 refine stA ?_
        refine stG fun hp => ?_
        refine stA ?_
        refine enA ?_
        have h := h (by assumption)
        refine hK16 _ ?_
        apply AW_block_k
        intro Q17 hN17 hE17 hO17
        obtain ⟨n18, h⟩ := h
        refine AW_loopO [] [1, 18, 19, 20] [] (fun y : Nat × Int => ⟨[(1, .one (.c (.pl ⟨.loc 1, 0, []⟩))), (18, .one (.c (.d (.li (a0_b.Phis.map Lt.Phi.enc))))), (19, .one (.c (.d (.int .i64 (a0_b.Phis.length : Int))))), (20, .one (.c (.d (.int .i64 y.2))))], [(.loc 1, ⟨true, [.d (.str a0_b.Name), .d (.li (a0_b.Phis.map Lt.Phi.enc)), .d (.li (a0_b.Code.map Lt.Instr.enc)), .d (.int .i64 a0_b.End.Kind), .d (.int .i64 a0_b.End.A.Kind), .d (.str a0_b.End.A.S), .d (.int .i64 a0_b.End.A.N), .d (.li (a0_b.End.To.map rS.enc)), .d (.int .i64 a0_b.End.N)]⟩)]⟩) (fun y => F_block_l4 a0_b KK y.1 y.2) (fun y => y.1) (n18, 0) ?_ h ?_
        · exact siA
        clear h
        rintro ⟨n18, x2⟩ h K18 hK18
        cases n18 with
        | zero => exact h.elim
        | succ n18 =>
          change F_block_l4 a0_b KK (n18 + 1) x2 at h
          unfold F_block_l4 at h
          apply AW_seq_k
          intro K19 hK19
          have hx := True.intro
          refine rgA [1, 18, 19, 20, 21] [] ?_
          refine stA ?_
          refine enA ?_
          refine hK19 _ ?_
          apply AW_seq_k
          intro K20 hK20
          refine cdA h rfl (fun h => ?_) (fun h => ?_)
          · apply AW_skip
            refine hK20 _ ?_
            apply AW_seq_k
            intro K21 hK21
            apply AW_block_k
            intro Q22 hN22 hE22 hO22
            apply AW_seq_k
            intro K23 hK23
            obtain ⟨ho1, h⟩ := h
            have hx := True.intro
            have hx := getA Lt.Phi.enc ho1 hx
            refine rgA [1, 4, 18, 19, 20] [] ?_
            iterate 4 refine stA ?_
            refine enA ?_
            refine hK23 _ ?_
            apply AW_seq_k
            intro K24 hK24
            have hx := True.intro
            refine rgA [1, 18, 19, 20, 26] [.loc 4] ?_
            iterate 3 refine stA ?_
            refine enA ?_
            refine hK24 _ ?_
            refine cdA h rfl (fun h => ?_) (fun h => ?_)
            · apply AW_seq_k
              intro K25 hK25
              have hx := True.intro
              refine rgA [2] [.loc 1] ?_
              refine stA ?_
              refine enA ?_
              refine hK25 _ ?_
              apply AW_ret
              refine hO22 _ _ (by simp) ?_
              refine hO17 _ _ (by simp) ?_
              exact fiA (hKK _ h)
            · apply AW_skip
              refine hN22 _ ?_
              refine hK21 _ ?_
              have hx := True.intro
              refine rgA [1, 18, 19, 20] [] ?_
              iterate 2 refine stA ?_
              refine enA ?_
              exact hK18 _ (n18, (IntKind.i64.wrap (x2 + 1))) siA h (Nat.lt_succ_self _)
          · apply AW_exit
            refine hE17 _ ?_
            exact ⟨(), siA, h⟩
      · rintro _ h
        change F_block_j1 a0_b KK at h
        unfold F_block_j1 at h
        refine AW_joinO [] [] [] (fun y : Unit => ⟨[], []⟩) (fun y => F_block_j2 KK) ?_ ?_
        · apply AW_seq_k
          intro K6 hK6
          have hx := True.intro
          refine rgA [29, 30, 31] [.loc 1] ?_
          iterate 2 refine stA ?_
          refine stG fun hp => ?_
          refine stA ?_
          refine enA ?_
          have h := h (by assumption)
          refine hK6 _ ?_
          apply AW_block_k
          intro Q7 hN7 hE7 hO7
          obtain ⟨n8, h⟩ := h
          refine AW_loopO [] [29, 30, 31] [] (fun y : Nat × Int => ⟨[(29, .one (.c (.d (.li (a0_b.Code.map Lt.Instr.enc))))), (30, .one (.c (.d (.int .i64 (a0_b.Code.length : Int))))), (31, .one (.c (.d (.int .i64 y.2))))], []⟩) (fun y => F_block_l3 a0_b KK y.1 y.2) (fun y => y.1) (n8, 0) ?_ h ?_
          · exact siA
          clear h
          rintro ⟨n8, x1⟩ h K8 hK8
          cases n8 with
          | zero => exact h.elim
          | succ n8 =>
            change F_block_l3 a0_b KK (n8 + 1) x1 at h
            unfold F_block_l3 at h
            apply AW_seq_k
            intro K9 hK9
            have hx := True.intro
            refine rgA [29, 30, 31, 32] [] ?_
            refine stA ?_
            refine enA ?_
            refine hK9 _ ?_
            apply AW_seq_k
            intro K10 hK10
            refine cdA h rfl (fun h => ?_) (fun h => ?_)
            · apply AW_skip
              refine hK10 _ ?_
              apply AW_seq_k
              intro K11 hK11
              apply AW_block_k
              intro Q12 hN12 hE12 hO12
              apply AW_seq_k
              intro K13 hK13
              obtain ⟨ho1, h⟩ := h
              have hx := True.intro
              have hx := getA Lt.Instr.enc ho1 hx
              refine rgA [6, 29, 30, 31] [] ?_
              iterate 4 refine stA ?_
              refine enA ?_
              refine hK13 _ ?_
              apply AW_seq_k
              intro K14 hK14
              have hx := True.intro
              refine rgA [29, 30, 31, 37] [.loc 6] ?_
              iterate 3 refine stA ?_
              refine enA ?_
              refine hK14 _ ?_
              refine cdA h rfl (fun h => ?_) (fun h => ?_)
              · apply AW_seq_k
                intro K15 hK15
                have hx := True.intro
                refine rgA [2] [] ?_
                refine stA ?_
                refine enA ?_
                refine hK15 _ ?_
                apply AW_ret
                refine hO12 _ _ (by simp) ?_
                refine hO7 _ _ (by simp) ?_
                exact fiA (hKK _ h)
              · apply AW_skip
                refine hN12 _ ?_
                refine hK11 _ ?_
                have hx := True.intro
                refine rgA [29, 30, 31] [] ?_
                iterate 2 refine stA ?_
                refine enA ?_
                exact hK8 _ (n8, (IntKind.i64.wrap (x1 + 1))) siA h (Nat.lt_succ_self _)
            · apply AW_exit
              refine hE7 _ ?_
              exact ⟨(), siA, h⟩
        · rintro _ h
          change F_block_j2 KK at h
          unfold F_block_j2 at h
          apply AW_seq_k
          intro K5 hK5
          have hx := True.intro
          refine rgA [2] [] ?_
          refine stA ?_
          refine enA ?_
          refine hK5 _ ?_
          apply AW_ret
          exact fiA (hKK _ h)

def C_block : CK1 := pureC (fn1 (cA Lt.Block.rw) (o1 cB) (fun _ => True) Lt.block)
theorem c_block : Con Try.prog 28 C_block :=
  Con_fn1 (fn := Try.f28) (c := Try.f28.body.getD .skip) (by kernel_rfl) (by kernel_rfl) (by kernel_rfl) (by decide +kernel) (fun g a0_b K hg hp hK => walk_block g hg a0_b K _ (fun _ h => h) (law_block a0_b _ hK))
attribute [push_cast] C_block

set_option maxRecDepth 100000 in
set_option maxHeartbeats 4000000 in
theorem walk_showFunction (g : G) (hg : g.nt = Try.f15.ntmps) (a0_f : Lt.Func) (K : AV → Prop) (KK : (Bool) → Prop) (hKK : ∀ r, KK r → K (o1 cB r) ) (h : F_showFunction a0_f KK) :
    AW Try.prog g (Try.f15.body.getD .skip) (retQ Try.prog [.tmp 2] K) ⟨entryT 0 [.one ((cA Lt.Func.rw).enc a0_f)], []⟩ := by
  have hcs : CT.Ok Try.prog [(13, C_typed), (14, C_Name), (24, C_kind), (28, C_block)] := (CT.cons c_typed (CT.cons c_Name (CT.cons c_kind (CT.cons c_block CT.ok0))))
  have hn : g.nt = 74 := hg
  have hm : Try.prog.follows .mixedOrders = true := by kernel_rfl
  unfold Try.f15
  dsimp only [Option.getD_some]
  unfold F_showFunction at h
  apply AW_seq_k
  intro K1 hK1
  have hx := True.intro
  refine rgA [1] [] ?_
  iterate 2 refine stA ?_
  refine enA ?_
  refine hK1 _ ?_
  apply AW_seq_k
  intro K2 hK2
  apply AW_seq_k
  intro K3 hK3
  have hx := True.intro
  refine rgV [1] [] 39 (.one (.c (.d (.bool ((((((!(Lt.Name a0_f.Name)) || (!(Lt.kind a0_f.Result))) || (!(Lt.typed a0_f.Params 6))) || (!(Lt.typed a0_f.Vars 1024))) || (decide ((a0_f.Blocks.length : Int) = 0))) || (decide (256 < (a0_f.Blocks.length : Int)))))))) ?_ ?_
  · clear h
    iterate 5 refine stA ?_
    cases hb : (Lt.Name a0_f.Name)
    · have hx := And.intro hb hx
      iterate 29 refine stA ?_
      exact lfA
    · have hx := And.intro hb hx
      iterate 6 refine stA ?_
      cases hb : (Lt.kind a0_f.Result)
      · have hx := And.intro hb hx
        iterate 23 refine stA ?_
        exact lfA
      · have hx := And.intro hb hx
        iterate 6 refine stA ?_
        cases hb : (Lt.typed a0_f.Params 6)
        · have hx := And.intro hb hx
          iterate 17 refine stA ?_
          exact lfA
        · have hx := And.intro hb hx
          iterate 6 refine stA ?_
          cases hb : (Lt.typed a0_f.Vars 1024)
          · have hx := And.intro hb hx
            iterate 11 refine stA ?_
            exact lfA
          · have hx := And.intro hb hx
            iterate 6 refine stA ?_
            cases hb : (decide ((a0_f.Blocks.length : Int) = 0))
            · have hx := And.intro hb hx
              iterate 5 refine stA ?_
              exact lfA
            · have hx := And.intro hb hx
              iterate 5 refine stA ?_
              exact lfA
  · refine hK3 _ ?_
    refine cdA h rfl (fun h => ?_) (fun h => ?_)
    · apply AW_seq_k
      intro K4 hK4
      have hx := True.intro
      refine rgA [2] [.loc 1] ?_
      refine stA ?_
      refine enA ?_
      refine hK4 _ ?_
      apply AW_ret
      exact fiA (hKK _ h)
    · apply AW_skip
      refine hK2 _ ?_
      apply AW_seq_k
      intro K5 hK5
      have hx := True.intro
      refine rgA [1, 3] [] ?_
      refine stA ?_
      refine enA ?_
      refine hK5 _ ?_
      refine AW_joinO [] [] [] (fun y : Unit => ⟨[], []⟩) (fun y => F_showFunction_j1 KK) ?_ ?_
      · apply AW_seq_k
        intro K7 hK7
        have hx := True.intro
        refine rgA [3, 41, 42, 43] [.loc 1] ?_
        iterate 2 refine stA ?_
        refine stG fun hp => ?_
        refine stA ?_
        refine enA ?_
        have h := h (by assumption)
        refine hK7 _ ?_
        apply AW_block_k
        intro Q8 hN8 hE8 hO8
        obtain ⟨n9, h⟩ := h
        refine AW_loopO [] [3, 41, 42, 43] [] (fun y : Nat × Int × Int => ⟨[(3, .one (.c (.d (.int .i64 y.2.1)))), (41, .one (.c (.d (.li (a0_f.Blocks.map Lt.Block.enc))))), (42, .one (.c (.d (.int .i64 (a0_f.Blocks.length : Int))))), (43, .one (.c (.d (.int .i64 y.2.2))))], []⟩) (fun y => F_showFunction_l2 a0_f KK y.1 y.2.1 y.2.2) (fun y => y.1) (n9, 0, 0) ?_ h ?_
        · exact siA
        clear h
        rintro ⟨n9, x1, x2⟩ h K9 hK9
        cases n9 with
        | zero => exact h.elim
        | succ n9 =>
          change F_showFunction_l2 a0_f KK (n9 + 1) x1 x2 at h
          unfold F_showFunction_l2 at h
          apply AW_seq_k
          intro K10 hK10
          have hx := True.intro
          refine rgA [3, 41, 42, 43, 44] [] ?_
          refine stA ?_
          refine enA ?_
          refine hK10 _ ?_
          apply AW_seq_k
          intro K11 hK11
          refine cdA h rfl (fun h => ?_) (fun h => ?_)
          · apply AW_skip
            refine hK11 _ ?_
            apply AW_seq_k
            intro K12 hK12
            apply AW_block_k
            intro Q13 hN13 hE13 hO13
            apply AW_seq_k
            intro K14 hK14
            obtain ⟨ho1, h⟩ := h
            have hx := True.intro
            have hx := getA Lt.Block.enc ho1 hx
            refine rgA [3, 5, 41, 42, 43] [] ?_
            iterate 4 refine stA ?_
            refine enA ?_
            refine hK14 _ ?_
            apply AW_seq_k
            intro K15 hK15
            apply AW_seq_k
            intro K16 hK16
            have hx := True.intro
            refine rgV [3, 5, 41, 42, 43] [] 56 (.one (.c (.d (.bool ((decide (1024 < (((a0_f.Blocks.getD x2.toNat default).Phis).length : Int))) || (decide (1024 < (((a0_f.Blocks.getD x2.toNat default).Code).length : Int)))))))) ?_ ?_
            · clear h
              iterate 5 refine stA ?_
              cases hb : (decide (1024 < (((a0_f.Blocks.getD x2.toNat default).Phis).length : Int)))
              · have hx := And.intro hb hx
                iterate 5 refine stA ?_
                exact lfA
              · have hx := And.intro hb hx
                iterate 5 refine stA ?_
                exact lfA
            · refine hK16 _ ?_
              refine cdA h rfl (fun h => ?_) (fun h => ?_)
              · apply AW_seq_k
                intro K17 hK17
                have hx := True.intro
                refine rgA [2] [.loc 5] ?_
                refine stA ?_
                refine enA ?_
                refine hK17 _ ?_
                apply AW_ret
                refine hO13 _ _ (by simp) ?_
                refine hO8 _ _ (by simp) ?_
                exact fiA (hKK _ h)
              · apply AW_skip
                refine hK15 _ ?_
                apply AW_seq_k
                intro K18 hK18
                have hx := True.intro
                refine rgA [3, 5, 41, 42, 43] [] ?_
                iterate 3 refine stA ?_
                refine stG fun hp => ?_
                iterate 2 refine stA ?_
                refine stG fun hp => ?_
                iterate 3 refine stA ?_
                refine enA ?_
                have h := h (by assumption)
                have h := h (by assumption)
                refine hK18 _ ?_
                apply AW_seq_k
                intro K19 hK19
                have hx := True.intro
                refine rgV [3, 41, 42, 43] [.loc 5] 72 (.one (.c (.d (.bool ((decide (1024 < (IntKind.i64.wrap (x1 + (IntKind.i64.wrap ((((a0_f.Blocks.getD x2.toNat default).Phis).length : Int) + (((a0_f.Blocks.getD x2.toNat default).Code).length : Int))))))) || (!(Lt.block (Lt.Block.mk ((a0_f.Blocks.getD x2.toNat default).Name) ((a0_f.Blocks.getD x2.toNat default).Phis) ((a0_f.Blocks.getD x2.toNat default).Code) (Lt.Term.mk (((a0_f.Blocks.getD x2.toNat default).End).Kind) (((a0_f.Blocks.getD x2.toNat default).End).A) (((a0_f.Blocks.getD x2.toNat default).End).To) (((a0_f.Blocks.getD x2.toNat default).End).N)))))))))) ?_ ?_
                · clear h
                  iterate 3 refine stA ?_
                  cases hb : (decide (1024 < (IntKind.i64.wrap (x1 + (IntKind.i64.wrap ((((a0_f.Blocks.getD x2.toNat default).Phis).length : Int) + (((a0_f.Blocks.getD x2.toNat default).Code).length : Int)))))))
                  · have hx := And.intro hb hx
                    iterate 4 refine stA ?_
                    exact lfA
                  · have hx := And.intro hb hx
                    iterate 4 refine stA ?_
                    exact lfA
                · refine hK19 _ ?_
                  refine cdA h rfl (fun h => ?_) (fun h => ?_)
                  · apply AW_seq_k
                    intro K20 hK20
                    have hx := True.intro
                    refine rgA [2] [] ?_
                    refine stA ?_
                    refine enA ?_
                    refine hK20 _ ?_
                    apply AW_ret
                    refine hO13 _ _ (by simp) ?_
                    refine hO8 _ _ (by simp) ?_
                    exact fiA (hKK _ h)
                  · apply AW_skip
                    refine hN13 _ ?_
                    refine hK12 _ ?_
                    have hx := True.intro
                    refine rgA [3, 41, 42, 43] [] ?_
                    iterate 2 refine stA ?_
                    refine enA ?_
                    exact hK9 _ (n9, (IntKind.i64.wrap (x1 + (IntKind.i64.wrap ((((a0_f.Blocks.getD x2.toNat default).Phis).length : Int) + (((a0_f.Blocks.getD x2.toNat default).Code).length : Int))))), (IntKind.i64.wrap (x2 + 1))) siA h (Nat.lt_succ_self _)
          · apply AW_exit
            refine hE8 _ ?_
            exact ⟨(), siA, h⟩
      · rintro _ h
        change F_showFunction_j1 KK at h
        unfold F_showFunction_j1 at h
        apply AW_seq_k
        intro K6 hK6
        have hx := True.intro
        refine rgA [2] [] ?_
        refine stA ?_
        refine enA ?_
        refine hK6 _ ?_
        apply AW_ret
        exact fiA (hKK _ h)

def C_showFunction : CK1 := pureC (fn1 (cA Lt.Func.rw) (o1 cB) (fun _ => True) Lt.showFunction)
theorem c_showFunction : Con Try.prog 15 C_showFunction :=
  Con_fn1 (fn := Try.f15) (c := Try.f15.body.getD .skip) (by kernel_rfl) (by kernel_rfl) (by kernel_rfl) (by decide +kernel) (fun g a0_f K hg hp hK => walk_showFunction g hg a0_f K _ (fun _ h => h) (law_showFunction a0_f _ hK))
attribute [push_cast] C_showFunction

set_option maxRecDepth 100000 in
set_option maxHeartbeats 4000000 in
theorem walk_showRight (g : G) (hg : g.nt = Try.f7.ntmps) (a0_p : Lt.Program) (K : AV → Prop) (KK : (Bool) → Prop) (hKK : ∀ r, KK r → K (o1 cB r) ) (h : F_showRight a0_p KK) :
    AW Try.prog g (Try.f7.body.getD .skip) (retQ Try.prog [.tmp 2] K) ⟨entryT 0 [.one ((cA Lt.Program.rw).enc a0_p)], []⟩ := by
  have hcs : CT.Ok Try.prog [(13, C_typed), (14, C_Name), (15, C_showFunction)] := (CT.cons c_typed (CT.cons c_Name (CT.cons c_showFunction CT.ok0)))
  have hn : g.nt = 82 := hg
  have hm : Try.prog.follows .mixedOrders = true := by kernel_rfl
  unfold Try.f7
  dsimp only [Option.getD_some]
  unfold F_showRight at h
  apply AW_seq_k
  intro K1 hK1
  have hx := True.intro
  refine rgA [1] [] ?_
  iterate 2 refine stA ?_
  refine enA ?_
  refine hK1 _ ?_
  apply AW_seq_k
  intro K2 hK2
  apply AW_seq_k
  intro K3 hK3
  have hx := True.intro
  refine rgV [1] [] 30 (.one (.c (.d (.bool ((((decide (8 < (a0_p.Classes.length : Int))) || (decide (8 < (a0_p.Externs.length : Int)))) || (decide (8 < (a0_p.Funcs.length : Int)))) || (!(Lt.typed a0_p.Globals 8))))))) ?_ ?_
  · clear h
    iterate 5 refine stA ?_
    cases hb : (decide (8 < (a0_p.Classes.length : Int)))
    · have hx := And.intro hb hx
      iterate 6 refine stA ?_
      cases hb : (decide (8 < (a0_p.Externs.length : Int)))
      · have hx := And.intro hb hx
        iterate 6 refine stA ?_
        cases hb : (decide (8 < (a0_p.Funcs.length : Int)))
        · have hx := And.intro hb hx
          iterate 5 refine stA ?_
          exact lfA
        · have hx := And.intro hb hx
          iterate 5 refine stA ?_
          exact lfA
      · have hx := And.intro hb hx
        iterate 11 refine stA ?_
        exact lfA
    · have hx := And.intro hb hx
      iterate 17 refine stA ?_
      exact lfA
  · refine hK3 _ ?_
    refine cdA h rfl (fun h => ?_) (fun h => ?_)
    · apply AW_seq_k
      intro K4 hK4
      have hx := True.intro
      refine rgA [2] [.loc 1] ?_
      refine stA ?_
      refine enA ?_
      refine hK4 _ ?_
      apply AW_ret
      exact fiA (hKK _ h)
    · apply AW_skip
      refine hK2 _ ?_
      refine AW_joinO [] [1] [] (fun y : Unit => ⟨[(1, .one (.c (.pl ⟨.loc 1, 0, []⟩)))], [(.loc 1, ⟨true, [.d (.bool a0_p.SSA), .d (.li (a0_p.Classes.map Lt.Class.enc)), .d (.li (a0_p.Globals.map Lt.Var.enc)), .d (.li (a0_p.Externs.map Lt.Extern.enc)), .d (.li (a0_p.Funcs.map Lt.Func.enc))]⟩)]⟩) (fun y => F_showRight_j1 a0_p KK) ?_ ?_
      · apply AW_seq_k
        intro K26 hK26
        have hx := True.intro
        refine rgA [1, 32, 33, 34] [] ?_
        iterate 2 refine stA ?_
        refine stG fun hp => ?_
        refine stA ?_
        refine enA ?_
        have h := h (by assumption)
        refine hK26 _ ?_
        apply AW_block_k
        intro Q27 hN27 hE27 hO27
        obtain ⟨n28, h⟩ := h
        refine AW_loopO [] [1, 32, 33, 34] [] (fun y : Nat × Int => ⟨[(1, .one (.c (.pl ⟨.loc 1, 0, []⟩))), (32, .one (.c (.d (.li (a0_p.Classes.map Lt.Class.enc))))), (33, .one (.c (.d (.int .i64 (a0_p.Classes.length : Int))))), (34, .one (.c (.d (.int .i64 y.2))))], [(.loc 1, ⟨true, [.d (.bool a0_p.SSA), .d (.li (a0_p.Classes.map Lt.Class.enc)), .d (.li (a0_p.Globals.map Lt.Var.enc)), .d (.li (a0_p.Externs.map Lt.Extern.enc)), .d (.li (a0_p.Funcs.map Lt.Func.enc))]⟩)]⟩) (fun y => F_showRight_l6 a0_p KK y.1 y.2) (fun y => y.1) (n28, 0) ?_ h ?_
        · exact siA
        clear h
        rintro ⟨n28, x3⟩ h K28 hK28
        cases n28 with
        | zero => exact h.elim
        | succ n28 =>
          change F_showRight_l6 a0_p KK (n28 + 1) x3 at h
          unfold F_showRight_l6 at h
          apply AW_seq_k
          intro K29 hK29
          have hx := True.intro
          refine rgA [1, 32, 33, 34, 35] [] ?_
          refine stA ?_
          refine enA ?_
          refine hK29 _ ?_
          apply AW_seq_k
          intro K30 hK30
          refine cdA h rfl (fun h => ?_) (fun h => ?_)
          · apply AW_skip
            refine hK30 _ ?_
            apply AW_seq_k
            intro K31 hK31
            apply AW_block_k
            intro Q32 hN32 hE32 hO32
            apply AW_seq_k
            intro K33 hK33
            obtain ⟨ho1, h⟩ := h
            have hx := True.intro
            have hx := getA Lt.Class.enc ho1 hx
            refine rgA [1, 4, 32, 33, 34] [] ?_
            iterate 4 refine stA ?_
            refine enA ?_
            refine hK33 _ ?_
            apply AW_seq_k
            intro K34 hK34
            have hx := True.intro
            refine rgV [1, 32, 33, 34] [.loc 4] 47 (.one (.c (.d (.bool ((!(Lt.Name ((a0_p.Classes.getD x3.toNat default).Name))) || (!(Lt.typed ((a0_p.Classes.getD x3.toNat default).Fields) 8))))))) ?_ ?_
            · clear h
              iterate 5 refine stA ?_
              cases hb : (Lt.Name ((a0_p.Classes.getD x3.toNat default).Name))
              · have hx := And.intro hb hx
                iterate 5 refine stA ?_
                exact lfA
              · have hx := And.intro hb hx
                iterate 5 refine stA ?_
                exact lfA
            · refine hK34 _ ?_
              refine cdA h rfl (fun h => ?_) (fun h => ?_)
              · apply AW_seq_k
                intro K35 hK35
                have hx := True.intro
                refine rgA [2] [.loc 1] ?_
                refine stA ?_
                refine enA ?_
                refine hK35 _ ?_
                apply AW_ret
                refine hO32 _ _ (by simp) ?_
                refine hO27 _ _ (by simp) ?_
                exact fiA (hKK _ h)
              · apply AW_skip
                refine hN32 _ ?_
                refine hK31 _ ?_
                have hx := True.intro
                refine rgA [1, 32, 33, 34] [] ?_
                iterate 2 refine stA ?_
                refine enA ?_
                exact hK28 _ (n28, (IntKind.i64.wrap (x3 + 1))) siA h (Nat.lt_succ_self _)
          · apply AW_exit
            refine hE27 _ ?_
            exact ⟨(), siA, h⟩
      · rintro _ h
        change F_showRight_j1 a0_p KK at h
        unfold F_showRight_j1 at h
        refine AW_joinO [] [1] [] (fun y : Unit => ⟨[(1, .one (.c (.pl ⟨.loc 1, 0, []⟩)))], [(.loc 1, ⟨true, [.d (.bool a0_p.SSA), .d (.li (a0_p.Classes.map Lt.Class.enc)), .d (.li (a0_p.Globals.map Lt.Var.enc)), .d (.li (a0_p.Externs.map Lt.Extern.enc)), .d (.li (a0_p.Funcs.map Lt.Func.enc))]⟩)]⟩) (fun y => F_showRight_j2 a0_p KK) ?_ ?_
        · apply AW_seq_k
          intro K16 hK16
          have hx := True.intro
          refine rgA [1, 50, 51, 52] [] ?_
          iterate 2 refine stA ?_
          refine stG fun hp => ?_
          refine stA ?_
          refine enA ?_
          have h := h (by assumption)
          refine hK16 _ ?_
          apply AW_block_k
          intro Q17 hN17 hE17 hO17
          obtain ⟨n18, h⟩ := h
          refine AW_loopO [] [1, 50, 51, 52] [] (fun y : Nat × Int => ⟨[(1, .one (.c (.pl ⟨.loc 1, 0, []⟩))), (50, .one (.c (.d (.li (a0_p.Externs.map Lt.Extern.enc))))), (51, .one (.c (.d (.int .i64 (a0_p.Externs.length : Int))))), (52, .one (.c (.d (.int .i64 y.2))))], [(.loc 1, ⟨true, [.d (.bool a0_p.SSA), .d (.li (a0_p.Classes.map Lt.Class.enc)), .d (.li (a0_p.Globals.map Lt.Var.enc)), .d (.li (a0_p.Externs.map Lt.Extern.enc)), .d (.li (a0_p.Funcs.map Lt.Func.enc))]⟩)]⟩) (fun y => F_showRight_l5 a0_p KK y.1 y.2) (fun y => y.1) (n18, 0) ?_ h ?_
          · exact siA
          clear h
          rintro ⟨n18, x2⟩ h K18 hK18
          cases n18 with
          | zero => exact h.elim
          | succ n18 =>
            change F_showRight_l5 a0_p KK (n18 + 1) x2 at h
            unfold F_showRight_l5 at h
            apply AW_seq_k
            intro K19 hK19
            have hx := True.intro
            refine rgA [1, 50, 51, 52, 53] [] ?_
            refine stA ?_
            refine enA ?_
            refine hK19 _ ?_
            apply AW_seq_k
            intro K20 hK20
            refine cdA h rfl (fun h => ?_) (fun h => ?_)
            · apply AW_skip
              refine hK20 _ ?_
              apply AW_seq_k
              intro K21 hK21
              apply AW_block_k
              intro Q22 hN22 hE22 hO22
              apply AW_seq_k
              intro K23 hK23
              obtain ⟨ho1, h⟩ := h
              have hx := True.intro
              have hx := getA Lt.Extern.enc ho1 hx
              refine rgA [1, 6, 50, 51, 52] [] ?_
              iterate 4 refine stA ?_
              refine enA ?_
              refine hK23 _ ?_
              apply AW_seq_k
              intro K24 hK24
              have hx := True.intro
              refine rgV [1, 50, 51, 52] [.loc 6] 69 (.one (.c (.d (.bool (((!(Lt.Name ((a0_p.Externs.getD x2.toNat default).Name))) || (decide ((a0_p.Externs.getD x2.toNat default).N < 0))) || (decide (8 < (a0_p.Externs.getD x2.toNat default).N))))))) ?_ ?_
              · clear h
                iterate 5 refine stA ?_
                cases hb : (Lt.Name ((a0_p.Externs.getD x2.toNat default).Name))
                · have hx := And.intro hb hx
                  iterate 9 refine stA ?_
                  exact lfA
                · have hx := And.intro hb hx
                  iterate 5 refine stA ?_
                  cases hb : (decide ((a0_p.Externs.getD x2.toNat default).N < 0))
                  · have hx := And.intro hb hx
                    iterate 4 refine stA ?_
                    exact lfA
                  · have hx := And.intro hb hx
                    iterate 4 refine stA ?_
                    exact lfA
              · refine hK24 _ ?_
                refine cdA h rfl (fun h => ?_) (fun h => ?_)
                · apply AW_seq_k
                  intro K25 hK25
                  have hx := True.intro
                  refine rgA [2] [.loc 1] ?_
                  refine stA ?_
                  refine enA ?_
                  refine hK25 _ ?_
                  apply AW_ret
                  refine hO22 _ _ (by simp) ?_
                  refine hO17 _ _ (by simp) ?_
                  exact fiA (hKK _ h)
                · apply AW_skip
                  refine hN22 _ ?_
                  refine hK21 _ ?_
                  have hx := True.intro
                  refine rgA [1, 50, 51, 52] [] ?_
                  iterate 2 refine stA ?_
                  refine enA ?_
                  exact hK18 _ (n18, (IntKind.i64.wrap (x2 + 1))) siA h (Nat.lt_succ_self _)
            · apply AW_exit
              refine hE17 _ ?_
              exact ⟨(), siA, h⟩
        · rintro _ h
          change F_showRight_j2 a0_p KK at h
          unfold F_showRight_j2 at h
          refine AW_joinO [] [] [] (fun y : Unit => ⟨[], []⟩) (fun y => F_showRight_j3 KK) ?_ ?_
          · apply AW_seq_k
            intro K6 hK6
            have hx := True.intro
            refine rgA [72, 73, 74] [.loc 1] ?_
            iterate 2 refine stA ?_
            refine stG fun hp => ?_
            refine stA ?_
            refine enA ?_
            have h := h (by assumption)
            refine hK6 _ ?_
            apply AW_block_k
            intro Q7 hN7 hE7 hO7
            obtain ⟨n8, h⟩ := h
            refine AW_loopO [] [72, 73, 74] [] (fun y : Nat × Int => ⟨[(72, .one (.c (.d (.li (a0_p.Funcs.map Lt.Func.enc))))), (73, .one (.c (.d (.int .i64 (a0_p.Funcs.length : Int))))), (74, .one (.c (.d (.int .i64 y.2))))], []⟩) (fun y => F_showRight_l4 a0_p KK y.1 y.2) (fun y => y.1) (n8, 0) ?_ h ?_
            · exact siA
            clear h
            rintro ⟨n8, x1⟩ h K8 hK8
            cases n8 with
            | zero => exact h.elim
            | succ n8 =>
              change F_showRight_l4 a0_p KK (n8 + 1) x1 at h
              unfold F_showRight_l4 at h
              apply AW_seq_k
              intro K9 hK9
              have hx := True.intro
              refine rgA [72, 73, 74, 75] [] ?_
              refine stA ?_
              refine enA ?_
              refine hK9 _ ?_
              apply AW_seq_k
              intro K10 hK10
              refine cdA h rfl (fun h => ?_) (fun h => ?_)
              · apply AW_skip
                refine hK10 _ ?_
                apply AW_seq_k
                intro K11 hK11
                apply AW_block_k
                intro Q12 hN12 hE12 hO12
                apply AW_seq_k
                intro K13 hK13
                obtain ⟨ho1, h⟩ := h
                have hx := True.intro
                have hx := getA Lt.Func.enc ho1 hx
                refine rgA [8, 72, 73, 74] [] ?_
                iterate 4 refine stA ?_
                refine enA ?_
                refine hK13 _ ?_
                apply AW_seq_k
                intro K14 hK14
                have hx := True.intro
                refine rgA [72, 73, 74, 80] [.loc 8] ?_
                iterate 3 refine stA ?_
                refine enA ?_
                refine hK14 _ ?_
                refine cdA h rfl (fun h => ?_) (fun h => ?_)
                · apply AW_seq_k
                  intro K15 hK15
                  have hx := True.intro
                  refine rgA [2] [] ?_
                  refine stA ?_
                  refine enA ?_
                  refine hK15 _ ?_
                  apply AW_ret
                  refine hO12 _ _ (by simp) ?_
                  refine hO7 _ _ (by simp) ?_
                  exact fiA (hKK _ h)
                · apply AW_skip
                  refine hN12 _ ?_
                  refine hK11 _ ?_
                  have hx := True.intro
                  refine rgA [72, 73, 74] [] ?_
                  iterate 2 refine stA ?_
                  refine enA ?_
                  exact hK8 _ (n8, (IntKind.i64.wrap (x1 + 1))) siA h (Nat.lt_succ_self _)
              · apply AW_exit
                refine hE7 _ ?_
                exact ⟨(), siA, h⟩
          · rintro _ h
            change F_showRight_j3 KK at h
            unfold F_showRight_j3 at h
            apply AW_seq_k
            intro K5 hK5
            have hx := True.intro
            refine rgA [2] [] ?_
            refine stA ?_
            refine enA ?_
            refine hK5 _ ?_
            apply AW_ret
            exact fiA (hKK _ h)

def C_showRight : CK1 := pureC (fn1 (cA Lt.Program.rw) (o1 cB) (fun _ => True) Lt.showRight)
theorem c_showRight : Con Try.prog 7 C_showRight :=
  Con_fn1 (fn := Try.f7) (c := Try.f7.body.getD .skip) (by kernel_rfl) (by kernel_rfl) (by kernel_rfl) (by decide +kernel) (fun g a0_p K hg hp hK => walk_showRight g hg a0_p K _ (fun _ h => h) (law_showRight a0_p _ hK))
attribute [push_cast] C_showRight

set_option maxRecDepth 100000 in
set_option maxHeartbeats 4000000 in
theorem walk_sheetLine (g : G) (hg : g.nt = Try.f16.ntmps) (a0_s : Lt.Sheet) (a1_words : List (List UInt8)) (K : AV → List T → Prop) (KK : (Unit × Lt.Sheet) → Prop) (hKK : ∀ r, KK r → K ((fun _ => .tup []) r.1) (Lt.Sheet.cs.enc r.2)) (h : F_sheetLine a0_s a1_words KK) :
    AW Try.prog g (Try.f16.body.getD .skip) (retP 0 Try.prog [] K) ⟨entryT 0 [.one (.c (.pl ⟨.out 0, 0, []⟩)), .one ((cL rS).enc a1_words)], [(.out 0, ⟨true, Lt.Sheet.cs.enc a0_s⟩)]⟩ := by
  have hcs : CT.Ok Try.prog [] := CT.ok0
  have hn : g.nt = 15 := hg
  have hm : Try.prog.follows .mixedOrders = true := by kernel_rfl
  unfold Try.f16
  dsimp only [Option.getD_some]
  unfold F_sheetLine at h
  obtain ⟨ho1, h⟩ := h
  have hx := True.intro
  have hx := useA ho1.1 (useA ho1.2 hx)
  have hx := And.intro (show a0_s.l.map Lt.Line.enc ++ [[.int .i64 0, .li (a1_words.map rS.enc)]] = ((a0_s.l ++ [(Lt.Line.mk 0 a1_words)])).map Lt.Line.enc from by first | rfl | (simp only [List.map_append]; rfl)) hx
  refine rgA [] [.gh 11, .gh 12] ?_
  iterate 12 refine stA ?_
  refine enA ?_
  exact fiA (hKK _ h)

def C_sheetLine : CK1   := ptrC 0 (fp1 Lt.Sheet.cs (cL rS) (fun _ => .tup []) (Lt.preLine) Lt.sheetLine)
theorem c_sheetLine : Con Try.prog 16 C_sheetLine :=
  Con_fp1 (c := Lt.Sheet.cs) (fn := Try.f16) (co := Try.f16.body.getD .skip) (by kernel_rfl) (by kernel_rfl) (by kernel_rfl) (by decide +kernel) (fun g a0_s a1_words K hg hp hK => walk_sheetLine g hg a0_s a1_words K _ (fun _ h => h) (law_sheetLine a0_s a1_words hp _ hK))
attribute [push_cast] C_sheetLine

set_option maxRecDepth 100000 in
set_option maxHeartbeats 4000000 in
theorem walk_sheetVars (g : G) (hg : g.nt = Try.f17.ntmps) (a0_s : Lt.Sheet) (a1_first : List UInt8) (a2_l : List Lt.Var) (K : AV → List T → Prop) (KK : (Unit × Lt.Sheet) → Prop) (hKK : ∀ r, KK r → K ((fun _ => .tup []) r.1) (Lt.Sheet.cs.enc r.2)) (h : F_sheetVars a0_s a1_first a2_l KK) :
    AW Try.prog g (Try.f17.body.getD .skip) (retP 0 Try.prog [] K) ⟨entryT 0 [.one (.c (.pl ⟨.out 0, 0, []⟩)), .one (cS.enc a1_first), .one ((cL Lt.Var.rw).enc a2_l)], [(.out 0, ⟨true, Lt.Sheet.cs.enc a0_s⟩)]⟩ := by
  have hcs : CT.Ok Try.prog [(16, C_sheetLine)] := (CT.cons c_sheetLine CT.ok0)
  have hn : g.nt = 23 := hg
  have hm : Try.prog.follows .mixedOrders = true := by kernel_rfl
  unfold Try.f17
  dsimp only [Option.getD_some]
  unfold F_sheetVars at h
  apply AW_seq_k
  intro K1 hK1
  have hx := True.intro
  refine rgA [0, 1, 8, 9, 10] [] ?_
  refine stA ?_
  refine stG fun hp => ?_
  refine stA ?_
  refine enA ?_
  have h := h (by assumption)
  refine hK1 _ ?_
  apply AW_block_k
  intro Q2 hN2 hE2 hO2
  obtain ⟨n3, h⟩ := h
  refine AW_loopO [] [0, 1, 8, 9, 10] [] (fun y : Nat × Int × List Lt.Line => ⟨[(0, .one (.c (.pl ⟨.out 0, 0, []⟩))), (1, .one (.c (.d (.str a1_first)))), (8, .one (.c (.d (.li (a2_l.map Lt.Var.enc))))), (9, .one (.c (.d (.int .i64 (a2_l.length : Int))))), (10, .one (.c (.d (.int .i64 y.2.1))))], [(.out 0, ⟨true, [.ow [.fr, .fr] (y.2.2.map Lt.Line.enc)]⟩)]⟩) (fun y => F_sheetVars_l1 a1_first a2_l KK y.1 y.2.1 y.2.2) (fun y => y.1) (n3, 0, a0_s.l) ?_ h ?_
  · exact siA
  clear h
  rintro ⟨n3, x1, x2⟩ h K3 hK3
  cases n3 with
  | zero => exact h.elim
  | succ n3 =>
    change F_sheetVars_l1 a1_first a2_l KK (n3 + 1) x1 x2 at h
    unfold F_sheetVars_l1 at h
    apply AW_seq_k
    intro K4 hK4
    have hx := True.intro
    refine rgA [0, 1, 8, 9, 10, 11] [] ?_
    refine stA ?_
    refine enA ?_
    refine hK4 _ ?_
    apply AW_seq_k
    intro K5 hK5
    refine cdA h rfl (fun h => ?_) (fun h => ?_)
    · apply AW_skip
      refine hK5 _ ?_
      apply AW_seq_k
      intro K6 hK6
      apply AW_block_k
      intro Q7 hN7 hE7 hO7
      apply AW_seq_k
      intro K8 hK8
      obtain ⟨ho1, h⟩ := h
      have hx := True.intro
      have hx := getA Lt.Var.enc ho1 hx
      refine rgA [0, 1, 7, 8, 9, 10] [] ?_
      iterate 4 refine stA ?_
      refine enA ?_
      refine hK8 _ ?_
      obtain ⟨ho1, h⟩ := h
      have hx := True.intro
      have hx := useA ho1 hx
      refine rgA [0, 1, 8, 9, 10] [.gh 20, .loc 7] ?_
      iterate 8 refine stA ?_
      refine enA ?_
      refine hN7 _ ?_
      refine hK6 _ ?_
      have hx := True.intro
      refine rgA [0, 1, 8, 9, 10] [] ?_
      iterate 2 refine stA ?_
      refine enA ?_
      exact hK3 _ (n3, (IntKind.i64.wrap (x1 + 1)), ((Lt.sheetLine (Lt.Sheet.mk x2) [a1_first, (a2_l.getD x1.toNat default).Name, (a2_l.getD x1.toNat default).Type_]).2).l) siA h (Nat.lt_succ_self _)
    · apply AW_exit
      refine hE2 _ ?_
      exact fiA (hKK _ h)

def C_sheetVars : CK1   := ptrC 0 (fp2 Lt.Sheet.cs cS (cL Lt.Var.rw) (fun _ => .tup []) (Lt.preVars) Lt.sheetVars)
theorem c_sheetVars : Con Try.prog 17 C_sheetVars :=
  Con_fp2 (c := Lt.Sheet.cs) (fn := Try.f17) (co := Try.f17.body.getD .skip) (by kernel_rfl) (by kernel_rfl) (by kernel_rfl) (by decide +kernel) (fun g a0_s a1_first a2_l K hg hp hK => walk_sheetVars g hg a0_s a1_first a2_l K _ (fun _ h => h) (law_sheetVars a0_s a1_first a2_l hp _ hK))
attribute [push_cast] C_sheetVars

set_option maxRecDepth 100000 in
set_option maxHeartbeats 4000000 in
theorem walk_numDigit (g : G) (hg : g.nt = Try.f41.ntmps) (a0_n : Int) (K : AV → Prop) (KK : (Int) → Prop) (hKK : ∀ r, KK r → K (o1 (cI .u8) r) ) (h : F_numDigit a0_n KK) :
    AW Try.prog g (Try.f41.body.getD .skip) (retQ Try.prog [.tmp 2] K) ⟨entryT 0 [.one ((cI .i64).enc a0_n)], []⟩ := by
  have hcs : CT.Ok Try.prog [] := CT.ok0
  have hn : g.nt = 10 := hg
  have hm : Try.prog.follows .mixedOrders = true := by kernel_rfl
  unfold Try.f41
  dsimp only [Option.getD_some]
  unfold F_numDigit at h
  apply AW_seq_k
  intro K1 hK1
  have hx := True.intro
  refine rgA [0] [] ?_
  refine stA ?_
  refine enA ?_
  refine hK1 _ ?_
  refine AW_joinO [] [0] [] (fun y : Int => ⟨[(0, .one (.c (.d (.int .i64 y))))], []⟩) (fun y => F_numDigit_j1 y KK) ?_ ?_
  · apply AW_seq_k
    intro K3 hK3
    have hx := True.intro
    refine rgA [0, 4] [] ?_
    iterate 2 refine stA ?_
    refine enA ?_
    refine hK3 _ ?_
    refine cdA h rfl (fun h => ?_) (fun h => ?_)
    · have hx := True.intro
      refine rgA [0] [] ?_
      iterate 3 refine stA ?_
      refine enA ?_
      exact ⟨(IntKind.i64.wrap (0 - a0_n)), siA, h⟩
    · apply AW_skip
      exact ⟨a0_n, siA, h⟩
  · rintro x1 h
    change F_numDigit_j1 x1 KK at h
    unfold F_numDigit_j1 at h
    apply AW_seq_k
    intro K2 hK2
    have hx := True.intro
    refine rgA [2] [] ?_
    iterate 4 refine stA ?_
    refine enA ?_
    refine hK2 _ ?_
    apply AW_ret
    exact fiA (hKK _ h)

def C_numDigit : CK1 := pureC (fn1 (cI .i64) (o1 (cI .u8)) (fun _ => True) Lt.numDigit)
theorem c_numDigit : Con Try.prog 41 C_numDigit :=
  Con_fn1 (fn := Try.f41) (c := Try.f41.body.getD .skip) (by kernel_rfl) (by kernel_rfl) (by kernel_rfl) (by decide +kernel) (fun g a0_n K hg hp hK => walk_numDigit g hg a0_n K _ (fun _ h => h) (law_numDigit a0_n _ hK))
attribute [push_cast] C_numDigit

set_option maxRecDepth 100000 in
set_option maxHeartbeats 4000000 in
theorem walk_numPut (g : G) (hg : g.nt = Try.f29.ntmps) (a0_n : Int) (K : AV → Prop) (KK : (List UInt8) → Prop) (hKK : ∀ r, KK r → K (o1 cS r) ) (h : F_numPut a0_n KK) :
    AW Try.prog g (Try.f29.body.getD .skip) (retQ Try.prog [.tmp 2] K) ⟨entryT 0 [.one ((cI .i64).enc a0_n)], []⟩ := by
  have hcs : CT.Ok Try.prog [(41, C_numDigit)] := (CT.cons c_numDigit CT.ok0)
  have hn : g.nt = 27 := hg
  have hm : Try.prog.follows .mixedOrders = true := by kernel_rfl
  unfold Try.f29
  dsimp only [Option.getD_some]
  unfold F_numPut at h
  apply AW_seq_k
  intro K1 hK1
  have hx := True.intro
  refine rgA [0] [] ?_
  refine stA ?_
  refine enA ?_
  refine hK1 _ ?_
  apply AW_seq_k
  intro K2 hK2
  have hx := True.intro
  refine rgA [0, 3] [] ?_
  refine stA ?_
  refine enA ?_
  refine hK2 _ ?_
  apply AW_seq_k
  intro K3 hK3
  have hx := True.intro
  refine rgA [0, 3, 4] [] ?_
  refine stA ?_
  refine enA ?_
  refine hK3 _ ?_
  refine AW_joinO [] [0, 3, 4] [] (fun y : Int × List Int => ⟨[(0, .one (.c (.d (.int .i64 a0_n)))), (3, .one (.c (.pl ⟨.loc 3, 0, []⟩))), (4, .one (.c (.d (.int .i64 y.1))))], [(.loc 3, ⟨true, y.2.map (tI .u8)⟩)]⟩) (fun y => F_numPut_j1 a0_n y.1 y.2 KK) ?_ ?_
  · apply AW_seq_k
    intro K7 hK7
    have hx := True.intro
    refine rgA [0, 3, 4, 5] [] ?_
    iterate 2 refine stA ?_
    refine enA ?_
    refine hK7 _ ?_
    apply AW_block_k
    intro Q8 hN8 hE8 hO8
    obtain ⟨n9, h⟩ := h
    refine AW_loopO [] [0, 3, 4, 5] [] (fun y : Nat × Int × Int × List Int => ⟨[(0, .one (.c (.d (.int .i64 a0_n)))), (3, .one (.c (.pl ⟨.loc 3, 0, []⟩))), (4, .one (.c (.d (.int .i64 y.2.1)))), (5, .one (.c (.d (.int .i64 y.2.2.1))))], [(.loc 3, ⟨true, y.2.2.2.map (tI .u8)⟩)]⟩) (fun y => F_numPut_l3 a0_n KK y.1 y.2.1 y.2.2.1 y.2.2.2) (fun y => y.1) (n9, 20, a0_n, [0, 0, 0, 0, 0, 0, 0, 0, 0, 0, 0, 0, 0, 0, 0, 0, 0, 0, 0, 0]) ?_ h ?_
    · first | exact siA (by rfl) | exact siA
    clear h
    rintro ⟨n9, x5, x6, x7⟩ h K9 hK9
    cases n9 with
    | zero => exact h.elim
    | succ n9 =>
      change F_numPut_l3 a0_n KK (n9 + 1) x5 x6 x7 at h
      unfold F_numPut_l3 at h
      apply AW_block_k
      intro Q10 hN10 hE10 hO10
      apply AW_seq_k
      intro K11 hK11
      have hx := True.intro
      refine rgA [0, 3, 4, 5] [] ?_
      iterate 3 refine stA ?_
      refine enA ?_
      refine hK11 _ ?_
      apply AW_seq_k
      intro K12 hK12
      obtain ⟨ho1, ho2, h⟩ := h
      have hx := True.intro
      have hx := And.intro (show ¬ (10 : Int) = 0 from by decide) hx
      have hx := useA ho2.1 hx
      have hx := useA (show (IntKind.i64.wrap (x5 - 1)) < ((20 : Nat) : Int) from ho2.2.1) hx
      have hx := And.intro ho2.2.2 hx
      have hx := And.intro (show (IntKind.i64.wrap (x5 - 1)).toNat < 20 from by omega) hx
      have hx := And.intro (show 0 < 20 - (IntKind.i64.wrap (x5 - 1)).toNat from by omega) hx
      have hx := And.intro (show (x7.map (tI .u8))[(IntKind.i64.wrap (x5 - 1)).toNat]? = some (tI .u8 (x7.getD (IntKind.i64.wrap (x5 - 1)).toNat default)) from get_map (tI .u8) x7 (by omega)) hx
      refine rgA [0, 3, 4, 5] [] ?_
      iterate 6 refine stA ?_
      refine enA ?_
      refine hK12 _ ?_
      apply AW_seq_k
      intro K13 hK13
      obtain ⟨ho1, h⟩ := h
      have hx := True.intro
      have hx := And.intro (show ¬ (10 : Int) = 0 from by decide) hx
      refine rgA [0, 3, 4, 5] [] ?_
      iterate 3 refine stA ?_
      refine enA ?_
      refine hK13 _ ?_
      apply AW_seq_k
      intro K14 hK14
      have hx := True.intro
      refine rgA [0, 3, 4, 5, 17] [] ?_
      iterate 2 refine stA ?_
      refine enA ?_
      refine hK14 _ ?_
      refine cdA h rfl (fun h => ?_) (fun h => ?_)
      · apply AW_exit
        refine hO10 _ _ (by simp) ?_
        refine hE8 _ ?_
        exact ⟨((IntKind.i64.wrap (x5 - 1)), (x7.set (IntKind.i64.wrap (x5 - 1)).toNat (Lt.numDigit (Int.tmod x6 10)))), siA, h⟩
      · apply AW_skip
        refine hN10 _ ?_
        exact hK9 _ (n9, (IntKind.i64.wrap (x5 - 1)), (IntKind.i64.wrap (Int.tdiv x6 10)), (x7.set (IntKind.i64.wrap (x5 - 1)).toNat (Lt.numDigit (Int.tmod x6 10)))) siA h (Nat.lt_succ_self _)
  · rintro ⟨x1, x2⟩ h
    change F_numPut_j1 a0_n x1 x2 KK at h
    unfold F_numPut_j1 at h
    refine AW_joinO [] [3, 4] [] (fun y : Int × List Int => ⟨[(3, .one (.c (.pl ⟨.loc 3, 0, []⟩))), (4, .one (.c (.d (.int .i64 y.1))))], [(.loc 3, ⟨true, y.2.map (tI .u8)⟩)]⟩) (fun y => F_numPut_j2 y.1 y.2 KK) ?_ ?_
    · apply AW_seq_k
      intro K5 hK5
      have hx := True.intro
      refine rgA [3, 4, 19] [] ?_
      iterate 2 refine stA ?_
      refine enA ?_
      refine hK5 _ ?_
      refine cdA h rfl (fun h => ?_) (fun h => ?_)
      · apply AW_seq_k
        intro K6 hK6
        have hx := True.intro
        refine rgA [3, 4] [] ?_
        iterate 3 refine stA ?_
        refine enA ?_
        refine hK6 _ ?_
        obtain ⟨ho1, h⟩ := h
        have hx := True.intro
        have hx := useA ho1.1 hx
        have hx := useA (show (IntKind.i64.wrap (x1 - 1)) < ((20 : Nat) : Int) from ho1.2.1) hx
        have hx := And.intro ho1.2.2 hx
        have hx := And.intro (show (IntKind.i64.wrap (x1 - 1)).toNat < 20 from by omega) hx
        have hx := And.intro (show 0 < 20 - (IntKind.i64.wrap (x1 - 1)).toNat from by omega) hx
        have hx := And.intro (show (x2.map (tI .u8))[(IntKind.i64.wrap (x1 - 1)).toNat]? = some (tI .u8 (x2.getD (IntKind.i64.wrap (x1 - 1)).toNat default)) from get_map (tI .u8) x2 (by omega)) hx
        refine rgA [3, 4] [] ?_
        iterate 3 refine stA ?_
        refine enA ?_
        exact ⟨((IntKind.i64.wrap (x1 - 1)), (x2.set (IntKind.i64.wrap (x1 - 1)).toNat 45)), siA, h⟩
      · apply AW_skip
        exact ⟨(x1, x2), siA, h⟩
    · rintro ⟨x3, x4⟩ h
      change F_numPut_j2 x3 x4 KK at h
      unfold F_numPut_j2 at h
      apply AW_seq_k
      intro K4 hK4
      refine frB (.loc 3) ?_
      obtain ⟨ho1, h⟩ := h
      have hx := True.intro
      have hx := useA ho1.1 hx
      have hx := useA ho1.2.1 hx
      have hx := useA ho1.2.2.1 hx
      have hx := useA ho1.2.2.2 hx
      refine rgA [2] [] ?_
      iterate 4 refine stA ?_
      refine enA ?_
      refine hK4 _ ?_
      apply AW_ret
      exact fiA (hKK _ h)

def C_numPut : CK1 := pureC (fn1 (cI .i64) (o1 cS) (Lt.preNum) Lt.numPut)
theorem c_numPut : Con Try.prog 29 C_numPut :=
  Con_fn1 (fn := Try.f29) (c := Try.f29.body.getD .skip) (by kernel_rfl) (by kernel_rfl) (by kernel_rfl) (by decide +kernel) (fun g a0_n K hg hp hK => walk_numPut g hg a0_n K _ (fun _ h => h) (law_numPut a0_n hp _ hK))
attribute [push_cast] C_numPut

set_option maxRecDepth 100000 in
set_option maxHeartbeats 4000000 in
theorem walk_number (g : G) (hg : g.nt = Try.f18.ntmps) (a0_n : Int) (K : AV → Prop) (KK : (List UInt8) → Prop) (hKK : ∀ r, KK r → K (o1 cS r) ) (h : F_number a0_n KK) :
    AW Try.prog g (Try.f18.body.getD .skip) (retQ Try.prog [.tmp 2] K) ⟨entryT 0 [.one ((cI .i64).enc a0_n)], []⟩ := by
  have hcs : CT.Ok Try.prog [(29, C_numPut)] := (CT.cons c_numPut CT.ok0)
  have hn : g.nt = 5 := hg
  have hm : Try.prog.follows .mixedOrders = true := by kernel_rfl
  unfold Try.f18
  dsimp only [Option.getD_some]
  unfold F_number at h
  apply AW_seq_k
  intro K1 hK1
  have hx := True.intro
  refine rgA [0] [] ?_
  refine stA ?_
  refine enA ?_
  refine hK1 _ ?_
  apply AW_seq_k
  intro K2 hK2
  obtain ⟨ho1, h⟩ := h
  have hx := True.intro
  have hx := useA ho1 hx
  refine rgA [2] [] ?_
  iterate 3 refine stA ?_
  refine enA ?_
  refine hK2 _ ?_
  apply AW_ret
  exact fiA (hKK _ h)

def C_number : CK1 := pureC (fn1 (cI .i64) (o1 cS) (Lt.preNum) Lt.number)
theorem c_number : Con Try.prog 18 C_number :=
  Con_fn1 (fn := Try.f18) (c := Try.f18.body.getD .skip) (by kernel_rfl) (by kernel_rfl) (by kernel_rfl) (by decide +kernel) (fun g a0_n K hg hp hK => walk_number g hg a0_n K _ (fun _ h => h) (law_number a0_n hp _ hK))
attribute [push_cast] C_number

set_option maxRecDepth 100000 in
set_option maxHeartbeats 4000000 in
theorem walk_floPut (g : G) (hg : g.nt = Try.f43.ntmps) (a0_n : Int) (K : AV → Prop) (KK : (List UInt8) → Prop) (hKK : ∀ r, KK r → K (o1 cS r) ) (h : F_floPut a0_n KK) :
    AW Try.prog g (Try.f43.body.getD .skip) (retQ Try.prog [.tmp 2] K) ⟨entryT 0 [.one ((cI .i64).enc a0_n)], []⟩ := by
  have hcs : CT.Ok Try.prog [(51, C_Plain)] := (CT.cons c_Plain CT.ok0)
  have hn : g.nt = 25 := hg
  have hm : Try.prog.follows .mixedOrders = true := by kernel_rfl
  unfold Try.f43
  dsimp only [Option.getD_some]
  unfold F_floPut at h
  apply AW_seq_k
  intro K1 hK1
  have hx := True.intro
  refine rgA [0] [] ?_
  refine stA ?_
  refine enA ?_
  refine hK1 _ ?_
  apply AW_seq_k
  intro K2 hK2
  have hx := True.intro
  refine rgA [3] [] ?_
  iterate 4 refine stA ?_
  refine enA ?_
  refine hK2 _ ?_
  apply AW_seq_k
  intro K3 hK3
  have hx := True.intro
  refine rgA [3, 4] [] ?_
  iterate 2 refine stA ?_
  refine enA ?_
  refine hK3 _ ?_
  refine AW_joinO [(4, .gh 22, [.fr])] [4] [] (fun y : List UInt8 => ⟨[(4, .one (.c (.rf ⟨.gh 22, 0, []⟩)))], [(.gh 22, ⟨false, [.ow [.fr] (y.map rB.enc)]⟩)]⟩) (fun y => F_floPut_j1 y KK) ?_ ?_
  · apply AW_seq_k
    intro K5 hK5
    have hx := True.intro
    refine rgA [3, 4, 5] [] ?_
    refine stA ?_
    refine enA ?_
    refine hK5 _ ?_
    apply AW_block_k
    intro Q6 hN6 hE6 hO6
    obtain ⟨n7, h⟩ := h
    refine AW_loopO [(4, .gh 22, [.fr])] [3, 4, 5] [.gh 9] (fun y : Nat × List UInt8 × Int => ⟨[(3, .one (.c (.d (.int .u64 (IntKind.u64.wrap (Lt.Plain a0_n)))))), (4, .one (.c (.rf ⟨.gh 22, 0, []⟩))), (5, .one (.c (.d (.int .i64 y.2.2))))], [(.gh 22, ⟨false, [.ow [.fr] (y.2.1.map rB.enc)]⟩)]⟩) (fun y => F_floPut_l2 a0_n KK y.1 y.2.1 y.2.2) (fun y => y.1) (n7, [(48 : UInt8), (102 : UInt8)], 60) ?_ h ?_
    · first | exact siA (by rfl) | exact siA
    clear h
    rintro ⟨n7, x2, x3⟩ h K7 hK7
    cases n7 with
    | zero => exact h.elim
    | succ n7 =>
      change F_floPut_l2 a0_n KK (n7 + 1) x2 x3 at h
      unfold F_floPut_l2 at h
      apply AW_seq_k
      intro K8 hK8
      apply AW_seq_k
      intro K9 hK9
      have hx := True.intro
      refine rgA [3, 4, 5, 11] [] ?_
      iterate 2 refine stA ?_
      refine enA ?_
      refine hK9 _ ?_
      refine cdA h rfl (fun h => ?_) (fun h => ?_)
      · apply AW_skip
        refine hK8 _ ?_
        apply AW_seq_k
        intro K10 hK10
        apply AW_block_k
        intro Q11 hN11 hE11 hO11
        obtain ⟨ho1, ho2, ho3, h⟩ := h
        have hx := True.intro
        have hx := useA ho1 hx
        have hx := getS ho2 hx
        have hx := useA ho3.1 (useA ho3.2 hx)
        have hx := And.intro (show x2.map rB.enc ++ [[.int .u8 (((([48, 49, 50, 51, 52, 53, 54, 55, 56, 57, 97, 98, 99, 100, 101, 102] : List UInt8).getD (IntKind.u64.wrap ((BitVec.ofInt IntKind.u64.bits (Int.fdiv (IntKind.u64.wrap (Lt.Plain a0_n)) (2 ^ (min (IntKind.u64.wrap x3).toNat IntKind.u64.bits))) &&& BitVec.ofInt IntKind.u64.bits 15).toNat : Nat)).toNat 0).toNat : Nat) : Int)]] = ((x2 ++ [(([48, 49, 50, 51, 52, 53, 54, 55, 56, 57, 97, 98, 99, 100, 101, 102] : List UInt8).getD (IntKind.u64.wrap ((BitVec.ofInt IntKind.u64.bits (Int.fdiv (IntKind.u64.wrap (Lt.Plain a0_n)) (2 ^ (min (IntKind.u64.wrap x3).toNat IntKind.u64.bits))) &&& BitVec.ofInt IntKind.u64.bits 15).toNat : Nat)).toNat 0)])).map rB.enc from by first | rfl | (simp only [List.map_append]; rfl)) hx
        refine rgA [3, 4, 5] [.gh 21] ?_
        iterate 10 refine stA ?_
        refine enA ?_
        refine hN11 _ ?_
        refine hK10 _ ?_
        have hx := True.intro
        refine rgA [3, 4, 5] [] ?_
        iterate 3 refine stA ?_
        refine enA ?_
        exact hK7 _ (n7, (x2 ++ [(([48, 49, 50, 51, 52, 53, 54, 55, 56, 57, 97, 98, 99, 100, 101, 102] : List UInt8).getD (IntKind.u64.wrap ((BitVec.ofInt IntKind.u64.bits (Int.fdiv (IntKind.u64.wrap (Lt.Plain a0_n)) (2 ^ (min (IntKind.u64.wrap x3).toNat IntKind.u64.bits))) &&& BitVec.ofInt IntKind.u64.bits 15).toNat : Nat)).toNat 0)]), (IntKind.i64.wrap (x3 - 4))) siA h (Nat.lt_succ_self _)
      · apply AW_exit
        refine hE6 _ ?_
        exact ⟨x2, siA, h⟩
  · rintro x1 h
    change F_floPut_j1 x1 KK at h
    unfold F_floPut_j1 at h
    apply AW_seq_k
    intro K4 hK4
    refine frA 4 ?_
    have hx := True.intro
    refine rgA [2] [.gh 22] ?_
    iterate 3 refine stA ?_
    refine enA ?_
    refine hK4 _ ?_
    apply AW_ret
    exact fiA (hKK _ h)

def C_floPut : CK1 := pureC (fn1 (cI .i64) (o1 cS) (fun _ => True) Lt.floPut)
theorem c_floPut : Con Try.prog 43 C_floPut :=
  Con_fn1 (fn := Try.f43) (c := Try.f43.body.getD .skip) (by kernel_rfl) (by kernel_rfl) (by kernel_rfl) (by decide +kernel) (fun g a0_n K hg hp hK => walk_floPut g hg a0_n K _ (fun _ h => h) (law_floPut a0_n _ hK))
attribute [push_cast] C_floPut

set_option maxRecDepth 100000 in
set_option maxHeartbeats 4000000 in
theorem walk_wordPut (g : G) (hg : g.nt = Try.f30.ntmps) (a0_a : Lt.Arg) (K : AV → Prop) (KK : (List UInt8) → Prop) (hKK : ∀ r, KK r → K (o1 cS r) ) (h : F_wordPut a0_a KK) :
    AW Try.prog g (Try.f30.body.getD .skip) (retQ Try.prog [.tmp 2] K) ⟨entryT 0 [.one ((cA Lt.Arg.rw).enc a0_a)], []⟩ := by
  have hcs : CT.Ok Try.prog [(29, C_numPut), (42, C_wordRight), (43, C_floPut)] := (CT.cons c_numPut (CT.cons c_wordRight (CT.cons c_floPut CT.ok0)))
  have hn : g.nt = 28 := hg
  have hm : Try.prog.follows .mixedOrders = true := by kernel_rfl
  unfold Try.f30
  dsimp only [Option.getD_some]
  unfold F_wordPut at h
  apply AW_seq_k
  intro K1 hK1
  have hx := True.intro
  refine rgA [1] [] ?_
  iterate 2 refine stA ?_
  refine enA ?_
  refine hK1 _ ?_
  apply AW_seq_k
  intro K2 hK2
  apply AW_seq_k
  intro K3 hK3
  have hx := True.intro
  refine rgA [1, 5] [] ?_
  iterate 3 refine stA ?_
  refine enA ?_
  refine hK3 _ ?_
  refine cdA h rfl (fun h => ?_) (fun h => ?_)
  · apply AW_seq_k
    intro K4 hK4
    have hx := True.intro
    refine rgA [2] [.loc 1] ?_
    refine stA ?_
    refine enA ?_
    refine hK4 _ ?_
    apply AW_ret
    exact fiA (hKK _ h)
  · apply AW_skip
    refine hK2 _ ?_
    apply AW_seq_k
    intro K5 hK5
    apply AW_seq_k
    intro K6 hK6
    have hx := True.intro
    refine rgA [1, 7] [] ?_
    iterate 2 refine stA ?_
    refine enA ?_
    refine hK6 _ ?_
    apply AW_block_k
    intro Q7 hN7 hE7 hO7
    apply AW_seq_k
    intro K8 hK8
    have hx := True.intro
    refine rgA [1, 7, 8] [] ?_
    iterate 2 refine stA ?_
    refine enA ?_
    refine hK8 _ ?_
    refine cdA h rfl (fun h => ?_) (fun h => ?_)
    · apply AW_seq_k
      intro K9 hK9
      obtain ⟨ho1, h⟩ := h
      have hx := True.intro
      have hx := useA ho1 hx
      refine rgA [2] [.loc 1] ?_
      iterate 4 refine stA ?_
      refine enA ?_
      refine hK9 _ ?_
      apply AW_ret
      refine hO7 _ _ (by simp) ?_
      exact fiA (hKK _ h)
    · apply AW_seq_k
      intro K10 hK10
      have hx := True.intro
      refine rgA [1, 7, 13] [] ?_
      iterate 2 refine stA ?_
      refine enA ?_
      refine hK10 _ ?_
      refine cdA h rfl (fun h => ?_) (fun h => ?_)
      · apply AW_seq_k
        intro K11 hK11
        have hx := True.intro
        refine rgA [2] [.loc 1] ?_
        iterate 4 refine stA ?_
        refine enA ?_
        refine hK11 _ ?_
        apply AW_ret
        refine hO7 _ _ (by simp) ?_
        exact fiA (hKK _ h)
      · apply AW_seq_k
        intro K12 hK12
        have hx := True.intro
        refine rgA [1, 7, 18] [] ?_
        iterate 2 refine stA ?_
        refine enA ?_
        refine hK12 _ ?_
        refine cdA h rfl (fun h => ?_) (fun h => ?_)
        · apply AW_seq_k
          intro K13 hK13
          have hx := True.intro
          refine rgA [2] [.loc 1] ?_
          refine stA ?_
          refine enA ?_
          refine hK13 _ ?_
          apply AW_ret
          refine hO7 _ _ (by simp) ?_
          exact fiA (hKK _ h)
        · apply AW_seq_k
          intro K14 hK14
          have hx := True.intro
          refine rgA [1, 20] [] ?_
          iterate 2 refine stA ?_
          refine enA ?_
          refine hK14 _ ?_
          refine cdA h rfl (fun h => ?_) (fun h => ?_)
          · apply AW_seq_k
            intro K15 hK15
            obtain ⟨ho1, ho2, h⟩ := h
            have hx := True.intro
            have hx := useA ho1 hx
            have hx := useA ho2 hx
            refine rgA [2] [.loc 1] ?_
            iterate 5 refine stA ?_
            refine enA ?_
            refine hK15 _ ?_
            apply AW_ret
            refine hO7 _ _ (by simp) ?_
            exact fiA (hKK _ h)
          · apply AW_skip
            refine hN7 _ ?_
            refine hK5 _ ?_
            apply AW_seq_k
            intro K16 hK16
            have hx := True.intro
            refine rgA [2] [.loc 1] ?_
            iterate 3 refine stA ?_
            refine enA ?_
            refine hK16 _ ?_
            apply AW_ret
            exact fiA (hKK _ h)

def C_wordPut : CK1 := pureC (fn1 (cA Lt.Arg.rw) (o1 cS) (Lt.prePut) Lt.wordPut)
theorem c_wordPut : Con Try.prog 30 C_wordPut :=
  Con_fn1 (fn := Try.f30) (c := Try.f30.body.getD .skip) (by kernel_rfl) (by kernel_rfl) (by kernel_rfl) (by decide +kernel) (fun g a0_a K hg hp hK => walk_wordPut g hg a0_a K _ (fun _ h => h) (law_wordPut a0_a hp _ hK))
attribute [push_cast] C_wordPut

set_option maxRecDepth 100000 in
set_option maxHeartbeats 4000000 in
theorem walk_puts (g : G) (hg : g.nt = Try.f45.ntmps) (a0_l : List Lt.Arg) (K : AV → Prop) (KK : (List (List UInt8)) → Prop) (hKK : ∀ r, KK r → K (o1 (cL rS) r) ) (h : F_puts a0_l KK) :
    AW Try.prog g (Try.f45.body.getD .skip) (retQ Try.prog [.tmp 2] K) ⟨entryT 0 [.one ((cL Lt.Arg.rw).enc a0_l)], []⟩ := by
  have hcs : CT.Ok Try.prog [(30, C_wordPut)] := (CT.cons c_wordPut CT.ok0)
  have hn : g.nt = 19 := hg
  have hm : Try.prog.follows .mixedOrders = true := by kernel_rfl
  unfold Try.f45
  dsimp only [Option.getD_some]
  unfold F_puts at h
  apply AW_seq_k
  intro K1 hK1
  have hx := True.intro
  refine rgA [0] [] ?_
  refine stA ?_
  refine enA ?_
  refine hK1 _ ?_
  apply AW_seq_k
  intro K2 hK2
  have hx := True.intro
  refine rgA [0, 3] [] ?_
  refine stA ?_
  refine enA ?_
  refine hK2 _ ?_
  refine AW_joinO [(3, .gh 16, [.fr])] [3] [] (fun y : List (List UInt8) => ⟨[(3, .one (.c (.rf ⟨.gh 16, 0, []⟩)))], [(.gh 16, ⟨false, [.ow [.fr] (y.map rS.enc)]⟩)]⟩) (fun y => F_puts_j1 y KK) ?_ ?_
  · apply AW_seq_k
    intro K4 hK4
    have hx := True.intro
    refine rgA [3, 6, 7, 8] [] ?_
    refine stA ?_
    refine stG fun hp => ?_
    refine stA ?_
    refine enA ?_
    have h := h (by assumption)
    refine hK4 _ ?_
    apply AW_block_k
    intro Q5 hN5 hE5 hO5
    obtain ⟨n6, h⟩ := h
    refine AW_loopO [(3, .gh 16, [.fr])] [3, 6, 7, 8] [] (fun y : Nat × List (List UInt8) × Int => ⟨[(3, .one (.c (.rf ⟨.gh 16, 0, []⟩))), (6, .one (.c (.d (.li (a0_l.map Lt.Arg.enc))))), (7, .one (.c (.d (.int .i64 (a0_l.length : Int))))), (8, .one (.c (.d (.int .i64 y.2.2))))], [(.gh 16, ⟨false, [.ow [.fr] (y.2.1.map rS.enc)]⟩)]⟩) (fun y => F_puts_l2 a0_l KK y.1 y.2.1 y.2.2) (fun y => y.1) (n6, [], 0) ?_ h ?_
    · exact siA
    clear h
    rintro ⟨n6, x2, x3⟩ h K6 hK6
    cases n6 with
    | zero => exact h.elim
    | succ n6 =>
      change F_puts_l2 a0_l KK (n6 + 1) x2 x3 at h
      unfold F_puts_l2 at h
      apply AW_seq_k
      intro K7 hK7
      have hx := True.intro
      refine rgA [3, 6, 7, 8, 9] [] ?_
      refine stA ?_
      refine enA ?_
      refine hK7 _ ?_
      apply AW_seq_k
      intro K8 hK8
      refine cdA h rfl (fun h => ?_) (fun h => ?_)
      · apply AW_skip
        refine hK8 _ ?_
        apply AW_seq_k
        intro K9 hK9
        apply AW_block_k
        intro Q10 hN10 hE10 hO10
        apply AW_seq_k
        intro K11 hK11
        obtain ⟨ho1, h⟩ := h
        have hx := True.intro
        have hx := getA Lt.Arg.enc ho1 hx
        refine rgA [3, 5, 6, 7, 8] [] ?_
        iterate 4 refine stA ?_
        refine enA ?_
        refine hK11 _ ?_
        obtain ⟨ho1, ho2, h⟩ := h
        have hx := True.intro
        have hx := useA ho1 hx
        have hx := useA ho2.1 (useA ho2.2 hx)
        have hx := And.intro (show x2.map rS.enc ++ [[.str (Lt.wordPut (a0_l.getD x3.toNat default))]] = ((x2 ++ [(Lt.wordPut (a0_l.getD x3.toNat default))])).map rS.enc from by first | rfl | (simp only [List.map_append]; rfl)) hx
        refine rgA [3, 6, 7, 8] [.gh 15, .loc 5] ?_
        iterate 6 refine stA ?_
        refine enA ?_
        refine hN10 _ ?_
        refine hK9 _ ?_
        have hx := True.intro
        refine rgA [3, 6, 7, 8] [] ?_
        iterate 2 refine stA ?_
        refine enA ?_
        exact hK6 _ (n6, (x2 ++ [(Lt.wordPut (a0_l.getD x3.toNat default))]), (IntKind.i64.wrap (x3 + 1))) siA h (Nat.lt_succ_self _)
      · apply AW_exit
        refine hE5 _ ?_
        exact ⟨x2, siA, h⟩
  · rintro x1 h
    change F_puts_j1 x1 KK at h
    unfold F_puts_j1 at h
    apply AW_seq_k
    intro K3 hK3
    have hx := True.intro
    refine rgA [2] [] ?_
    iterate 2 refine stA ?_
    refine enA ?_
    refine hK3 _ ?_
    apply AW_ret
    exact fiA (hKK _ h)

def C_puts : CK1 := pureC (fn1 (cL Lt.Arg.rw) (o1 (cL rS)) (Lt.prePuts) Lt.puts)
theorem c_puts : Con Try.prog 45 C_puts :=
  Con_fn1 (fn := Try.f45) (c := Try.f45.body.getD .skip) (by kernel_rfl) (by kernel_rfl) (by kernel_rfl) (by decide +kernel) (fun g a0_l K hg hp hK => walk_puts g hg a0_l K _ (fun _ h => h) (law_puts a0_l hp _ hK))
attribute [push_cast] C_puts

set_option maxRecDepth 100000 in
set_option maxHeartbeats 4000000 in
theorem walk_sheetCode (g : G) (hg : g.nt = Try.f31.ntmps) (a0_s : Lt.Sheet) (a1_i : Lt.Instr) (K : AV → List T → Prop) (KK : (Unit × Lt.Sheet) → Prop) (hKK : ∀ r, KK r → K ((fun _ => .tup []) r.1) (Lt.Sheet.cs.enc r.2)) (h : F_sheetCode a0_s a1_i KK) :
    AW Try.prog g (Try.f31.body.getD .skip) (retP 0 Try.prog [] K) ⟨entryT 0 [.one (.c (.pl ⟨.out 0, 0, []⟩)), .one ((cA Lt.Instr.rw).enc a1_i)], [(.out 0, ⟨true, Lt.Sheet.cs.enc a0_s⟩)]⟩ := by
  have hcs : CT.Ok Try.prog [(16, C_sheetLine), (18, C_number), (30, C_wordPut), (44, C_Of), (45, C_puts)] := (CT.cons c_sheetLine (CT.cons c_number (CT.cons c_wordPut (CT.cons c_Of (CT.cons c_puts CT.ok0)))))
  have hn : g.nt = 120 := hg
  have hm : Try.prog.follows .mixedOrders = true := by kernel_rfl
  unfold Try.f31
  dsimp only [Option.getD_some]
  unfold F_sheetCode at h
  apply AW_seq_k
  intro K1 hK1
  have hx := True.intro
  refine rgA [0, 3] [] ?_
  refine stA ?_
  refine enA ?_
  refine hK1 _ ?_
  apply AW_seq_k
  intro K2 hK2
  have hx := True.intro
  refine rgA [0, 3, 4] [] ?_
  iterate 9 refine stA ?_
  refine enA ?_
  refine hK2 _ ?_
  apply AW_seq_k
  intro K3 hK3
  have hx := True.intro
  refine rgA [0, 3, 4, 6] [] ?_
  refine stA ?_
  refine enA ?_
  refine hK3 _ ?_
  refine AW_joinO [(6, .gh 27, [.fr])] [0, 3, 4, 6] [] (fun y : List (List UInt8) => ⟨[(0, .one (.c (.pl ⟨.out 0, 0, []⟩))), (3, .one (.c (.pl ⟨.loc 3, 0, []⟩))), (4, .one (.c (.pl ⟨.loc 4, 0, []⟩))), (6, .one (.c (.rf ⟨.gh 27, 0, []⟩)))], [(.gh 27, ⟨false, [.ow [.fr] (y.map rS.enc)]⟩), (.loc 4, ⟨true, [.d (.str (((Lt.Of a1_i.Op).1).Word)), .d (.bool (((Lt.Of a1_i.Op).1).Dst)), .d (.bool (((Lt.Of a1_i.Op).1).Named)), .d (.int .i64 (((Lt.Of a1_i.Op).1).Least)), .d (.int .i64 (((Lt.Of a1_i.Op).1).Most))]⟩), (.loc 3, ⟨true, [.d (.int .i64 a1_i.Op), .d (.str a1_i.Dst), .d (.str a1_i.Name), .d (.li (a1_i.Args.map Lt.Arg.enc)), .d (.li (a1_i.Frames.map Lt.Frame.enc)), .d (.li (a1_i.Objs.map Lt.Virt.enc))]⟩), (.out 0, ⟨true, [.ow [.fr, .fr] (a0_s.l.map Lt.Line.enc)]⟩)]⟩) (fun y => F_sheetCode_j1 a0_s a1_i y KK) ?_ ?_
  · apply AW_seq_k
    intro K35 hK35
    have hx := True.intro
    refine rgA [0, 3, 4, 6, 22] [] ?_
    iterate 2 refine stA ?_
    refine enA ?_
    refine hK35 _ ?_
    refine cdA h rfl (fun h => ?_) (fun h => ?_)
    · have hx := True.intro
      refine rgA [0, 3, 4, 6] [.gh 26] ?_
      iterate 6 refine stA ?_
      refine enA ?_
      exact ⟨[a1_i.Dst, [61]], siA, h⟩
    · apply AW_skip
      exact ⟨[], siA, h⟩
  · rintro x1 h
    change F_sheetCode_j1 a0_s a1_i x1 KK at h
    unfold F_sheetCode_j1 at h
    apply AW_seq_k
    intro K4 hK4
    obtain ⟨ho1, h⟩ := h
    have hx := True.intro
    have hx := useA ho1.1 (useA ho1.2 hx)
    have hx := And.intro (show x1.map rS.enc ++ [[.str (((Lt.Of a1_i.Op).1).Word)]] = ((x1 ++ [((Lt.Of a1_i.Op).1).Word])).map rS.enc from by first | rfl | (simp only [List.map_append]; rfl)) hx
    refine rgA [0, 3, 4, 6] [.gh 31, .gh 27] ?_
    iterate 6 refine stA ?_
    refine enA ?_
    refine hK4 _ ?_
    apply AW_seq_k
    intro K5 hK5
    obtain ⟨ho1, h⟩ := h
    have hx := True.intro
    have hx := useA ho1 hx
    refine rgA [0, 3, 4, 6, 7] [] ?_
    iterate 4 refine stA ?_
    refine enA ?_
    refine hK5 _ ?_
    refine AW_joinO [(6, .gh 32, [.fr])] [0, 3, 6, 7] [.gh 52, .gh 62] (fun y : List (List UInt8) × List (List UInt8) => ⟨[(0, .one (.c (.pl ⟨.out 0, 0, []⟩))), (3, .one (.c (.pl ⟨.loc 3, 0, []⟩))), (6, .one (.c (.rf ⟨.gh 32, 0, []⟩))), (7, .one (.c (.d (.li (y.2.map rS.enc)))))], [(.gh 32, ⟨false, [.ow [.fr] (y.1.map rS.enc)]⟩), (.loc 3, ⟨true, [.d (.int .i64 a1_i.Op), .d (.str a1_i.Dst), .d (.str a1_i.Name), .d (.li (a1_i.Args.map Lt.Arg.enc)), .d (.li (a1_i.Frames.map Lt.Frame.enc)), .d (.li (a1_i.Objs.map Lt.Virt.enc))]⟩), (.out 0, ⟨true, [.ow [.fr, .fr] (a0_s.l.map Lt.Line.enc)]⟩)]⟩) (fun y => F_sheetCode_j2 a0_s a1_i y.1 y.2 KK) ?_ ?_
    · apply AW_block_k
      intro Q31 hN31 hE31 hO31
      apply AW_seq_k
      intro K32 hK32
      have hx := True.intro
      refine rgV [0, 3, 4, 6, 7] [] 36 (.one (.c (.d (.bool ((decide (a1_i.Op = 26)) || (decide (a1_i.Op = 27))))))) ?_ ?_
      · clear h
        iterate 4 refine stA ?_
        cases hb : (decide (a1_i.Op = 26))
        · have hx := And.intro hb hx
          iterate 5 refine stA ?_
          exact lfA
        · have hx := And.intro hb hx
          iterate 5 refine stA ?_
          exact lfA
      · refine hK32 _ ?_
        refine cdA h rfl (fun h => ?_) (fun h => ?_)
        · apply AW_seq_k
          intro K33 hK33
          obtain ⟨ho1, ho2, h⟩ := h
          have hx := True.intro
          have hx := getA rS.enc ho1 hx
          have hx := useA ho2.1 (useA ho2.2 hx)
          have hx := And.intro (show (x1 ++ [((Lt.Of a1_i.Op).1).Word]).map rS.enc ++ [[.str ((Lt.puts a1_i.Args).getD 0 default)], [.str a1_i.Name]] = (((x1 ++ [((Lt.Of a1_i.Op).1).Word]) ++ [((Lt.puts a1_i.Args).getD 0 default), a1_i.Name])).map rS.enc from by first | rfl | (simp only [List.map_append]; rfl)) hx
          refine dgA [0, 3, 6, 7] [.gh 51, .loc 4, .gh 32] (.take 0 [] true (.take 1 [] true (.take 2 [] true (.take 3 [] true (.take 4 [] true (.take 5 [6, 7, 8] false (.one 6 (.one 7 (.take 8 [] true (.done)))))))))) ?_
          iterate 6 refine dtA ?_
          iterate 2 refine doA ?_
          refine dtA ?_
          refine deA ?_
          refine hK33 _ ?_
          obtain ⟨ho1, h⟩ := h
          have hx := True.intro
          have hx := useA ho1 hx
          refine rgA [0, 3, 6, 7] [] ?_
          iterate 3 refine stA ?_
          refine enA ?_
          refine hN31 _ ?_
          exact ⟨(((x1 ++ [((Lt.Of a1_i.Op).1).Word]) ++ [((Lt.puts a1_i.Args).getD 0 default), a1_i.Name]), (((Lt.puts a1_i.Args).drop 1).take ((Lt.puts a1_i.Args).length - 1))), siA, h⟩
        · apply AW_seq_k
          intro K34 hK34
          have hx := True.intro
          refine rgA [0, 3, 6, 7, 55] [.loc 4] ?_
          iterate 3 refine stA ?_
          refine enA ?_
          refine hK34 _ ?_
          refine cdA h rfl (fun h => ?_) (fun h => ?_)
          · obtain ⟨ho1, h⟩ := h
            have hx := True.intro
            have hx := useA ho1.1 (useA ho1.2 hx)
            have hx := And.intro (show (x1 ++ [((Lt.Of a1_i.Op).1).Word]).map rS.enc ++ [[.str a1_i.Name]] = (((x1 ++ [((Lt.Of a1_i.Op).1).Word]) ++ [a1_i.Name])).map rS.enc from by first | rfl | (simp only [List.map_append]; rfl)) hx
            refine rgA [0, 3, 6, 7] [.gh 61, .gh 32] ?_
            iterate 6 refine stA ?_
            refine enA ?_
            refine hN31 _ ?_
            exact ⟨(((x1 ++ [((Lt.Of a1_i.Op).1).Word]) ++ [a1_i.Name]), (Lt.puts a1_i.Args)), siA, h⟩
          · apply AW_skip
            refine hN31 _ ?_
            exact ⟨((x1 ++ [((Lt.Of a1_i.Op).1).Word]), (Lt.puts a1_i.Args)), siA, h⟩
    · rintro ⟨x2, x3⟩ h
      change F_sheetCode_j2 a0_s a1_i x2 x3 KK at h
      unfold F_sheetCode_j2 at h
      apply AW_seq_k
      intro K6 hK6
      obtain ⟨ho1, ho2, h⟩ := h
      have hx := True.intro
      have hx := useA ho1.1 (useA ho1.2 hx)
      have hx := useA ho2 hx
      refine rgA [0, 3] [.gh 66, .gh 32] ?_
      iterate 5 refine stA ?_
      refine enA ?_
      refine hK6 _ ?_
      refine AW_joinO [] [0, 3] [] (fun y : List Lt.Line => ⟨[(0, .one (.c (.pl ⟨.out 0, 0, []⟩))), (3, .one (.c (.pl ⟨.loc 3, 0, []⟩)))], [(.out 0, ⟨true, [.ow [.fr, .fr] (y.map Lt.Line.enc)]⟩), (.loc 3, ⟨true, [.d (.int .i64 a1_i.Op), .d (.str a1_i.Dst), .d (.str a1_i.Name), .d (.li (a1_i.Args.map Lt.Arg.enc)), .d (.li (a1_i.Frames.map Lt.Frame.enc)), .d (.li (a1_i.Objs.map Lt.Virt.enc))]⟩)]⟩) (fun y => F_sheetCode_j3 a1_i y KK) ?_ ?_
      · apply AW_seq_k
        intro K15 hK15
        have hx := True.intro
        refine rgA [0, 3, 69, 70, 71] [] ?_
        iterate 2 refine stA ?_
        refine stG fun hp => ?_
        refine stA ?_
        refine enA ?_
        have h := h (by assumption)
        refine hK15 _ ?_
        apply AW_block_k
        intro Q16 hN16 hE16 hO16
        obtain ⟨n17, h⟩ := h
        refine AW_loopO [] [0, 3, 69, 70, 71] [] (fun y : Nat × Int × List Lt.Line => ⟨[(0, .one (.c (.pl ⟨.out 0, 0, []⟩))), (3, .one (.c (.pl ⟨.loc 3, 0, []⟩))), (69, .one (.c (.d (.li (a1_i.Frames.map Lt.Frame.enc))))), (70, .one (.c (.d (.int .i64 (a1_i.Frames.length : Int))))), (71, .one (.c (.d (.int .i64 y.2.1))))], [(.out 0, ⟨true, [.ow [.fr, .fr] (y.2.2.map Lt.Line.enc)]⟩), (.loc 3, ⟨true, [.d (.int .i64 a1_i.Op), .d (.str a1_i.Dst), .d (.str a1_i.Name), .d (.li (a1_i.Args.map Lt.Arg.enc)), .d (.li (a1_i.Frames.map Lt.Frame.enc)), .d (.li (a1_i.Objs.map Lt.Virt.enc))]⟩)]⟩) (fun y => F_sheetCode_l5 a1_i KK y.1 y.2.1 y.2.2) (fun y => y.1) (n17, 0, ((Lt.sheetLine a0_s (x2 ++ x3)).2).l) ?_ h ?_
        · exact siA
        clear h
        rintro ⟨n17, x7, x8⟩ h K17 hK17
        cases n17 with
        | zero => exact h.elim
        | succ n17 =>
          change F_sheetCode_l5 a1_i KK (n17 + 1) x7 x8 at h
          unfold F_sheetCode_l5 at h
          apply AW_seq_k
          intro K18 hK18
          have hx := True.intro
          refine rgA [0, 3, 69, 70, 71, 72] [] ?_
          refine stA ?_
          refine enA ?_
          refine hK18 _ ?_
          apply AW_seq_k
          intro K19 hK19
          refine cdA h rfl (fun h => ?_) (fun h => ?_)
          · apply AW_skip
            refine hK19 _ ?_
            refine AW_joinO [] [0, 3, 69, 70, 71] [] (fun y : List Lt.Line => ⟨[(0, .one (.c (.pl ⟨.out 0, 0, []⟩))), (3, .one (.c (.pl ⟨.loc 3, 0, []⟩))), (69, .one (.c (.d (.li (a1_i.Frames.map Lt.Frame.enc))))), (70, .one (.c (.d (.int .i64 (a1_i.Frames.length : Int))))), (71, .one (.c (.d (.int .i64 x7))))], [(.out 0, ⟨true, [.ow [.fr, .fr] (y.map Lt.Line.enc)]⟩), (.loc 3, ⟨true, [.d (.int .i64 a1_i.Op), .d (.str a1_i.Dst), .d (.str a1_i.Name), .d (.li (a1_i.Args.map Lt.Arg.enc)), .d (.li (a1_i.Frames.map Lt.Frame.enc)), .d (.li (a1_i.Objs.map Lt.Virt.enc))]⟩)]⟩) (fun y => F_sheetCode_j6 x7 (fun y1 y2 => F_sheetCode_l5 a1_i KK n17 y1 y2) y KK) ?_ ?_
            · apply AW_block_k
              intro Q20 hN20 hE20 hO20
              apply AW_seq_k
              intro K21 hK21
              obtain ⟨ho1, h⟩ := h
              have hx := True.intro
              have hx := getA Lt.Frame.enc ho1 hx
              refine rgA [0, 3, 9, 69, 70, 71] [] ?_
              iterate 4 refine stA ?_
              refine enA ?_
              refine hK21 _ ?_
              apply AW_seq_k
              intro K22 hK22
              obtain ⟨ho1, h⟩ := h
              have hx := True.intro
              have hx := useA ho1 hx
              refine dgT [0, 3, 9, 10, 69, 70, 71] [] (⟨[(0, .one (.c (.pl ⟨.out 0, 0, []⟩))), (3, .one (.c (.pl ⟨.loc 3, 0, []⟩))), (9, .one (.c (.pl ⟨.loc 9, 0, []⟩))), (10, .one (.c (.rf ⟨.gh 82, 0, []⟩))), (69, .one (.c (.d (.li (a1_i.Frames.map Lt.Frame.enc))))), (70, .one (.c (.d (.int .i64 (a1_i.Frames.length : Int))))), (71, .one (.c (.d (.int .i64 x7))))], [(.gh 82, ⟨false, [.ow [.fr] [[.str [97, 116]], [.str ((a1_i.Frames.getD x7.toNat default).Func)], [.str ((a1_i.Frames.getD x7.toNat default).Block)], [.str (Lt.number ((a1_i.Frames.getD x7.toNat default).At))]]]⟩), (.loc 9, ⟨true, [.d (.str ((a1_i.Frames.getD x7.toNat default).Func)), .d (.str ((a1_i.Frames.getD x7.toNat default).Block)), .d (.int .i64 ((a1_i.Frames.getD x7.toNat default).At)), .d (.li (((a1_i.Frames.getD x7.toNat default).Vars).map Lt.Bind.enc))]⟩), (.out 0, ⟨true, [.ow [.fr, .fr] (x8.map Lt.Line.enc)]⟩), (.loc 3, ⟨true, [.d (.int .i64 a1_i.Op), .d (.str a1_i.Dst), .d (.str a1_i.Name), .d (.li (a1_i.Args.map Lt.Arg.enc)), .d (.li (a1_i.Frames.map Lt.Frame.enc)), .d (.li (a1_i.Objs.map Lt.Virt.enc))]⟩)]⟩) (True) (.take 0 [] true (.take 2 [] true (.take 4 [] true (.take 5 [6, 7, 8] false (.three 1 (.two 3 (.one 6 (.one 7 (.take 8 [] true (.done)))) 6 (.take 3 [7, 8] false (.one 7 (.take 8 [] true (.done))))) 3 (.two 1 (.one 6 (.one 7 (.take 8 [] true (.done)))) 6 (.take 1 [7, 8] false (.one 7 (.take 8 [] true (.done))))) 6 (.take 1 [7, 8] false (.take 3 [7, 8] false (.one 7 (.take 8 [] true (.done)))))))))) ?_ ?_
              · iterate 4 refine dtA ?_
                refine d3A ?_ ?_ ?_
                · refine d2A ?_ ?_
                  · iterate 2 refine doA ?_
                    refine dtA ?_
                    exact dlT trivial
                  · refine dtA ?_
                    refine doA ?_
                    refine dtA ?_
                    exact dlT trivial
                · refine d2A ?_ ?_
                  · iterate 2 refine doA ?_
                    refine dtA ?_
                    exact dlT trivial
                  · refine dtA ?_
                    refine doA ?_
                    refine dtA ?_
                    exact dlT trivial
                · iterate 2 refine dtA ?_
                  refine doA ?_
                  refine dtA ?_
                  exact dlT trivial
              rintro hG0
              refine hK22 _ ?_
              refine AW_joinO [(10, .gh 97, [.fr])] [0, 3, 10, 69, 70, 71] [] (fun y : List (List UInt8) => ⟨[(0, .one (.c (.pl ⟨.out 0, 0, []⟩))), (3, .one (.c (.pl ⟨.loc 3, 0, []⟩))), (10, .one (.c (.rf ⟨.gh 97, 0, []⟩))), (69, .one (.c (.d (.li (a1_i.Frames.map Lt.Frame.enc))))), (70, .one (.c (.d (.int .i64 (a1_i.Frames.length : Int))))), (71, .one (.c (.d (.int .i64 x7))))], [(.gh 97, ⟨false, [.ow [.fr] (y.map rS.enc)]⟩), (.out 0, ⟨true, [.ow [.fr, .fr] (x8.map Lt.Line.enc)]⟩), (.loc 3, ⟨true, [.d (.int .i64 a1_i.Op), .d (.str a1_i.Dst), .d (.str a1_i.Name), .d (.li (a1_i.Args.map Lt.Arg.enc)), .d (.li (a1_i.Frames.map Lt.Frame.enc)), .d (.li (a1_i.Objs.map Lt.Virt.enc))]⟩)]⟩) (fun y => F_sheetCode_j7 x7 x8 (fun y1 y2 => F_sheetCode_l5 a1_i KK n17 y1 y2) y KK) ?_ ?_
              · apply AW_seq_k
                intro K23 hK23
                have hx := True.intro
                refine rgA [0, 3, 10, 69, 70, 71, 84, 85, 86] [.loc 9] ?_
                iterate 2 refine stA ?_
                refine stG fun hp => ?_
                refine stA ?_
                refine enA ?_
                have h := h (by assumption)
                refine hK23 _ ?_
                apply AW_block_k
                intro Q24 hN24 hE24 hO24
                obtain ⟨n25, h⟩ := h
                refine AW_loopO [(10, .gh 97, [.fr])] [0, 3, 10, 69, 70, 71, 84, 85, 86] [.gh 82] (fun y : Nat × List (List UInt8) × Int => ⟨[(0, .one (.c (.pl ⟨.out 0, 0, []⟩))), (3, .one (.c (.pl ⟨.loc 3, 0, []⟩))), (10, .one (.c (.rf ⟨.gh 97, 0, []⟩))), (69, .one (.c (.d (.li (a1_i.Frames.map Lt.Frame.enc))))), (70, .one (.c (.d (.int .i64 (a1_i.Frames.length : Int))))), (71, .one (.c (.d (.int .i64 x7)))), (84, .one (.c (.d (.li (((a1_i.Frames.getD x7.toNat default).Vars).map Lt.Bind.enc))))), (85, .one (.c (.d (.int .i64 (((a1_i.Frames.getD x7.toNat default).Vars).length : Int))))), (86, .one (.c (.d (.int .i64 y.2.2))))], [(.gh 97, ⟨false, [.ow [.fr] (y.2.1.map rS.enc)]⟩), (.out 0, ⟨true, [.ow [.fr, .fr] (x8.map Lt.Line.enc)]⟩), (.loc 3, ⟨true, [.d (.int .i64 a1_i.Op), .d (.str a1_i.Dst), .d (.str a1_i.Name), .d (.li (a1_i.Args.map Lt.Arg.enc)), .d (.li (a1_i.Frames.map Lt.Frame.enc)), .d (.li (a1_i.Objs.map Lt.Virt.enc))]⟩)]⟩) (fun y => F_sheetCode_l8 a1_i x7 x8 (fun y1 y2 => F_sheetCode_l5 a1_i KK n17 y1 y2) KK y.1 y.2.1 y.2.2) (fun y => y.1) (n25, [[97, 116], (a1_i.Frames.getD x7.toNat default).Func, (a1_i.Frames.getD x7.toNat default).Block, (Lt.number ((a1_i.Frames.getD x7.toNat default).At))], 0) ?_ h ?_
                · exact siA
                clear h
                rintro ⟨n25, x11, x12⟩ h K25 hK25
                cases n25 with
                | zero => exact h.elim
                | succ n25 =>
                  change F_sheetCode_l8 a1_i x7 x8 (fun y1 y2 => F_sheetCode_l5 a1_i KK n17 y1 y2) KK (n25 + 1) x11 x12 at h
                  unfold F_sheetCode_l8 at h
                  apply AW_seq_k
                  intro K26 hK26
                  have hx := True.intro
                  refine rgA [0, 3, 10, 69, 70, 71, 84, 85, 86, 87] [] ?_
                  refine stA ?_
                  refine enA ?_
                  refine hK26 _ ?_
                  apply AW_seq_k
                  intro K27 hK27
                  refine cdA h rfl (fun h => ?_) (fun h => ?_)
                  · apply AW_skip
                    refine hK27 _ ?_
                    apply AW_seq_k
                    intro K28 hK28
                    apply AW_block_k
                    intro Q29 hN29 hE29 hO29
                    apply AW_seq_k
                    intro K30 hK30
                    obtain ⟨ho1, h⟩ := h
                    have hx := True.intro
                    have hx := getA Lt.Bind.enc ho1 hx
                    refine rgA [0, 3, 10, 12, 69, 70, 71, 84, 85, 86] [] ?_
                    iterate 4 refine stA ?_
                    refine enA ?_
                    refine hK30 _ ?_
                    obtain ⟨ho1, ho2, h⟩ := h
                    have hx := True.intro
                    have hx := useA ho1 hx
                    have hx := useA ho2.1 (useA ho2.2 hx)
                    have hx := And.intro (show x11.map rS.enc ++ [[.str ((((a1_i.Frames.getD x7.toNat default).Vars).getD x12.toNat default).Name)], [.str (Lt.wordPut ((((a1_i.Frames.getD x7.toNat default).Vars).getD x12.toNat default).A))]] = ((x11 ++ [(((a1_i.Frames.getD x7.toNat default).Vars).getD x12.toNat default).Name, (Lt.wordPut ((((a1_i.Frames.getD x7.toNat default).Vars).getD x12.toNat default).A))])).map rS.enc from by first | rfl | (simp only [List.map_append]; rfl)) hx
                    refine dgT [0, 3, 10, 69, 70, 71, 84, 85, 86] [.gh 96, .loc 12] (⟨[(0, .one (.c (.pl ⟨.out 0, 0, []⟩))), (3, .one (.c (.pl ⟨.loc 3, 0, []⟩))), (10, .one (.c (.rf ⟨.gh 97, 0, []⟩))), (69, .one (.c (.d (.li (a1_i.Frames.map Lt.Frame.enc))))), (70, .one (.c (.d (.int .i64 (a1_i.Frames.length : Int))))), (71, .one (.c (.d (.int .i64 x7)))), (84, .one (.c (.d (.li (((a1_i.Frames.getD x7.toNat default).Vars).map Lt.Bind.enc))))), (85, .one (.c (.d (.int .i64 (((a1_i.Frames.getD x7.toNat default).Vars).length : Int))))), (86, .one (.c (.d (.int .i64 x12))))], [(.gh 97, ⟨false, [.ow [.fr] ((x11 ++ [(((a1_i.Frames.getD x7.toNat default).Vars).getD x12.toNat default).Name, (Lt.wordPut ((((a1_i.Frames.getD x7.toNat default).Vars).getD x12.toNat default).A))]).map rS.enc)]⟩), (.out 0, ⟨true, [.ow [.fr, .fr] (x8.map Lt.Line.enc)]⟩), (.loc 3, ⟨true, [.d (.int .i64 a1_i.Op), .d (.str a1_i.Dst), .d (.str a1_i.Name), .d (.li (a1_i.Args.map Lt.Arg.enc)), .d (.li (a1_i.Frames.map Lt.Frame.enc)), .d (.li (a1_i.Objs.map Lt.Virt.enc))]⟩)]⟩) (True) (.take 0 [] true (.take 1 [] true (.take 3 [] true (.take 4 [5, 6, 7, 8] false (.two 2 (.one 5 (.one 6 (.one 7 (.take 8 [] true (.done))))) 5 (.take 2 [6, 7, 8] false (.one 6 (.one 7 (.take 8 [] true (.done)))))))))) ?_ ?_
                    · iterate 4 refine dtA ?_
                      refine d2A ?_ ?_
                      · iterate 3 refine doA ?_
                        refine dtA ?_
                        exact dlT trivial
                      · refine dtA ?_
                        iterate 2 refine doA ?_
                        refine dtA ?_
                        exact dlT trivial
                    rintro hG0
                    refine hN29 _ ?_
                    refine hK28 _ ?_
                    have hx := True.intro
                    refine rgA [0, 3, 10, 69, 70, 71, 84, 85, 86] [] ?_
                    iterate 2 refine stA ?_
                    refine enA ?_
                    exact hK25 _ (n25, (x11 ++ [(((a1_i.Frames.getD x7.toNat default).Vars).getD x12.toNat default).Name, (Lt.wordPut ((((a1_i.Frames.getD x7.toNat default).Vars).getD x12.toNat default).A))]), (IntKind.i64.wrap (x12 + 1))) siA h (Nat.lt_succ_self _)
                  · apply AW_exit
                    refine hE24 _ ?_
                    exact ⟨x11, siA, h⟩
              · rintro x10 h
                change F_sheetCode_j7 x7 x8 (fun y1 y2 => F_sheetCode_l5 a1_i KK n17 y1 y2) x10 KK at h
                unfold F_sheetCode_j7 at h
                obtain ⟨ho1, h⟩ := h
                have hx := True.intro
                have hx := useA ho1 hx
                refine rgA [0, 3, 69, 70, 71] [.gh 97] ?_
                iterate 3 refine stA ?_
                refine enA ?_
                refine hN20 _ ?_
                exact ⟨((Lt.sheetLine (Lt.Sheet.mk x8) x10).2).l, siA, h⟩
            · rintro x9 h
              change F_sheetCode_j6 x7 (fun y1 y2 => F_sheetCode_l5 a1_i KK n17 y1 y2) x9 KK at h
              unfold F_sheetCode_j6 at h
              have hx := True.intro
              refine rgA [0, 3, 69, 70, 71] [] ?_
              iterate 2 refine stA ?_
              refine enA ?_
              exact hK17 _ (n17, (IntKind.i64.wrap (x7 + 1)), x9) siA h (Nat.lt_succ_self _)
          · apply AW_exit
            refine hE16 _ ?_
            exact ⟨x8, siA, h⟩
      · rintro x4 h
        change F_sheetCode_j3 a1_i x4 KK at h
        unfold F_sheetCode_j3 at h
        apply AW_seq_k
        intro K7 hK7
        have hx := True.intro
        refine rgA [0, 104, 105, 106] [.loc 3] ?_
        iterate 2 refine stA ?_
        refine stG fun hp => ?_
        refine stA ?_
        refine enA ?_
        have h := h (by assumption)
        refine hK7 _ ?_
        apply AW_block_k
        intro Q8 hN8 hE8 hO8
        obtain ⟨n9, h⟩ := h
        refine AW_loopO [] [0, 104, 105, 106] [] (fun y : Nat × Int × List Lt.Line => ⟨[(0, .one (.c (.pl ⟨.out 0, 0, []⟩))), (104, .one (.c (.d (.li (a1_i.Objs.map Lt.Virt.enc))))), (105, .one (.c (.d (.int .i64 (a1_i.Objs.length : Int))))), (106, .one (.c (.d (.int .i64 y.2.1))))], [(.out 0, ⟨true, [.ow [.fr, .fr] (y.2.2.map Lt.Line.enc)]⟩)]⟩) (fun y => F_sheetCode_l4 a1_i KK y.1 y.2.1 y.2.2) (fun y => y.1) (n9, 0, x4) ?_ h ?_
        · exact siA
        clear h
        rintro ⟨n9, x5, x6⟩ h K9 hK9
        cases n9 with
        | zero => exact h.elim
        | succ n9 =>
          change F_sheetCode_l4 a1_i KK (n9 + 1) x5 x6 at h
          unfold F_sheetCode_l4 at h
          apply AW_seq_k
          intro K10 hK10
          have hx := True.intro
          refine rgA [0, 104, 105, 106, 107] [] ?_
          refine stA ?_
          refine enA ?_
          refine hK10 _ ?_
          apply AW_seq_k
          intro K11 hK11
          refine cdA h rfl (fun h => ?_) (fun h => ?_)
          · apply AW_skip
            refine hK11 _ ?_
            apply AW_seq_k
            intro K12 hK12
            apply AW_block_k
            intro Q13 hN13 hE13 hO13
            apply AW_seq_k
            intro K14 hK14
            obtain ⟨ho1, h⟩ := h
            have hx := True.intro
            have hx := getA Lt.Virt.enc ho1 hx
            refine rgA [0, 14, 104, 105, 106] [] ?_
            iterate 4 refine stA ?_
            refine enA ?_
            refine hK14 _ ?_
            obtain ⟨ho1, ho2, ho3, h⟩ := h
            have hx := True.intro
            have hx := useA ho1 hx
            have hx := useA ho2.1 (useA ho2.2 hx)
            have hx := useA ho3 hx
            refine dgT [0, 104, 105, 106] [.gh 117, .loc 14, .gh 113] (⟨[(0, .one (.c (.pl ⟨.out 0, 0, []⟩))), (104, .one (.c (.d (.li (a1_i.Objs.map Lt.Virt.enc))))), (105, .one (.c (.d (.int .i64 (a1_i.Objs.length : Int))))), (106, .one (.c (.d (.int .i64 x5))))], [(.out 0, ⟨true, [.ow [.fr, .fr] ((((Lt.sheetLine (Lt.Sheet.mk x6) ([111, 98, 106] :: (a1_i.Objs.getD x5.toNat default).Class :: (Lt.puts ((a1_i.Objs.getD x5.toNat default).Vals)))).2).l).map Lt.Line.enc)]⟩)]⟩) (True) (.take 0 [] true (.take 1 [] true (.take 4 [] true (.two 2 (.two 3 (.take 5 [6, 7, 8] false (.one 6 (.one 7 (.one 8 (.done))))) 5 (.two 3 (.one 6 (.one 7 (.one 8 (.done)))) 6 (.one 3 (.one 7 (.one 8 (.done)))))) 5 (.two 2 (.two 3 (.one 6 (.one 7 (.one 8 (.done)))) 6 (.one 3 (.one 7 (.one 8 (.done))))) 6 (.take 2 [3, 7, 8] false (.one 3 (.one 7 (.one 8 (.done)))))))))) ?_ ?_
            · iterate 3 refine dtA ?_
              refine d2A ?_ ?_
              · refine d2A ?_ ?_
                · refine dtA ?_
                  iterate 3 refine doA ?_
                  exact dlT trivial
                · refine d2A ?_ ?_
                  · iterate 3 refine doA ?_
                    exact dlT trivial
                  · iterate 3 refine doA ?_
                    exact dlT trivial
              · refine d2A ?_ ?_
                · refine d2A ?_ ?_
                  · iterate 3 refine doA ?_
                    exact dlT trivial
                  · iterate 3 refine doA ?_
                    exact dlT trivial
                · refine dtA ?_
                  iterate 3 refine doA ?_
                  exact dlT trivial
            rintro hG0
            refine hN13 _ ?_
            refine hK12 _ ?_
            have hx := True.intro
            refine rgA [0, 104, 105, 106] [] ?_
            iterate 2 refine stA ?_
            refine enA ?_
            exact hK9 _ (n9, (IntKind.i64.wrap (x5 + 1)), ((Lt.sheetLine (Lt.Sheet.mk x6) ([111, 98, 106] :: (a1_i.Objs.getD x5.toNat default).Class :: (Lt.puts ((a1_i.Objs.getD x5.toNat default).Vals)))).2).l) siA h (Nat.lt_succ_self _)
          · apply AW_exit
            refine hE8 _ ?_
            exact fiA (hKK _ h)

def C_sheetCode : CK1   := ptrC 0 (fp1 Lt.Sheet.cs (cA Lt.Instr.rw) (fun _ => .tup []) (Lt.preCode) Lt.sheetCode)
theorem c_sheetCode : Con Try.prog 31 C_sheetCode :=
  Con_fp1 (c := Lt.Sheet.cs) (fn := Try.f31) (co := Try.f31.body.getD .skip) (by kernel_rfl) (by kernel_rfl) (by kernel_rfl) (by decide +kernel) (fun g a0_s a1_i K hg hp hK => walk_sheetCode g hg a0_s a1_i K _ (fun _ h => h) (law_sheetCode a0_s a1_i hp _ hK))
attribute [push_cast] C_sheetCode

set_option maxRecDepth 100000 in
set_option maxHeartbeats 4000000 in
theorem walk_sheetEnd (g : G) (hg : g.nt = Try.f32.ntmps) (a0_s : Lt.Sheet) (a1_t : Lt.Term) (K : AV → List T → Prop) (KK : (Unit × Lt.Sheet) → Prop) (hKK : ∀ r, KK r → K ((fun _ => .tup []) r.1) (Lt.Sheet.cs.enc r.2)) (h : F_sheetEnd a0_s a1_t KK) :
    AW Try.prog g (Try.f32.body.getD .skip) (retP 0 Try.prog [] K) ⟨entryT 0 [.one (.c (.pl ⟨.out 0, 0, []⟩)), .one ((cA Lt.Term.rw).enc a1_t)], [(.out 0, ⟨true, Lt.Sheet.cs.enc a0_s⟩)]⟩ := by
  have hcs : CT.Ok Try.prog [(16, C_sheetLine), (29, C_numPut), (30, C_wordPut)] := (CT.cons c_sheetLine (CT.cons c_numPut (CT.cons c_wordPut CT.ok0)))
  have hn : g.nt = 45 := hg
  have hm : Try.prog.follows .mixedOrders = true := by kernel_rfl
  unfold Try.f32
  dsimp only [Option.getD_some]
  unfold F_sheetEnd at h
  apply AW_seq_k
  intro K1 hK1
  have hx := True.intro
  refine rgA [0, 3] [] ?_
  refine stA ?_
  refine enA ?_
  refine hK1 _ ?_
  apply AW_seq_k
  intro K2 hK2
  have hx := True.intro
  refine rgA [0, 3, 5] [] ?_
  iterate 2 refine stA ?_
  refine enA ?_
  refine hK2 _ ?_
  apply AW_block_k
  intro Q3 hN3 hE3 hO3
  apply AW_seq_k
  intro K4 hK4
  have hx := True.intro
  refine rgA [0, 3, 5, 12] [] ?_
  iterate 2 refine stA ?_
  refine enA ?_
  refine hK4 _ ?_
  refine cdA h rfl (fun h => ?_) (fun h => ?_)
  · obtain ⟨ho1, ho2, h⟩ := h
    have hx := True.intro
    have hx := getA rS.enc ho1 hx
    have hx := useA ho2 hx
    refine rgA [] [.gh 19, .loc 3] ?_
    iterate 7 refine stA ?_
    refine enA ?_
    refine hN3 _ ?_
    exact fiA (hKK _ h)
  · apply AW_seq_k
    intro K5 hK5
    have hx := True.intro
    refine rgA [0, 3, 5, 21] [] ?_
    iterate 2 refine stA ?_
    refine enA ?_
    refine hK5 _ ?_
    refine cdA h rfl (fun h => ?_) (fun h => ?_)
    · obtain ⟨ho1, ho2, ho3, ho4, h⟩ := h
      have hx := True.intro
      have hx := useA ho1 hx
      have hx := getA rS.enc ho2 hx
      have hx := getA rS.enc ho3 hx
      have hx := useA ho4 hx
      refine dgT [] [.gh 35, .loc 3] (⟨[], [(.out 0, ⟨true, [.ow [.fr, .fr] ((((Lt.sheetLine a0_s [[98, 114, 97, 110, 99, 104], (Lt.wordPut a1_t.A), (a1_t.To.getD 0 default), (a1_t.To.getD 1 default)]).2).l).map Lt.Line.enc)]⟩)]⟩) (True) (.take 0 [] true (.take 1 [] true (.take 2 [3, 12, 13] false (.take 4 [] true (.take 8 [] true (.three 3 (.take 5 [6, 7, 12, 13] false (.take 6 [] true (.take 7 [] true (.take 9 [10, 11, 12, 13] false (.take 10 [] true (.take 11 [] true (.one 12 (.one 13 (.done))))))))) 5 (.take 6 [] true (.take 7 [] true (.two 3 (.take 9 [10, 11, 12, 13] false (.take 10 [] true (.take 11 [] true (.one 12 (.one 13 (.done)))))) 9 (.take 10 [] true (.take 11 [] true (.one 3 (.one 12 (.one 13 (.done))))))))) 9 (.take 10 [] true (.take 11 [] true (.two 3 (.take 5 [6, 7, 12, 13] false (.take 6 [] true (.take 7 [] true (.one 12 (.one 13 (.done)))))) 5 (.take 6 [] true (.take 7 [] true (.one 3 (.one 12 (.one 13 (.done))))))))))))))) ?_ ?_
      · iterate 5 refine dtA ?_
        refine d3A ?_ ?_ ?_
        · iterate 6 refine dtA ?_
          iterate 2 refine doA ?_
          exact dlT trivial
        · iterate 2 refine dtA ?_
          refine d2A ?_ ?_
          · iterate 3 refine dtA ?_
            iterate 2 refine doA ?_
            exact dlT trivial
          · iterate 2 refine dtA ?_
            iterate 3 refine doA ?_
            exact dlT trivial
        · iterate 2 refine dtA ?_
          refine d2A ?_ ?_
          · iterate 3 refine dtA ?_
            iterate 2 refine doA ?_
            exact dlT trivial
          · iterate 2 refine dtA ?_
            iterate 3 refine doA ?_
            exact dlT trivial
      rintro hG0
      refine hN3 _ ?_
      exact fiA (hKK _ h)
    · apply AW_seq_k
      intro K6 hK6
      have hx := True.intro
      refine rgA [0, 3, 37] [] ?_
      iterate 2 refine stA ?_
      refine enA ?_
      refine hK6 _ ?_
      refine cdA h rfl (fun h => ?_) (fun h => ?_)
      · obtain ⟨ho1, ho2, h⟩ := h
        have hx := True.intro
        have hx := useA ho1 hx
        have hx := useA ho2 hx
        refine rgA [] [.gh 43, .loc 3] ?_
        iterate 6 refine stA ?_
        refine enA ?_
        refine hN3 _ ?_
        exact fiA (hKK _ h)
      · obtain ⟨ho1, ho2, h⟩ := h
        have hx := True.intro
        have hx := useA ho1 hx
        have hx := useA ho2 hx
        refine rgA [] [.gh 10, .loc 3] ?_
        iterate 6 refine stA ?_
        refine enA ?_
        refine hN3 _ ?_
        exact fiA (hKK _ h)

def C_sheetEnd : CK1   := ptrC 0 (fp1 Lt.Sheet.cs (cA Lt.Term.rw) (fun _ => .tup []) (Lt.preEnd) Lt.sheetEnd)
theorem c_sheetEnd : Con Try.prog 32 C_sheetEnd :=
  Con_fp1 (c := Lt.Sheet.cs) (fn := Try.f32) (co := Try.f32.body.getD .skip) (by kernel_rfl) (by kernel_rfl) (by kernel_rfl) (by decide +kernel) (fun g a0_s a1_t K hg hp hK => walk_sheetEnd g hg a0_s a1_t K _ (fun _ h => h) (law_sheetEnd a0_s a1_t hp _ hK))
attribute [push_cast] C_sheetEnd

end Go.Am
end
