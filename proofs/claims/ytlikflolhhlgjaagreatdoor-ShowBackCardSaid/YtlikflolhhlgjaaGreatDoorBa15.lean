/-
  Part 15: AmE5 · AmE6 · AmE7 · AmE8 · AmE9 · AmE10 · AmE11 · AmOwnCon · AmE12 · AmOldK · AmE14 · AmSw · AmLib · AmPan.
-/
import Derived.Test.YtlikflolhhlgjaaGreatDoorBa14
set_option linter.unusedSimpArgs false
set_option linter.unusedVariables false
set_option linter.unusedSectionVars false
set_option linter.unnecessarySimpa false
section
namespace Go.Am
abbrev chn (v:Value):List PanicEntry:=[{ v,recovered:=false }]
def kv (g:G) (a:Act) (pk:PKt) (k:St->At->Prop) (e:Ending) (w':World):Prop:=
 (∃ r s' av H' γ' F',e=.returned r/\k s' av/\AR w' H' γ' (toM s'.m) av.toV r/\RX g s'.toS a w' H' γ' F') \/
 ∃ v s',e=.panicked (chn v)/\pk v s'/\R g s'.toS a w'
structure Cont (P:Program) (f:Nat) (C:CKt):Prop where
 run:∀ args w,(callFunc f args).run P w=.ok (.enter f args) w
 ext:∀ (pk:PKt) (s:St) (ops:List Operand) (k k':St->At->Prop),(∀ s' v,Ext s s'->k s' v->k' s' v)->C pk s ops k->C pk s ops k'
 call:∀ (g:G) (pk:PKt) (s:St) (a:Act) (w:World) (H:FH) (γ:Gam) (F:Nm->Fp) (ops:List Operand) (k:St->At->Prop),RX g s.toS a w H γ F->ops.all bh=true->C pk s ops k ->
  Calls P f (ops.map a.eval).toArray w (kv g a pk k)
def En.ok (e:En):Prop:=∀ x∈e.cs,Cont e.P x.1 x.2
theorem En.ok_get {e:En} (h:e.ok) {f:Nat} {C:CKt} (hg:e.cs.get f=some C):Cont e.P f C:=by
 have:∀ cs:CTt,(∀ x∈cs,Cont e.P x.1 x.2)->cs.get f=some C->Cont e.P f C:=by
  intro cs;induction cs with
  | nil=>intro _ h; cases h
  | cons x cs ih=>
   obtain ⟨f',C'⟩:=x;intro h hg2;simp only [CTt.get] at hg2;split at hg2
   ·rename_i hb;have:=adO hb
    subst this;have hg':C'=C:=by simpa using hg2
    subst hg';exact h (f',C') (by simp)
   ·exact ih (fun y hy=>h y (adR _ hy)) hg2
 exact this e.cs h hg
section
variable {k k':At->Prop}
theorem Nr {c x y:At} (hk:∀ v,k v->k' v) (h:Ex c x y k):Ex c x y k':=by
 unfold Ex at h ⊢
 (repeat' split at h) <;> first | exact h.elim | exact hk _ h | exact ⟨h.1,hk _ h.2⟩ | (simp_all; done)
theorem R8 {op:BinOp} {κ:IntKind} {a b:Int} {K K':C->Prop} (hk:∀ v,K v->K' v) (h:UF op κ a b K):UF op κ a b K':=by
 unfold UF at h ⊢;cases op <;> first | exact hk _ h | exact ⟨h.1,hk _ h.2⟩
theorem Sr {op:BinOp} {x y:C} {K K':C->Prop} (hk:∀ v,K v->K' v) (h:QK op x y K):QK op x y K':=by
 unfold QK at h ⊢;split at h
 ·split at h <;> first | exact h.elim | exact hk _ h | exact ⟨h.1,hk _ h.2⟩
 ·split at h
  ·split at h
   ·rename_i hc; rw [if_pos hc]; exact R8 hk h
   ·exact h.elim
  ·exact h.elim
theorem SL {P:Program} {op:BinOp} {t:TypeId} {x y:At} (hk:∀ v,k v->k' v) (h:QN P op t x y k):QN P op t x y k':=by
 unfold QN at h ⊢
 (repeat' split at h) <;> first | exact h.elim | exact hk _ h | exact ⟨h.1,hk _ h.2⟩ | exact Sr (fun v hv=>hk _ hv) h | (simp_all; done)
theorem Tj {op:UnOp} {x:At} (hk:∀ v,k v->k' v) (h:unT op x k):unT op x k':=by
 unfold unT at h ⊢
 (repeat' split at h) <;> first | exact h.elim | exact hk _ h | exact ⟨h.1,hk _ h.2⟩ | (simp_all; done)
theorem Dj {x:At} {i:Nat} (hk:∀ v,k v->k' v) (h:lX x i k):lX x i k':=by
 unfold lX at h ⊢
 (repeat' split at h) <;> first | exact h.elim | exact hk _ h | exact ⟨h.1,hk _ h.2⟩ | (simp_all; done)
theorem KH {x i:At} (hk:∀ v,k v->k' v) (h:vY x i k):vY x i k':=by
 unfold vY at h ⊢
 (repeat' split at h) <;> first | exact h.elim | exact hk _ h | exact ⟨h.1,hk _ h.2⟩ | (simp_all; done)
theorem gq {y:Option At} {d:Nat} {k1 k2:Nat->Prop} (hk:∀ n,k1 n->k2 n) (hb:gN y d k1):gN y d k2:=by
 unfold gN at hb ⊢;split at hb
 ·exact hk _ hb
 ·exact ⟨hb.1,hk _ hb.2⟩
 ·exact hb.elim
theorem LC {P:Program} {t:TypeId} {x:At} {lo hi:Option At} (hk:∀ v,k v->k' v) (h:vS P t x lo hi k):vS P t x lo hi k':=by
 unfold vS at h ⊢;split at h
 ·split at h
  ·exact gq (fun a ha=>gq (fun b hb=>⟨hb.1,hk _ hb.2⟩) ha) h
  ·exact h.elim
 ·split at h
  ·skip
   split at h
   ·exact gq (fun a ha=>gq (fun b hb=>⟨hb.1,hk _ hb.2⟩) ha) h
   ·exact h.elim
  ·exact h.elim
 ·split at h
  ·skip
   split at h
   ·exact gq (fun a ha=>gq (fun b hb=>⟨hb.1,hb.2.1,hk _ hb.2.2⟩) ha) h
   ·exact h.elim
  ·exact h.elim
 ·exact h.elim
theorem yG {P:Program} {m:List (Nm×Nat×Rt)} {t:TypeId} {x:At} {i:Nat} (hk:∀ v,k v->k' v) (h:iE P m t x i k):iE P m t x i k':=by
 unfold iE at h ⊢;split at h
 ·skip
  split at h
  ·skip
   split at h
   ·split at h
    ·exact hk _ h
    ·exact h.elim
   ·exact hk _ h
   ·exact h.elim
  ·exact h.elim
 ·exact h.elim
theorem yQ {P:Program} {m:List (Nm×Nat×Rt)} {t:TypeId} {x i:At} (hk:∀ v,k v->k' v) (h:iB P m t x i k):iB P m t x i k':=by
 unfold iB at h ⊢;split at h
 ·split at h
  ·skip
   split at h
   ·split at h
    ·exact ⟨h.1,hk _ h.2⟩
    ·exact h.elim
   ·split at h
    ·skip
     split at h
     ·skip
      split at h
      ·exact ⟨h.1,hk _ h.2⟩
      ·exact h.elim
     ·exact h.elim
    ·exact h.elim
   ·exact h.elim
  ·skip
   split at h
   ·split at h
    ·exact ⟨h.1,hk _ h.2⟩
    ·exact h.elim
   ·split at h
    ·exact ⟨h.1,hk _ h.2⟩
    ·exact h.elim
   ·exact h.elim
  ·exact h.elim
 ·exact h.elim
theorem Mf {P:Program} {m:List (Nm×Nat×Rt)} {t:TypeId} {x:At} (hk:∀ v,k v->k' v) (h:rH P m t x k):rH P m t x k':=by
 unfold rH at h ⊢;split at h
 ·skip
  split at h
  ·split at h
   ·skip
    split at h
    ·exact hk _ h
    ·exact h.elim
   ·skip
    split at h
    ·exact hk _ h
    ·exact h.elim
  ·split at h
   ·exact ⟨h.1,hk _ h.2⟩
   ·exact h.elim
  ·split at h
   ·skip
    split at h
    ·exact hk _ h
    ·exact h.elim
   ·skip
    split at h
    ·exact hk _ h
    ·exact h.elim
  ·exact h.elim
 ·exact h.elim
theorem Kc {P:Program} {t:TypeId} {x:At} {i:Nat} (hk:∀ v,k v->k' v) (h:wZ P t x i k):wZ P t x i k':=by
 unfold wZ at h ⊢;split at h
 ·skip
  split at h
  ·skip
   split at h
   ·exact hk _ h
   ·exact h.elim
  ·skip
   split at h
   ·exact hk _ h
   ·exact h.elim
  ·exact h.elim
 ·exact h.elim
theorem BK {x:At} (hk:∀ v,k v->k' v) (h:jQ x k):jQ x k':=by
 unfold jQ at h ⊢;split at h
 ·exact hk _ h
 ·exact hk _ h
 ·exact hk _ h
 ·exact h.elim
theorem KE {P:Program} {t:TypeId} {ps:List (Nat×At)} (hk:∀ v,k v->k' v) (h:wj P t ps k):wj P t ps k':=by
 unfold wj at h ⊢;split at h
 ·skip
  split at h
  ·exact hk _ h
  ·exact h.elim
 ·exact h.elim
theorem MW {P:Program} {su du:TypeId} {x:At} (hk:∀ v,k v->k' v) (h:EN P su du x k):EN P su du x k':=by
 unfold EN at h ⊢;split at h
 ·skip
  split at h
  ·split at h
   ·exact hk _ h
   ·exact h.elim
  ·exact h.elim
 ·skip
  split at h
  ·skip
   split at h
   ·exact hk _ h
   ·exact hk _ h
   ·exact h.elim
  ·exact h.elim
 ·exact h.elim
theorem FB {e:En} {o:Oper} {s:St} (hk:∀ v,k v->k' v) (h:qT e o s k):qT e o s k':=by
 unfold qT at h ⊢;cases ho:o.op with
 | move x=>rw [ho] at h; exact hk _ h
 | assign x=>rw [ho] at h; exact hk _ h
 | pick c x y=>rw [ho] at h; exact Nr hk h
 | binOp op t x y z=>rw [ho] at h; exact SL hk h
 | unOp op t x=>rw [ho] at h; exact Tj hk h
 | load t x=>rw [ho] at h; exact Mf hk h
 | field t x i=>rw [ho] at h; exact Kc hk h
 | fieldAddr t x i=>rw [ho] at h; exact yG hk h
 | indexAddr t x i=>rw [ho] at h; exact yQ hk h
 | index t x i=>
  rw [ho] at h;dsimp only at h ⊢;split at h
  ·exact KH hk h
  ·exact h.elim
 | extract x i=>rw [ho] at h; exact Dj hk h
 | convert su du x=>rw [ho] at h; exact MW hk h
 | slice t x lo hi mx=>
  rw [ho] at h;cases mx with
  | some _=>exact h.elim
  | none=>exact LC hk h
 | nilCheck x=>rw [ho] at h; exact BK hk h
 | build t ps=>rw [ho] at h; exact KE hk h
 | call c=>
  rw [ho] at h;dsimp only at h ⊢;split at h
  ·skip
   split at h
   ·exact Ef (fun n hn=>hk _ hn) h
   ·exact h.elim
  ·exact h.elim
 | _=>rw [ho] at h; exact h.elim
end
section
variable {k k':St->Prop} {s:St}
theorem N1 {P:Program} {t:TypeId} {d:Tmp} (hk:∀ s',Ext s s'->k s'->k' s') (h:wA P s t d k):wA P s t d k':=by
 unfold wA at h ⊢;split at h
 ·skip
  split at h
  ·exact hk _ (((gl _ _).trans (my _ _ _)).trans (bE _ _ _)) h
  ·exact h.elim
 ·exact h.elim
theorem Vl {x:Operand} {d:Tmp} (hk:∀ s',Ext s s'->k s'->k' s') (h:RU s x d k):RU s x d k':=by
 unfold RU at h ⊢;split at h
 ·skip
  split at h
  ·exact hk _ (((gl _ _).trans (my _ _ _)).trans (bE _ _ _)) h
  ·exact h.elim
 ·exact h.elim
theorem yL {P:Program} {E:Ut} {t:TypeId} {n:Nat} {ps:Array (Nat×Operand)} {d:Tmp} (hk:∀ s',Ext s s'->k s'->k' s') (h:gm P E s t n ps d k):gm P E s t n ps d k':=by
 unfold gm at h ⊢;split at h
 ·skip
  split at h
  ·skip
   split at h
   ·skip
    dsimp only at h ⊢;split at h
    ·skip
     split at h
     ·skip
      exact hk _ ((((dj _ _).trans (gl _ _)).trans (my _ _ _)).trans (bE _ _ _)) h
     ·exact h.elim
    ·exact h.elim
   ·exact h.elim
  ·exact h.elim
 ·exact h.elim
theorem BI {p:Pl} {t:Tt} (hk:∀ s',Ext s s'->k s'->k' s') (h:Je s p t k):Je s p t k':=by
 unfold Je at h ⊢;split at h
 ·exact h.elim
 ·skip
  split at h
  ·skip
   split at h
   ·exact hk _ ⟨aeW _,fun _ _ _ h _=>h,fJ _ _ (adH _) _⟩ h
   ·exact h.elim
  ·skip
   split at h
   ·exact qP (hk _ ⟨aeW _,fun _ _ _ h _=>h,fJ _ _ (adH _) _⟩) h
   ·exact h.elim
  ·skip
   split at h
   ·skip
    split at h
    ·exact qP (xK (hk _ ⟨aeW _,fun _ _ _ h _=>h,fJ _ _ (adH _) _⟩)) h
    ·exact h.elim
   ·exact h.elim
  ·exact h.elim
theorem lC:∀ {ts:List Tt} {s:St} {p:Pl},(∀ s',Ext s s'->k s'->k' s')->jy s p ts k->jy s p ts k'
 | [],s,p,hk,h=>hk _ (Ext.refl s) h
 | t::ts,s,p,hk,h=>by
  cases t with
  | rf q=>
   simp only [jy] at h ⊢;split at h
   ·skip
    split at h
    ·skip
     exact BI (fun s' he hs'=>lC (fun s'' he'=>hk s'' (((AK _ _).trans he).trans he')) hs') h
    ·exact h.elim
   ·exact h.elim
  | any=>exact h.elim
  | d c=>cases c with
   | any=>exact h.elim
   | _=>exact BI (fun s' he hs'=>lC (fun s'' he'=>hk s'' (he.trans he')) hs') h
  | _=>exact BI (fun s' he hs'=>lC (fun s'' he'=>hk s'' (he.trans he')) hs') h
theorem KL {p:Pl} {ts:List Tt} (hk:∀ s',Ext s s'->k s'->k' s') (h:re s p ts k):re s p ts k':=by
 unfold re at h ⊢;split at h
 ·exact h.elim
 ·skip
  split at h
  ·skip
   split at h
   ·exact qP (hk _ ⟨aeW _,fun _ _ _ h _=>h,fJ _ _ (adH _) _⟩) h
   ·exact h.elim
  ·exact h.elim
theorem N0 {P:Program} {t:TypeId} {x v:At} (hk:∀ s',Ext s s'->k s'->k' s') (h:we P s t x v k):we P s t x v k':=by
 unfold we at h ⊢;split at h
 ·skip
  split at h
  ·skip
   split at h
   ·exact KL hk h
   ·exact lC hk h
  ·exact h.elim
 ·exact h.elim
theorem wx {u:U} {v:At} {s':St} {sub:List Sh} {l:List (El u)} (h:ye s u v=some (s',sub,l)):Ext s s':=by
 unfold ye at h;split at h
 ·simp only [ac8,Prod.mk.injEq] at h;obtain ⟨rfl,_⟩:=h; exact Ext.refl _
 ·split at h
  ·split at h
   ·rename_i htake;simp only [ac8,Prod.mk.injEq] at h;obtain ⟨rfl,_⟩:=h;unfold VO at htake;split at htake
    ·cases htake
    ·split at htake
     ·simp only [ac8] at htake;rw [<- htake];exact ⟨aeW _,gz (adH _),(fJ _ _ (adH _) s.m).trans (fQ (adH _))⟩
     ·simp only [ac8] at htake;rw [<- htake];exact ⟨aeW _,gz (adH _),(fJ _ _ (adH _) s.m).trans (fQ (adH _))⟩
     ·cases htake
   ·cases h
  ·cases h
 ·cases h
theorem Jk {P:Program} {E:Ut} {t u:TypeId} {x y:Operand} {d:Tmp} (hk:∀ s',Ext s s'->k s'->k' s') (h:qW P E s t u x y d k):qW P E s t u x y d k':=by
 unfold qW at h ⊢;dsimp only at h ⊢;split at h
 ·skip
  split at h
  ·skip
   split at h
   ·skip
    split at h
    ·rename_i h3 h4;split at h
     ·skip
      exact ⟨h.1,hk _ (((((ml _ _).trans (wx h4)).trans (gl _ _)).trans (my _ _ _)).trans (bE _ _ _)) h.2⟩
     ·exact h.elim
    ·exact h.elim
   ·exact h.elim
  ·exact h.elim
 ·exact h.elim
theorem wy {P:Program} {E:Ut} {sub:List Sh} {t:TypeId} {n:Nat} {ps:Array (Nat×Operand)} {d:Tmp} (hk:∀ s',Ext s s'->k s'->k' s') (h:fV P E sub s t n ps d k):fV P E sub s t n ps d k':=by
 unfold fV at h ⊢;split at h
 ·skip
  split at h
  ·skip
   split at h
   ·skip
    dsimp only at h ⊢;split at h
    ·skip
     split at h
     ·skip
      exact hk _ ((((dj _ _).trans (gl _ _)).trans (my _ _ _)).trans (bE _ _ _)) h
     ·exact h.elim
    ·exact h.elim
   ·exact h.elim
  ·exact h.elim
 ·exact h.elim
theorem Gj {P:Program} {E:Ut} {t u:TypeId} {x y:Operand} {d:Tmp} (hk:∀ s',Ext s s'->k s'->k' s') (h:mH P E s t u x y d k):mH P E s t u x y d k':=by
 unfold mH at h ⊢;split at h
 ·skip
  split at h
  ·skip
   split at h
   ·skip
    split at h
    ·rename_i h3;split at h
     ·rename_i h4;split at h
      ·skip
       exact ⟨h.1,hk _ (((((wx h3).trans (wx h4)).trans (gl _ _)).trans (my _ _ _)).trans (bE _ _ _)) h.2⟩
      ·exact h.elim
     ·exact h.elim
    ·exact h.elim
   ·exact h.elim
  ·exact h.elim
 ·exact h.elim
theorem aa8 {e:En} (he:e.ok) {o:Oper} (hk:∀ s',Ext s s'->k s'->k' s') (h:lT e o s k):lT e o s k':=by
 unfold lT at h ⊢;cases ho:o.op with
 | store t x v=>rw [ho] at h; exact N0 (fun s' he hs'=>hk _ (((RJ _ _ _).trans he).trans (bE _ _ _)) hs') h
 | alloc t=>
  rw [ho] at h;cases hd:o.dst with
  | none=>rw [hd] at h; exact h.elim
  | some d=>rw [hd] at h; exact N1 hk h
 | box t x=>
  rw [ho] at h;cases hd:o.dst with
  | none=>rw [hd] at h; exact h.elim
  | some d=>rw [hd] at h; exact Vl hk h
 | buildSlice t n ps=>
  rw [ho] at h;cases hd:o.dst with
  | none=>rw [hd] at h; exact h.elim
  | some d=>
   rw [hd] at h;dsimp only at h ⊢;split at h
   ·exact yL hk h
   ·exact wy hk h
 | call c=>
  rw [ho] at h;dsimp only at h ⊢;split at h
  ·skip
   cases hd:o.dst with
   | none=>rw [hd] at h; exact h.elim
   | some d=>
    rw [hd] at h;dsimp only at h ⊢;split at h
    ·exact Jk hk h
    ·exact Gj hk h
  ·skip
   split at h
   ·rename_i C hg;exact (En.ok_get he hg).ext _ _ _ _ _ (fun s' v hE hs'=>hk _ (hE.trans (bE _ _ _)) hs') h
   ·exact h.elim
  ·skip
   split at h
   ·skip
    split at h
    ·rename_i C hg;exact (En.ok_get he hg).ext _ _ _ _ _ (fun s' v hE hs'=>hk _ (hE.trans (bE _ _ _)) hs') h
    ·exact h.elim
   ·exact h.elim
  ·exact h.elim
 | _=>rw [ho] at h; exact h.elim
theorem OR {e:En} (he:e.ok) {o:Oper} (hk:∀ s',Ext s s'->k s'->k' s') (h:opT e o s k):opT e o s k':=by
 unfold opT at h ⊢;split at h
 ·rename_i hq;exact FB (fun v hv=>hk _ ((K0 _ _).trans (bE _ _ _)) hv) h
 ·exact aa8 he hk h
end
section
variable {P:Program} {g:G} {Q:Exit->S->Prop} {s:St}
def AOt (P:Program) (g:G) (o:Oper) (k:St->Prop) (Q:Exit->S->Prop) (s:St):Prop:=
 ∀ a w,R g s.toS a w->o.wp P a w (fun a' w'=>∃ s':St,k s'/\R g s'.toS a' w') (lift g Q)
def PQ (pk:PKt):Exit->S->Prop:=fun x s=>∃ v,∃ t:St,x=.panic (chn v)/\s=t.toS/\pk v t
theorem aaP {e:En} (he:e.ok) (hpk:∀ x s,PQ e.pk x s->Q x s) {o:Oper} {k:St->Prop} (hc:opC g.nt o=true) (hq:isQ o=false) (h:lT e o s k):AOt e.P g o k Q s:=by
 intro a w hR;obtain ⟨H,γ,F,hX⟩:=hR;have hn:=uu hX
 have base:∀ {s1:St},(∃ H' F',RX g s1.toS a w H' γ F')->opK e.P [] o s1.toS (upS k)->o.wp e.P a w (fun a' w'=>∃ s':St,k s'/\R g s'.toS a' w') (lift g Q):=by
  intro s1 ⟨H',F',hX1⟩ hop;exact bz (fun a' w' ⟨s',⟨t,e,hk⟩,hR'⟩=>⟨t,hk,Jz e hR'⟩) (fun _ _ _ h=>h) (Gf (Q:=Q) CT.ok0 hc hop a w ⟨H',γ,F',hX1⟩)
 have hcc:=hc
 unfold opC at hcc;rw [ac9] at hcc;obtain ⟨hd,hcc⟩:=hcc;unfold lT at h;cases ho:o.op with
 | store t x v=>
  rw [ho] at h hcc;simp only [ac9] at hcc;have hX1:=Rc hX (evA s x) (evA s v)
  refine base hX1 ?_;obtain ⟨H1,F1,h1⟩:=hX1;unfold opK;rw [ho];dsimp only;rw [aF hcc.1,aF hcc.2];exact Rb (fun t' hk=>⟨_,cN t' o.dst .any,hk⟩) (uu h1) h
 | alloc t=>
  rw [ho] at h;cases hdd:o.dst with
  | none=>rw [hdd] at h; exact h.elim
  | some d=>
   rw [hdd] at h;refine base (s1:=s) ⟨H,F,hX⟩ ?_;unfold opK;rw [ho,hdd];exact SG hn h
 | box t x=>
  rw [ho] at h hcc;cases hdd:o.dst with
  | none=>rw [hdd] at h; exact h.elim
  | some d=>
   rw [hdd] at h;refine base (s1:=s) ⟨H,F,hX⟩ ?_;unfold opK;rw [ho,hdd];exact YB hn hcc h
 | buildSlice t n ps=>
  rw [ho] at h hcc;cases hdd:o.dst with
  | none=>rw [hdd] at h; exact h.elim
  | some d=>
   rw [hdd] at h hd;have hX1:=eF (ps.toList.map fun x=>evA s x.2) s H F hX
   dsimp only at h;split at h
   ·refine base hX1 ?_;unfold opK;rw [ho,hdd];obtain ⟨H1,F1,h1⟩:=hX1;exact Bo hcc (uu h1) h
   ·obtain ⟨H1,F1,h1⟩:=hX1;obtain ⟨s',y,w',H',γ',F',e1,⟨t',et,hk⟩,e3⟩:=yV (P:=e.P) h1 hd hcc (yv hcc (uu h1) h);unfold Oper.wp;have:(execOp a.eval o).run e.P w=.ok (.value y) w':=by simp only [execOp,ho]; rw [Sem.run_bind,e1]; rfl
    rw [this];exact ⟨t',hk,H',γ',F',fD et (by rw [hdd]; exact e3)⟩
 | call c=>
  rw [ho] at h hcc;obtain ⟨callee,args,argTypes⟩:=c;obtain ⟨args⟩:=args;obtain ⟨argTypes⟩:=argTypes;dsimp only at h hcc;cases callee with
  | builtin b=>
   cases b with
   | append=>
    match args,argTypes,h with
    | [x,y],[t,u],h=>
     have h1:bh x=true/\bh y=true:=by simpa using hcc
     cases hdd:o.dst with
     | none=>rw [hdd] at h; exact h.elim
     | some d=>
      rw [hdd] at h hd;dsimp only at h;split at h
      rotate_left
      ·obtain ⟨s',y',w',H',γ',F',e1,⟨t',et,hk⟩,e3⟩:=IL (P:=e.P) (tt:=o.type) hX hd h1.1 h1.2 (JR h1.1 h1.2 hn (fun q hq=>by
         have h3:=br hX h1.2
         rw [aF h1.2,hq] at h3;obtain ⟨_,h4,_⟩:=h3;exact Fi h4) (fun size s1 sub l q hn1 hb hq=>by
         have hy:=br hX h1.2
         rw [aF h1.2] at hy;obtain ⟨_,_,F1,_,hX1,_⟩:=BP hX hy hb;have h3:=br hX1 h1.1
         rw [aF h1.1,hq] at h3;obtain ⟨_,h4,_⟩:=h3;exact Fi h4) h)
       unfold Oper.wp;have:(execOp a.eval o).run e.P w=.ok (.value y') w':=by
        simp only [execOp,ho,resolve,invoke,builtin,Sem.run_bind,Sem.run_pure,Result.andThen_ok,List.map_toArray,List.map_cons,List.map_nil];rw [e1]; rfl
       rw [this];exact ⟨t',hk,H',γ',F',fD et (by rw [hdd]; exact e3)⟩
      have hX1:=mO hX (evA s y)
      refine base hX1 ?_;unfold opK;rw [ho,hdd];obtain ⟨H1,F1,h2⟩:=hX1;exact Mg h1.1 h1.2 (uu h2) (fun q hq=>by
       have h3:=br h2 h1.1
       rw [aF h1.1,hq] at h3;obtain ⟨_,h4,_⟩:=h3;exact Fi h4) h
   | _=>exact h.elim
  | value v=>
   cases v with
   | func f=>
    dsimp only at h;cases hg:e.cs.get f with
    | none=>rw [hg] at h; exact h.elim
    | some C=>
     rw [hg] at h;have hC:=En.ok_get he hg
     have hr:(execOp a.eval o).run e.P w=.ok (.enter f (args.map a.eval).toArray) w:=by
      simp only [execOp,ho,resolve,Act.eval,Deferred.ofValue,Sem.run_bind,Sem.run_pure,Result.andThen_ok,invoke];rw [hC.run];simp
     unfold Oper.wp;rw [hr];refine Calls.mono (hC.call g e.pk s a w H γ F args _ hX hcc h) (fun e' w' hp=>?_);rcases hp with ⟨r,s',av,H',γ',F',k1,k2,k3,k4⟩ | ⟨v,s',k1,k2,k4⟩
     ·subst k1;exact ⟨_,k2,H',γ',F',fD (cN s' o.dst av) (k4.put hd k3)⟩
     ·subst k1;exact ⟨_,hpk _ _ ⟨v,s',rfl,rfl,k2⟩,k4⟩
   | tmp t=>
    dsimp only at h;split at h
    ·rename_i f hf ht;cases hg:e.cs.get f with
     | none=>rw [hg] at h; exact h.elim
     | some C=>
      rw [hg] at h;have hC:=En.ok_get he hg
      have hv:a.eval (.tmp t)=.func (.func f) #[] #[]:=by
       have h3:=hX.t t
       rw [G.tv_lo (show t<TB from adN ht)] at h3;unfold acK at hf;split at hf
       ·rename_i f' x y hgt;split at hf
        ·rename_i hx0 hy0;simp only [ac8] at hf;subst hf;rw [show aK s.toS.t t=(gtA s.t t).toV from dB t s.t,hgt] at h3;obtain ⟨_,m,h3⟩:=h3;have e1:a.tmps.getD t undef=.func (.func f') x y:=by cases m <;> exact h3.1
         show a.tmps.getD t undef=_
         rw [e1];have ex:x=#[]:=agV hx0
         have ey:y=#[]:=agV hy0
         rw [ex,ey]
        ·cases hf
       ·cases hf
      have hr:(execOp a.eval o).run e.P w=.ok (.enter f (args.map a.eval).toArray) w:=by
       simp only [execOp,ho,resolve,hv,Deferred.ofValue,Sem.run_bind,Sem.run_pure,Result.andThen_ok,invoke];rw [hC.run];simp
      unfold Oper.wp;rw [hr];refine Calls.mono (hC.call g e.pk s a w H γ F args _ hX hcc h) (fun e' w' hp=>?_);rcases hp with ⟨r,s',av,H',γ',F',k1,k2,k3,k4⟩ | ⟨v,s',k1,k2,k4⟩
      ·subst k1;exact ⟨_,k2,H',γ',F',fD (cN s' o.dst av) (k4.put hd k3)⟩
      ·subst k1;exact ⟨_,hpk _ _ ⟨v,s',rfl,rfl,k2⟩,k4⟩
    ·exact h.elim
   | _=>exact h.elim
  | invoke r n=>exact h.elim
 | _=>rw [ho] at h; exact h.elim
theorem OP {e:En} (he:e.ok) (hpk:∀ x s,PQ e.pk x s->Q x s) {o:Oper} {k:St->Prop} (hc:opC g.nt o=true) (h:opT e o s k):AOt e.P g o k Q s:=by
 unfold opT at h;split at h
 ·rename_i hq;intro a w ⟨H,γ,F,hX⟩;obtain ⟨H1,F1,hX1⟩:=zM hX o;obtain ⟨z,d,B,_,e1,e2,e3⟩:=Be hX1 hc (Vb hX1 hc h);obtain ⟨v',rfl,hk⟩:=e3;unfold Oper.wp;rw [e1 w (fun _ _=>rfl)];exact ⟨_,hk,H1,γ,F1,fD (cN _ _ _) (hX1.put (eB hc) e2)⟩
 ·rename_i hq;exact aaP he hpk hc hq h
theorem Te {o:Oper} {K:S->Prop} {s s':S} (e:SEq s s') (h:AO P g o K Q s'):AO P g o K Q s:=fun a w hR=>h a w (Jz e hR)
theorem MV {ops rest:List Oper} {s s':S} (e:SEq s s') (h:AL P g ops rest Q s'):AL P g ops rest Q s:=fun a w hR=>h a w (Jz e hR)
theorem Po {o:Oper} {K:S->Prop} (h:AOt P g o (fun t=>K t.toS) Q s):AO P g o K Q s.toS:=fun a w hR=>
 bz (fun a' w' ⟨s',hk,hR'⟩=>⟨s'.toS,hk,hR'⟩) (fun _ _ _ h=>h) (h a w hR)
theorem kG {d:Nat} {v:At} (h:gtA s.t d=v):aK s.toS.t d=v.toV:=by rw [<- h]; exact dB d s.t
theorem oU (s:St) (d:Nat) (b:Bool):SEq (s.toS.put (some d) (.one (.c (.d (.bool b))))) (s.put (some d) (sct (.bo b))).toS:=cN s (some d) (sct (.bo b))
theorem u5 (s:St) (d:Nat) (b:Bool) (o:Option Tmp):SEq ((s.toS.put (some d) (.one (.c (.d (.bool b))))).put o (.tup [])) ((s.put (some d) (sct (.bo b))).put o (.tup [])).toS:=by
 have h1:=oU s d b
 have h2:=cN (s.put (some d) (sct (.bo b))) o (.tup [])
 refine ⟨fun i=>?_,?_⟩
 ·rw [<- h2.1 i];cases o with
  | none=>exact h1.1 i
  | some o=>show aK (oL _ o _) i=aK (oL _ o _) i; rw [gB,gB,h1.1 i]; rfl
 ·rw [<- h2.2]; cases o <;> exact h1.2
theorem nu {e:En} (he:e.ok) (hpk:∀ x s,PQ e.pk x s->Q x s) {k:St->Prop} {all:List Oper}:∀ {rest:List Oper} {s:St},oN g.nt all rest=true->nT e all rest s k->(∀ t:St,k t->Q .normal t.toS)->AL e.P g all rest Q s.toS
 | [],s,_,h,hQ=>M3 (hQ s h)
 | o::r,s,hc,h,hQ=>by
  simp only [oN,ac9] at hc;obtain ⟨⟨hc1,hc2⟩,hc3⟩:=hc;simp only [nT] at h;have run:∀ {s:St},opT e o s (fun s'=>nT e all r s' k)->AO e.P g o (AL e.P g all r Q) Q s.toS:=fun {s} h=>
   Po (fun a w hR=>bz (fun a' w' ⟨s',hk,hR'⟩=>⟨s',nu he hpk hc3 hk hQ,hR'⟩) (fun _ _ _ h=>h) (OP he hpk hc1 h a w hR))
  cases hg:o.guard with
  | none=>
   rw [hg] at h;exact Ft hg (run h)
  | some q=>
   obtain ⟨j,want⟩:=q;rw [hg] at h hc2;dsimp only at h hc2;cases hj:(all[j]?).bind (·.dst) with
   | none=>rw [hj] at h; exact h.elim
   | some d=>
    rw [hj] at h hc2;dsimp only at h hc2;split at h
    ·rename_i c hcc;have hgt:aK s.toS.t d=.one (.c (.d (.bool c))):=kG hcc
     cases want with
     | true=>
      dsimp only at h;refine BT hg hj hgt hc2 (eB hc1) (fun hc=>?_) (fun hc=>?_)
      ·subst hc; rw [if_pos rfl] at h; exact Te (oU s d true) (run h)
      ·subst hc; rw [if_neg (by simp)] at h; exact MV (u5 s d _ _) (nu he hpk hc3 h hQ)
     | false=>
      dsimp only at h;refine BT hg hj hgt hc2 (eB hc1) (fun hc=>?_) (fun hc=>?_)
      ·subst hc; rw [if_neg (by simp)] at h; exact Te (oU s d false) (run h)
      ·subst hc; rw [if_pos (by rfl)] at h; exact MV (u5 s d _ _) (nu he hpk hc3 h hQ)
    ·rename_i hcc;exact BQ hg hj (kG hcc) (eB hc1) (MV (cN s o.dst (.tup [])) (nu he hpk hc3 h hQ))
    ·exact h.elim
theorem BL {e:En} (he:e.ok) {all:List Oper} {k k':St->Prop}:∀ {rest:List Oper} {s:St},(∀ s',Ext s s'->k s'->k' s')->nT e all rest s k->nT e all rest s k'
 | [],s,hk,h=>hk s (Ext.refl s) h
 | o::r,s,hk,h=>by
  have run:∀ {s1:St},Ext s s1->opT e o s1 (fun s'=>nT e all r s' k)->opT e o s1 (fun s'=>nT e all r s' k'):=fun {s1} h1 h=>
   OR he (fun s' h2 hs'=>BL he (fun s'' h3=>hk s'' ((h1.trans h2).trans h3)) hs') h
  have rest:∀ {s1:St},Ext s s1->nT e all r s1 k->nT e all r s1 k':=fun {s1} h1 h=>BL he (fun s'' h3=>hk s'' (h1.trans h3)) h
  simp only [nT] at h ⊢;split at h
  ·exact run (Ext.refl s) h
  ·rename_i j want hg;split at h
   ·rename_i d hj;split at h
    ·rename_i c hcc;cases want <;> cases c <;> simp only [adB,if_true,if_false] at h ⊢
     ·exact run (bE _ _ _) h
     ·exact rest ((bE _ _ _).trans (bE _ _ _)) h
     ·exact rest ((bE _ _ _).trans (bE _ _ _)) h
     ·exact run (bE _ _ _) h
    ·exact rest (bE _ _ _) h
    ·exact h.elim
   ·exact h.elim
end
end Go.Am
end

section
namespace Go.Am
section
variable {e:En} {g:G} {k:St->Prop} {Q:Exit->S->Prop}
theorem Re {x:At} (h:WS x=true):Kx x.toV=true:=by
 unfold WS at h;split at h
 ·rfl
 ·rfl
 ·cases h
theorem N6 {s:St} {o:Oper} (hc:opC g.nt o=true) (h:m6 s o=true):gf s.toS o:=by
 unfold m6 at h;unfold gf;unfold opC at hc;rw [ac9] at hc;cases ho:o.op with
 | load t x=>
  rw [ho] at h hc;dsimp only at hc ⊢;rw [aF hc.2];exact Re h
 | _=>trivial
theorem Y9 {ops:List Oper} {o:Oper} {s:St} {f no:St->Prop} (h:gT ops o s f no):gK ops o s.toS (upS f) (upS no):=by
 unfold gT at h;unfold gK;cases hg:o.guard with
 | none=>rw [hg] at h; exact ⟨s,⟨fun _=>rfl,rfl⟩,h⟩
 | some q=>
  obtain ⟨j,want⟩:=q;rw [hg] at h;dsimp only at h ⊢;cases hj:(ops[j]?).bind (·.dst) with
  | none=>rw [hj] at h; exact h.elim
  | some d=>
   rw [hj] at h;dsimp only at h ⊢;split at h
   ·rename_i c hcc;rw [kG hcc];simp only [At.toV,A1.toV,Tt.toT,C.toD];cases want <;> cases c <;> simp only [adB,if_true,if_false] at h <;> simp only [gsel]
    ·exact ⟨_,oU s d false,h⟩
    ·exact ⟨_,u5 s d _ _,h⟩
    ·exact ⟨_,u5 s d _ _,h⟩
    ·exact ⟨_,oU s d true,h⟩
   ·rename_i hcc;rw [kG hcc];exact ⟨_,cN s o.dst (.tup []),h⟩
   ·exact h.elim
theorem OJ {ops:List Oper} {o:Oper} {s:St} {f f' no no':St->Prop} (hf:∀ s',Ext s s'->f s'->f' s') (hn:∀ s',Ext s s'->no s'->no' s') (h:gT ops o s f no):gT ops o s f' no':=by
 unfold gT at h ⊢;cases hg:o.guard with
 | none=>rw [hg] at h; exact hf _ (Ext.refl s) h
 | some q=>
  obtain ⟨j,want⟩:=q;rw [hg] at h;dsimp only at h ⊢;cases hj:(ops[j]?).bind (·.dst) with
  | none=>rw [hj] at h; exact h.elim
  | some d=>
   rw [hj] at h;dsimp only at h ⊢;split at h
   ·rename_i c _;cases want <;> cases c <;> simp only [adB,if_true,if_false] at h ⊢
    ·exact hf _ (bE _ _ _) h
    ·exact hn _ ((bE _ _ _).trans (bE _ _ _)) h
    ·exact hn _ ((bE _ _ _).trans (bE _ _ _)) h
    ·exact hf _ (bE _ _ _) h
   ·exact hn _ (bE _ _ _) h
   ·exact h.elim
theorem KN {ops:Array Oper} {K:S->Prop} {fuel:Nat} {listed:Array Bool} {i:Nat} {A:List Nat} {fz:Bool} {o:Oper} (hC:kY g.nt ops=true) (hs:Region.noSelect ops=true) (hi:ops[i]? = some o)
  (ht:Cy ops listed i A fz=true) {s:St} {D:St->Prop} (hD:∀ s:St,D s->AD e.P g ops Q K fuel (listed.setIfInBounds i true) s.toS)
  (h:gT ops.toList o s (fun s=>(fz=true->m6 s o=true)/\qT e o s fun v=>D (s.put o.dst v)) D):AD e.P g ops Q K (fuel+1) listed s.toS:=by
 intro a w H γ F Pr hX hPr;simp only [Cy,ac9] at ht;obtain ⟨⟨⟨⟨t1,t2⟩,t3⟩,t4⟩,t5⟩:=ht;obtain ⟨c1,c2⟩:=iS hC hi;have hready:=Region.ready_mem_of_contains t2
 have hbeh:behind .any ops i (fun j=>A.contains j) listed:=by
  intro j hj hun;have:=adI.1 t4 j (by simpa using hj)
  rw [fL.2 hun] at this;cases ho:ops[j]? with
  | none=>rw [ho] at this; simp at this
  | some oj=>
   rw [ho] at this;simp only [afV,afF] at this;obtain ⟨e,he,h1⟩:=Array.any_eq_true'.1 this;simp only [ac9,ad4,beq_iff_eq] at h1;exact ⟨oj,rfl,e,he,h1.1.1,fL.1 h1.1.2,h1.2⟩
 have hset:∀ j,(listed.setIfInBounds i true).getD j true=false->listed.getD j true=false:=fun j h=>(io h).1
 rcases vC hX (Y9 h) (eB c1) c2 with ⟨hw,s0,⟨s',e0,hf,hq⟩,hX0⟩ | ⟨hw,s0,⟨s',e0,hno⟩,hX0⟩
 ·have hX':=fD e0 hX0
  obtain ⟨z,d,B,e0,e1,e2,v',e3,hk⟩:=Be hX' c1 (Vb hX' c1 hq);subst e3;refine jG (uh g Q) (A:=fun j=>A.contains j) (B:=B) (v:=z) hi (Region.noSelect_spec hs) fuel listed Pr (fun j b=>Pr j b\/(A.contains j=false/\B b)) a w (fun j b h=>.inl h) (fun j b h1 h2=>.inr ⟨h1,h2⟩)
   (Region.free_spec hi t1) hbeh hready (.inl ⟨hw,fun w2 hs2=>e1 w2 hs2⟩) (hD _ hk (a.put o.dst z) w H γ F _ (fD (cN _ _ _) (hX'.put (eB c1) e2)) ?_)
  intro j oj hj hun;obtain ⟨hun1,hji⟩:=io hun;rcases hPr j oj hj hun1 with hp | hp
  ·exact .inl hp
  cases hfz:fz with
  | true=>
   refine .inr fun b hb=>?_
   rcases hb with hb | ⟨_,hb⟩
   ·exact hp b hb
   ·exact e0 (N6 c1 (hf hfz)) b hb
  | false=>
   rw [hfz,afF] at t5;have:=adI.1 t5 j (ag2.2 (Array.getElem?_eq_some_iff.1 hj).1)
   rw [fL.2 hun1,hj] at this;simp only [afV,afF,ad4,beq_iff_eq] at this;rcases this with (this | this) | this
   ·exact absurd this hji
   ·refine .inr fun b hb=>?_
    rcases hb with hb | ⟨hb,_⟩
    ·exact hp b hb
    ·rw [this] at hb; cases hb
   ·exact .inl this
 ·have hX':=fD e0 hX0
  refine jG (uh g Q) (A:=fun _=>false) (B:=fun _=>False) (v:=undef) hi (Region.noSelect_spec hs) fuel listed Pr Pr a w (fun j b h=>h) (fun j b _ h2=>h2.elim)
   (Region.free_spec hi t1) (fun j h=>by cases h) hready (.inr ⟨hw,rfl⟩) (hD _ hno (a.put o.dst undef) w H γ F _ hX' (hPr.mono hset (fun _ _ _ h=>h)))
theorem Vq {ops:Array Oper} {K:S->Prop} {fuel:Nat} {listed:Array Bool} {i:Nat} {o:Oper} (he:e.ok) (hpk:∀ x s,PQ e.pk x s->Q x s) (hC:kY g.nt ops=true) (hun:listed.getD i true=false) (hi:ops[i]? = some o) {s:St}
  {D:St->Prop} (hD:∀ s:St,D s->AD e.P g ops Q K fuel (listed.setIfInBounds i true) s.toS) (h:gT ops.toList o s (fun s=>opT e.cl o s D) D) {a:Act} {w:World} {H:FH} {γ:Gam} {F:Nm->Fp} {Pr:Nat->Bs} (hX:RX g s.toS a w H γ F) (hPr:RW ops listed H Pr) :
  lOp e.P ops (Zx g Q) Pr i (fun a' w'=>∃ Pr':Nat->Bs,(∀ j b,Pr j b->Pr' j b)/\sM e.P .any ops (Zx g Q) (fun a w=>∃ s',K s'/\R g s' a w) fuel (listed.setIfInBounds i true) Pr' a' w') a w:=by
 have hset:∀ j,(listed.setIfInBounds i true).getD j true=false->listed.getD j true=false:=fun j h=>(io h).1
 unfold lOp;rw [hi];obtain ⟨c1,c2⟩:=iS hC hi;dsimp only;rcases vC hX (Y9 h) (eB c1) c2 with ⟨hw,s0,⟨s',e0,hop⟩,hX0⟩ | ⟨hw,s0,⟨s',e0,hno⟩,hX0⟩
 ·have hX':=fD e0 hX0
  rw [if_pos hw];by_cases hq:isQ o=true
  ·unfold opT at hop;rw [hq] at hop;dsimp only at hop;obtain ⟨H1,F1,hX1,hH1⟩:=Ir hX' (fun g' H F hx=>zM hx o);obtain ⟨z,d,B,_,e1,e2,e3⟩:=Be hX1 c1 (Vb hX1 c1 hop);obtain ⟨v',rfl,hk⟩:=e3;unfold Oper.wp;rw [e1 w (fun _ _=>rfl)];exact ⟨fun _ _=>rfl,Pr,fun _ _ h=>h,hD _ hk (a.put o.dst z) w H1 γ F1 Pr (fD (cN _ _ _) (hX1.put (eB c1) e2)) (hPr.mono hset hH1)⟩
  ·have hp:∀ b,Pr i b->∃ x y,H b x=some y:=by
    rcases hPr i o hi hun with h | h
    ·exact absurd h hq
    ·exact h
   let g':G:=⟨g.nt,w,H,tot F s'.toS.m,g.out,g.ex,g.dfs⟩
   have hX2:RX g' s'.toS a w H γ F:=⟨hX'.mem,Fr.refl' rfl rfl rfl rfl (fun _ h=>h),hX'.nt,⟨hX'.df.1,hX'.df.2.1,dJ hX'⟩,hX'.t⟩
   refine bz ?_ (fun x a' w' h=>?_) (OP (g:=g') (e:=e.cl) (Q:=PQ e.cl.pk) he (fun _ _ h=>h) c1 hop a w ⟨H,γ,F,hX2⟩)
   ·intro a' w' ⟨s2,hs2,H2,γ2,F2,hX3⟩;have hfr:=hX3.fr
    refine ⟨fun b hb=>?_,Pr,fun _ _ h=>h,?_⟩
    ·obtain ⟨x,y,hxy⟩:=hp b hb;have hc:=hX'.mem.agree b x y hxy
     refine hfr.block b ?_ ?_
     ·show b<w.heap.size
      rcases aeC b w.heap.size with h | h
      ·exact h
      ·simp [World.cell?,aeS h] at hc
     ·show tot F s'.toS.m b=0
      rcases aeL (tot F s'.toS.m b) with h | h
      ·exact h
      ·have:=hX'.mem.nofz b (by omega) x
       rw [hxy] at this; cases this
    ·exact hD _ hs2 a' w' H2 γ2 F2 Pr ⟨hX3.mem,hX'.fr.trans hfr,hX3.nt,⟨hX3.df.1,hX3.df.2.1,hX'.df.2.2⟩,hX3.t⟩ (hPr.mono hset hfr.hold)
   ·obtain ⟨s2,⟨v,t,rfl,rfl,hv⟩,H2,γ2,F2,hX3⟩:=h;exact ⟨t.clr.toS,rfl,hpk _ _ ⟨v,t.clr,rfl,rfl,hv⟩,H2,γ2,F2,TF ⟨hX3.mem,hX'.fr.trans hX3.fr,hX3.nt,⟨hX3.df.1,hX3.df.2.1,hX'.df.2.2⟩,hX3.t⟩ rfl rfl⟩
 ·have hX':=fD e0 hX0
  rw [if_neg (by rw [hw]; simp)];exact ⟨Pr,fun _ _ h=>h,hD _ hno (a.put o.dst undef) w H γ F Pr hX' (hPr.mono hset (fun _ _ _ h=>h))⟩
theorem kf {ops:Array Oper} {listed:Array Bool} {s:St} {i:Nat} {A:List Nat} {fz:Bool}:∀ {rd:List Nat},AM ops listed s rd=some (i,A,fz) ->
  ∃ o,ops[i]? = some o/\Cy ops listed i A fz=true/\(fz=true->m6 s o=true)/\isQ o=true
 | [],h=>by cases h
 | j::r,h=>by
  simp only [AM] at h;split at h
  ·exact kf h
  ·rename_i o ho;split at h
   ·exact kf h
   ·rename_i hq;split at h
    ·rename_i hf;split at h
     ·rename_i ht;simp only [ac8,Prod.mk.injEq] at h;obtain ⟨rfl,rfl,rfl⟩:=h;exact ⟨o,ho,ht,fun _=>hf,hq⟩
     ·exact kf h
    ·split at h
     ·rename_i ht;simp only [ac8,Prod.mk.injEq] at h;obtain ⟨rfl,rfl,rfl⟩:=h;exact ⟨o,ho,ht,fun h=>(by cases h),hq⟩
     ·exact kf h
theorem Iy {f:Nat->Prop}:∀ {l:List Nat},Tv f l->∀ i∈l,f i
 | [i],h,j,hj=>by simp only [adM] at hj; subst hj; exact h
 | i::i'::r,h,j,hj=>by
  simp only [adK] at hj;rcases hj with rfl | hj
  ·exact h.1
  ·exact Iy h.2 j (by simpa using hj)
theorem S9 {s:St} {o:Oper} {t:TypeId} {x:Operand} (h:o.op=.load t x):IS s o=s:=by unfold IS; rw [h]
theorem uU (he:e.ok) (hpk:∀ x s,PQ e.pk x s->Q x s) {ops:Array Oper} {K:S->Prop} (hC:kY g.nt ops=true) (hs:Region.noSelect ops=true) (hK:∀ t:St,k t->K t.toS) :
  ∀ (fuel:Nat) (listed:Array Bool) (s:St),ju e ops fuel listed s k->AD e.P g ops Q K fuel listed s.toS
 | 0,listed,s,h=>by
  simp only [ju] at h;split at h
  ·rename_i hr; exact Ub hr (hK s h) 0
  ·exact h.elim
 | fuel+1,listed,s,h=>by
  simp only [ju] at h;split at h
  ·rename_i hr; exact Ub hr (hK s h) _
  ·rename_i i0 rd hr;split at h
   ·rename_i i A fz hp;obtain ⟨o,hi,ht,hf,hq⟩:=kf hp;rw [hi] at h;dsimp only at h;obtain ⟨c1,c2⟩:=iS hC hi;split at h
    ·rename_i hg;intro a w H γ F Pr hX hPr;obtain ⟨H1,F1,hX1,hH1⟩:=Ir hX (fun g' H F hx=>zM hx o);refine KN (D:=fun s'=>ju e ops fuel (listed.setIfInBounds i true) s' k) hC hs hi ht (fun s' hs'=>uU he hpk hC hs hK fuel _ _ hs') ?_ a w H1 γ F1 Pr hX1 (hPr.mono (fun _ h=>h) hH1);unfold gT;rw [hg];refine ⟨fun hfz=>?_,h⟩;have:=hf hfz
     cases hop:o.op with
     | load t x=>rw [S9 hop]; exact this
     | _=>unfold m6; rw [hop]
    ·rename_i q hg;refine KN (D:=fun s'=>ju e ops fuel (listed.setIfInBounds i true) s' k) hC hs hi ht (fun s' hs'=>uU he hpk hC hs hK fuel _ _ hs') ?_;refine OJ (fun s' _ hs'=>?_) (fun _ _ h=>h) h;split at hs'
     ·rename_i hb;refine ⟨fun hfz=>?_,hs'⟩;rw [hfz] at hb;simpa using hb
     ·exact hs'.elim
   ·intro a w H γ F Pr hX hPr;refine ⟨fun h0=>absurd (hr ▸ h0) (by simp),fun i hi=>?_⟩;have hun:listed.getD i true=false:=(mem_ready.1 hi).1
    have hfi:=Iy h i (hr ▸ hi)
    cases ho:ops[i]? with
    | none=>rw [ho] at hfi; exact hfi.elim
    | some o=>
     rw [ho] at hfi;exact Vq he hpk hC hun ho (fun s hs'=>uU he hpk hC hs hK fuel _ s hs') hfi hX hPr
theorem UN {id:Nat} {l:List Oper} (he:e.ok) (hpk:∀ x s,PQ e.pk x s->Q x s) (hm:e.P.follows .mixedOrders=true) (hC:kY g.nt l.toArray=true) (hs:Region.noSelect l.toArray=true) {s:St}
  (hQ:∀ t:St,k t->Q .normal t.toS) (h:ju e l.toArray l.toArray.size (Array.replicate l.toArray.size false) s k):AW e.P g (.region id l.toArray true) Q s.toS:=by
 intro a w hR;refine wp_region_any hm (nd (Z:=Zx g Q) (Q:=fun a w=>∃ s',Q .normal s'/\R g s' a w) (fun a w h=>h) (fun e a w h=>YI h) _ _ (fun _ _=>False) _ _ ?_);obtain ⟨H,γ,F,hX⟩:=hR;exact uU (Q:=Q) he hpk hC hs hQ _ _ s h a _ H γ F _ (VN hX _ rfl rfl rfl rfl) (fun j o _ _=>.inr fun b hb=>hb.elim)
theorem JZ {f f':Nat->Prop} (h:∀ i,f i->f' i):∀ {l:List Nat},Tv f l->Tv f' l
 | [],_=>trivial
 | [i],hh=>h i hh
 | i::i'::r,hh=>⟨h i hh.1,JZ h (l:=i'::r) hh.2⟩
theorem jM (he:e.ok) {ops:Array Oper} {k':St->Prop}:∀ {fuel:Nat} {listed:Array Bool} {s:St},(∀ s',Ext s s'->k s'->k' s')->ju e ops fuel listed s k->ju e ops fuel listed s k'
 | 0,listed,s,hk,h=>by
  simp only [ju] at h ⊢;split at h
  ·exact hk _ (Ext.refl s) h
  ·exact h.elim
 | fuel+1,listed,s,hk,h=>by
  simp only [ju] at h ⊢;split at h
  ·exact hk _ (Ext.refl s) h
  ·split at h
   ·split at h
    ·split at h
     ·exact FB (fun v hv=>jM he (fun s' hE=>hk s' (((K0 _ _).trans (bE _ _ _)).trans hE)) hv) h
     ·refine OJ (fun s1 h1 hs1=>?_) (fun s1 h1 hs1=>jM he (fun s' hE=>hk s' (h1.trans hE)) hs1) h;split at hs1
      ·exact FB (fun v hv=>jM he (fun s' hE=>hk s' ((h1.trans (bE _ _ _)).trans hE)) hv) hs1
      ·exact hs1.elim
    ·exact h.elim
   ·refine JZ (fun i hi=>?_) h;split at hi
    ·exact OJ (fun s1 h1 hs1=>OR (e:=e.cl) he (fun s2 h2 hs2=>jM he (fun s' hE=>hk s' ((h1.trans h2).trans hE)) hs2) hs1) (fun s1 h1 hs1=>jM he (fun s' hE=>hk s' (h1.trans hE)) hs1) hi
    ·exact hi.elim
end
end Go.Am
end

section
namespace Go.Am
def rE (N:List Nm):T->Prop
 | .pl p=>p.root∈N
 | .rf p=>p.root∈N
 | _=>True
def B4 (N:List Nm):AV1->Prop
 | .c t=>rE N t
 | .agg ts=>∀ t∈ts,rE N t
def Mj (N:List Nm):AV->Prop
 | .one x=>B4 N x
 | .tup xs=>∀ x∈xs,B4 N x
 | .any=>True
def gY (r:Root):Root:=⟨r.blk,r.cells.map T.canon⟩
def rD (r r':Root):Prop:=r'.blk=r.blk/\r'.cells.length=r.cells.length/\∀ (i:Nat) t t',r.cells[i]? = some t->r'.cells[i]? = some t'->t'=t\/t'=t.canon
theorem rD.refl (r:Root):rD r r:=⟨rfl,rfl,fun i t t' h1 h2=>.inl (by rw [h1] at h2; exact (Option.some.inj h2).symm)⟩
theorem rD.canon (r:Root):rD r (gY r):=⟨rfl,by simp [gY],fun i t t' h1 h2=>.inr (by simp only [gY,adG,h1,Option.map_some,ac8] at h2; exact h2.symm)⟩
theorem rD.of {r r':Root} (h:r'=r\/r'=gY r):rD r r':=by
 rcases h with rfl | rfl
 ·exact rD.refl _
 ·exact rD.canon _
theorem sZ:∀ {m:Mm} {n:Nm} {r:Root},(m.map (·.1)).Nodup->(n,r)∈m->ae m n=some r
 | [],_,_,_,h=>by cases h
 | (k,x)::m,n,r,hn,h=>by
  simp only [List.map_cons,afC] at hn;simp only [ae];rcases adK.1 h with h | h
  ·cases h; rw [if_pos rfl]
  ·rw [if_neg (fun e=>hn.1 (by subst e; exact aeH (f:=(·.1)) h)),sZ hn.2 h]
theorem Ky {F:Nm->Fp} {b:Nat}:∀ {m' m:Mm},(m'.map (·.1)).Nodup->(m.map (·.1)).Nodup->(∀ x∈m',∃ r,ae m x.1=some r)->tot F m' b<=tot F m b
 | [],_,_,_,_=>aeR _
 | x::m',m,h1,h2,h=>by
  simp only [List.map_cons,afC] at h1;obtain ⟨r,hr⟩:=h x (by simp);have e:=ja (F:=F) hr b
  have ih:=Ky (F:=F) (b:=b) (m':=m') (m:=bv m x.1) h1.2 (tj h2) (fun y hy=>by
   obtain ⟨r',hr'⟩:=h y (adR _ hy);refine ⟨r',?_⟩;rw [jV (fun e=>h1.1 (by rw [<- e]; exact aeH (f:=(·.1)) hy))];exact hr')
  show F x.1 b+tot F m' b<=tot F m b
  omega
section
variable {g:G} {a:Act} {w:World} {H:FH} {γ:Gam} {F:Nm->Fp}
theorem Om {R R':T->Fp->Value->Prop}:∀ {ts:List T} {ts':List T} {f:Fp} {vs:List Value},ts'.length=ts.length->(∀ (i:Nat) t t' f v,ts[i]? = some t->ts'[i]? = some t'->R t f v->R' t' f v)->Ts R ts f vs->Ts R' ts' f vs
 | [],[],_,_,_,_,h=>h
 | t::ts,t'::ts',f,vs,hl,hi,h=>by
  obtain ⟨v,r,f1,f2,e1,e2,h1,h2⟩:=h;exact ⟨v,r,f1,f2,e1,e2,hi 0 t t' _ _ rfl rfl h1,Om (by simpa using hl) (fun i=>hi (i+1)) h2⟩
theorem U4 {s s':S} (hX:RX g s a w H γ F) (hnd:(s'.m.map (·.1)).Nodup)
  (hm:∀ x∈s'.m,∃ r,ae s.m x.1=some r/\rD r x.2/\∀ t∈r.cells,rE (s'.m.map (·.1)) t)
  (ht:∀ i,aK s'.t i=.any\/((aK s'.t i=aK s.t i\/aK s'.t i=(aK s.t i).map T.canon)/\Mj (s'.m.map (·.1)) (aK s.t i))):RX g s' a w H γ F:=by
 have hget:∀ n,n∈s'.m.map (·.1)->∃ r r',ae s.m n=some r/\ae s'.m n=some r'/\rD r r':=by
  intro n hn;obtain ⟨x,hx,rfl⟩:=ad0.1 hn;obtain ⟨r,h1,h2,_⟩:=hm x hx;exact ⟨r,x.2,h1,sZ hnd hx,h2⟩
 have cell:∀ {r r':Root},rD r r'->r'.cells.length=r.cells.length/\∀ (i:Nat) sub l,r.cells[i]? = some (.ow sub l)->r'.cells[i]? = some (.ow sub l):=by
  rintro r r' ⟨_,h2,h3⟩
  refine ⟨h2,fun i sub l h=>?_⟩;have hlt:i<r'.cells.length:=by rw [h2]; exact aj h
  rw [adA hlt];rcases h3 i _ _ h (adA hlt) with e | e
  ·rw [e]
  ·rw [e]; rfl
 have pl:∀ p,p.root∈s'.m.map (·.1)->bU s.m p->bU s'.m p:=by
  intro p hp h;obtain ⟨r,r',e1,e2,e3⟩:=hget _ hp;obtain ⟨c1,c2⟩:=cell e3;unfold bU at h ⊢;rw [e1] at h;rw [e2];dsimp only at h ⊢;cases hpath:p.path with
  | nil=>rw [hpath] at h; dsimp only at h ⊢; omega
  | cons st q=>
   rw [hpath] at h;dsimp only at h ⊢;split at h
   ·rename_i sub l hc; rw [c2 _ _ _ hc]; exact h
   ·exact h.elim
 have rf:∀ p,p.root∈s'.m.map (·.1)->gF s.m p->gF s'.m p:=by
  intro p hp h;obtain ⟨r,r',e1,e2,e3⟩:=hget _ hp;obtain ⟨c1,c2⟩:=cell e3;unfold gF at h ⊢;rw [e1] at h;rw [e2];dsimp only at h ⊢;split at h
  ·rename_i sub l hc hpath; rw [c2 _ _ _ hc,hpath]; trivial
  ·rename_i sub l st q hc hpath; rw [c2 _ _ _ hc,hpath]; exact h
  ·exact h.elim
 have tr:∀ {t:T} {f:Fp} {v:Value},rE (s'.m.map (·.1)) t->TR w H γ s.m t f v->TR w H γ s'.m t f v:=by
  intro t f v hin h;cases t with
  | pl p=>exact ⟨h.1,pl p hin h.2.1,h.2.2⟩
  | rf p=>exact ⟨h.1,rf p hin h.2.1,h.2.2⟩
  | _=>exact h
 have trc:∀ {t:T} {f:Fp} {v:Value},rE (s'.m.map (·.1)) t->TR w H γ s.m t f v->TR w H γ s'.m t.canon f v:=by
  intro t f v hin h;have h':=tr hin h
  cases t with
  | nil=>exact ⟨h'.1,(cU (w:=w) (H:=H) (γ:=γ) (m:=s'.m) .nil v ⟨fun _=>rfl,h'.2⟩).2⟩
  | _=>exact h'
 have hsub:∀ b,tot F s'.m b<=tot F s.m b:=fun b=>Ky hnd hX.mem.keys (fun x hx=>by obtain ⟨r,h,_⟩:=hm x hx; exact ⟨r,h⟩)
 refine ⟨⟨hX.mem.agree,fun x hx=>?_,hnd,fun b=>ae8 (hsub b) (hX.mem.le1 b),fun b hb=>hX.mem.lt b (by have:=hsub b; omega),fun b hb=>hX.mem.nofz b (by have:=hsub b; omega)⟩,
  ⟨hX.fr.size,hX.fr.os,hX.fr.tape,hX.fr.output,hX.fr.block,hX.fr.hold,hX.fr.hnew,fun b hb=>hX.fr.tt b (by have:=hsub b; omega)⟩,hX.nt,hX.df,fun i=>?_⟩
 ·obtain ⟨r,h1,h2,h3⟩:=hm x hx;have hR:=hX.mem.roots _ (aw h1)
  have hlen:=(cell h2).1
  have key:∀ (i:Nat) t t' f v,r.cells[i]? = some t->x.2.cells[i]? = some t'->TR w H γ s.m t f v->TR w H γ s'.m t' f v:=by
   intro i t t' f v e1 e2 h;have hin:=h3 t (ad7 e1)
   rcases h2.2.2 i t t' e1 e2 with e | e
   ·rw [e]; exact tr hin h
   ·rw [e]; exact trc hin h
  have hblk:x.2.blk=r.blk:=h2.1
  unfold bm at hR ⊢;rw [hblk];split at hR
  ·rename_i hb;rw [if_pos hb];obtain ⟨b,cs,ty,fz,g',k1,k2,k3,k4,k5,k6⟩:=hR;exact ⟨b,cs,ty,fz,g',k1,k2,k3,by rw [hlen]; exact k4,Om hlen key k5,k6⟩
  ·rename_i hb;rw [if_neg hb];obtain ⟨v,t,k1,k2,k3⟩:=hR;dsimp only at k2;rw [k2] at hlen key
   match hc:x.2.cells,hlen with
   | [t'],_=>exact ⟨v,t',k1,rfl,key 0 t t' _ _ rfl (by rw [hc]; rfl) k3⟩
 ·rcases ht i with h | ⟨h,hin⟩
  ·rw [h]; trivial
  ·have hv:=hX.t i
   have one:∀ {x:AV1} {y:Value},B4 (s'.m.map (·.1)) x->AR1 w H γ s.m x y->AR1 w H γ s'.m x y:=by
    intro x y hin h;cases x with
    | c t=>exact tr hin h
    | agg ts=>
     obtain ⟨cs,e1,e2,e3⟩:=h;refine ⟨cs,e1,e2,Om rfl (fun i t t' f v h1 h2 h=>?_) e3⟩;rw [h1] at h2; obtain rfl:=Option.some.inj h2;exact tr (hin t (ad7 h1)) h
   have all:AR w H γ s'.m (aK s.t i) (g.tv a i):=by
    revert hv hin
    cases aK s.t i with
    | one x=>exact fun hin hv=>one hin hv
    | tup xs=>
     rintro hin ⟨l,e,hl⟩
     refine ⟨l,e,?_⟩;have:∀ (xs:List AV1) (ys:List Value),(∀ x∈xs,B4 (s'.m.map (·.1)) x)->ARs w H γ s.m xs ys->ARs w H γ s'.m xs ys:=by
      intro xs;induction xs with
      | nil=>intro ys _ h; cases ys <;> exact h
      | cons x xs ih=>
       intro ys hin h;cases ys with
       | nil=>exact h.elim
       | cons y ys=>exact ⟨one (hin x (by simp)) h.1,ih ys (fun z hz=>hin z (adR _ hz)) h.2⟩
     exact this xs _ hin hl
    | any=>exact fun _ _=>trivial
   rcases h with h | h
   ·rw [h]; exact all
   ·rw [h]; exact fE cU all
end
end Go.Am
end

section
namespace Go.Am
section
variable {g:G} {a:Act} {w:World}
theorem Q0 {s:S} {H:FH} {γ:Gam} {F:Nm->Fp} (h:RX g s a w H γ F):R g s a w:=⟨H,γ,F,h⟩
theorem Cp (n:Nm):∀ m:List (Nm×Nat×Rt),cg (eT m n) n=none
 | []=>rfl
 | (k,j,v)::m=>by
  simp only [eT];by_cases h:k=n
  ·rw [if_pos h]; exact Cp n m
  ·rw [if_neg h]; simp only [cg]; rw [if_neg h]; exact Cp n m
theorem Ns (s:St) (n:Nm):cg (s.fresh n).m n=none:=by
 unfold St.fresh;split
 ·assumption
 ·show cg (bO _ _ (eT s.m n)) n=none
  rw [Ec,Cp]; rfl
theorem Eh (s:St) (k:Nat) (sh:List Sh) (u:U):Ext s (DJ s k sh u):=by
 unfold DJ;split
 ·refine (gl s (jx k)).trans ⟨aeW _,vQ _ _ _ (adH _),jY _ _ _ (adH _)⟩
 ·split
  ·refine ((AK s _).trans (gl _ (jx k))).trans ⟨aeW _,vQ _ _ _ (adH _),jY _ _ _ (adH _)⟩
  ·exact Ext.refl s
 ·exact Ext.refl s
theorem PA {s:St} (h:R g s.toS a w) (k:Nat) (sh:List Sh) (u:U):R g (DJ s k sh u).toS a w:=by
 obtain ⟨H,γ,F,hX⟩:=h;have hn:=uu hX
 unfold DJ;split
 ·rename_i hv;obtain ⟨γ',F',h'⟩:=FG hX k (jx k) sh;refine Jz ?_ (Q0 h');unfold Rq;rw [kG hv];simp only [At.toV,A1.toV,Tt.toT];have e:ae (s.toS.fresh (jx k)).m (jx k)=none:=by
   rw [<- fN hn,show (s.fresh (jx k)).toS.m=toM (s.fresh (jx k)).m from rfl,uK,Ns]; rfl
  rw [e];show SEq ⟨oL (s.toS.fresh (jx k)).t k _,_⟩ _
  rw [<- fN hn];refine ⟨fun i=>?_,rfl⟩;show aK (oL _ k _) i=aK ((k,_)::_) i
  rw [gB]; rfl
 ·rename_i n hv;split
  ·rename_i sh' u' l' hne hr;obtain ⟨γ',F',h'⟩:=FG hX k (jx k) sh;refine Jz ?_ (Q0 h');unfold Rq;rw [kG hv];simp only [At.toV,A1.toV,Tt.toT];rw [show ae s.toS.m n=some (⟨false,[.ow sh' u' l'],none⟩:Rt).toR from bF hr];show SEq ⟨oL ((s.toS.drop n).fresh (jx k)).t k _,_⟩ _
   rw [<- bI hn,<- fN (Qm hn)];refine ⟨fun i=>?_,rfl⟩;show aK (oL _ k _) i=aK ((k,_)::_) i
   rw [gB]; rfl
  ·exact ⟨H,γ,F,hX⟩
 ·exact ⟨H,γ,F,hX⟩
theorem dL (n:Nm) (us:List U):∀ (sh:List Sh) (off:Nat) (s:St),Ext s (bu s n us sh off)
 | [],_,s=>Ext.refl s
 | .ow sub::r,off,s=>by
  simp only [bu];split
  ·split
   ·rename_i cells hr _ _ u hc hu;have h1:Ext s ⟨s.nx+1,s.t,iC s.m n s.nx ⟨true,cells.set off (.ow sub u []),none⟩⟩:=⟨aeW _,fun _ _ _ h _=>h,fJ _ _ (adH _) _⟩
    exact h1.trans (dL n us r (off+1) _)
   ·exact dL n us r (off+1) s
  ·exact Ext.refl s
 | .fr::r,off,s=>by
  simp only [bu];split
  ·split
   ·exact (vM s _).trans (dL n us r (off+1) _)
   ·exact dL n us r (off+1) s
  ·exact Ext.refl s
theorem Pf {s:St} (h:R g s.toS a w) (q:Pl):R g (uz s q).toS a w:=by
 obtain ⟨H,γ,F,hX⟩:=h;obtain ⟨H',F',h'⟩:=wK hX q;exact ⟨H',γ,F',h'⟩
theorem PT {s:St} (h:R g s.toS a w) (v:At):R g (lm s v).toS a w:=by
 obtain ⟨H,γ,F,hX⟩:=h;obtain ⟨H',F',h'⟩:=mO hX v;exact ⟨H',γ,F',h'⟩
theorem dh (n:Nm) (us:List U):∀ (sh:List Sh) (off:Nat) {s:St},R g s.toS a w->R g (bu s n us sh off).toS a w
 | [],_,_,h=>h
 | .ow sub::r,off,s,h=>by
  simp only [bu];split
  ·rename_i cells hr;split
   ·rename_i u hc hu;refine dh n us r (off+1) ?_;obtain ⟨H,γ,F,hX⟩:=h;have h':=Pq hX n off sub
    have e:s.toS.ownR n off sub=(⟨s.nx+1,s.t,iC s.m n s.nx ⟨true,cells.set off (.ow sub u []),none⟩⟩:St).toS:=by
     unfold S.ownR;rw [show ae s.toS.m n=some (⟨true,cells,none⟩:Rt).toR from bF hr];have ec:(⟨true,cells,none⟩:Rt).toR.cells[off]? = some .nil:=by
      show (cells.map Tt.toT)[off]? = _
      rw [adG,hc]; rfl
     show (match (⟨true,cells,none⟩:Rt).toR.cells[off]? with | some .nil=>_ | _=>_)=_
     rw [ec];refine bI.S_ext rfl ?_;show _=toM (iC s.m n s.nx _)
     rw [gQ]
     congr 1
     simp only [Rt.toR,holed,aeP,Tt.toT];rfl
    rw [<- e];exact Q0 h'
   ·exact dh n us r (off+1) h
  ·exact h
 | .fr::r,off,s,h=>by
  simp only [bu];split
  ·split
   ·exact dh n us r (off+1) (Pf h _)
   ·exact dh n us r (off+1) h
  ·exact h
theorem qj:∀ (sp:List Sp) (s:St),Ext s (prep sp s)
 | [],s=>Ext.refl s
 | .sl k u::r,s=>(ml s _).trans (qj r _)
 | .ow k sh u::r,s=>(Eh s k sh u).trans (qj r _)
 | .rt n sh u::r,s=>(dL n _ (unmark sh) 0 s).trans (qj r _)
theorem zy:∀ (sp:List Sp) {s:St},R g s.toS a w->R g (prep sp s).toS a w
 | [],_,h=>h
 | .sl k u::r,_,h=>zy r (PT h _)
 | .ow k sh u::r,_,h=>zy r (PA h k sh u)
 | .rt n sh u::r,_,h=>zy r (dh n _ (unmark sh) 0 h)
mutual
theorem X8:∀ {a b:Sh},acI a b=true->a=b
 | .fr,.fr,_=>rfl
 | .ow a,.ow b,h=>by rw [kj (show pE a b=true from h)]
theorem kj:∀ {a b:List Sh},pE a b=true->a=b
 | [],[],_=>rfl
 | a::r,b::q,h=>by
  simp only [pE,ac9] at h;rw [X8 h.1,kj h.2]
end
def CL:List Tt->List C->Prop
 | [],[]=>True
 | t::ts,c::cs=>(t=.d c\/(t=.nil/\∃ u',c=.li u' []))/\CL ts cs
 | _,_=>False
theorem PS {u:U} {t:Tt} {x:El u} (h:L6 u t=some x):t=.d (jo u x)\/(t=.nil/\∃ u',jo u x=.li u' []):=by
 unfold L6 at h;split at h
 ·rw [mB h]; exact .inl (by rw [<- mB h])
 ·split at h
  ·simp only [ac8] at h; subst h; exact .inr ⟨rfl,_,rfl⟩
  ·cases h
 ·cases h
theorem KW:∀ {us:List U} {ts:List Tt} {x:Fl us},kW us ts=some x->CL ts (fH us x)
 | [],[],_,_=>trivial
 | u::r,c::cs,x,h=>by
  simp only [kW] at h;cases h1:L6 u c with
  | none=>rw [h1] at h; cases h
  | some y=>
   cases h2:kW r cs with
   | none=>rw [h1,h2] at h; cases h
   | some z=>
    rw [h1,h2] at h;simp only [ac8] at h;subst h;rw [fH,kZ,ll];exact ⟨PS h1,KW h2⟩
 | [],_::_,_,h=>by simp [kW] at h
 | _::_,[],_,h=>by simp [kW] at h
theorem jv {u:U} {ts:List Tt} {x:El u} (h:kN u ts=some x):CL ts (flat u x):=by
 cases u with
 | st n=>
  simp only [kN] at h;cases h1:kW (sd n).fs ts with
  | none=>rw [h1] at h; cases h
  | some y=>
   rw [h1] at h;have:=Option.some.inj h
   subst this;show CL ts (fH (sd n).fs ((sd n).un ((sd n).mkF y)))
   rw [(sd n).l2]; exact KW h1
 | _=>
  cases ts with
  | nil=>cases h
  | cons t r=>cases r with
   | nil=>rw [mv rfl]; exact ⟨PS h,trivial⟩
   | cons _ _=>cases h
theorem zN:∀ {ts:List Tt} {cs:List C},CL ts cs->(cs.map Tt.d).map Tt.toT=(ts.map Tt.toT).map T.canon/\∀ N,∀ t∈ts.map Tt.toT,rE N t
 | [],[],_=>⟨rfl,fun _ _ h=>by simp at h⟩
 | t::ts,c::cs,h=>by
  obtain ⟨h1,h2⟩:=h;obtain ⟨k1,k2⟩:=zN h2;simp only [List.map_cons,k1];rcases h1 with rfl | ⟨rfl,u',rfl⟩
  ·exact ⟨rfl,fun N t ht=>by
    rcases adK.1 ht with rfl | ht
    ·trivial
    ·exact k2 N t ht⟩
  ·exact ⟨rfl,fun N t ht=>by
    rcases adK.1 ht with rfl | ht
    ·trivial
    ·exact k2 N t ht⟩
 | [],_::_,h=>h.elim
 | _::_,[],h=>h.elim
theorem zK {u:U} {v:At} {x:El u} (h:qm u v=some x):(CV u x).toV=v.toV.map T.canon/\∀ N,Mj N v.toV:=by
 unfold qm at h;split at h
 ·rename_i y;unfold VI at h;split at h
  ·rename_i t;split at h
   ·rename_i hl;have hc:=jv h
    rw [mv hl] at hc;obtain ⟨k1,k2⟩:=zN hc;have e:(CV u x)=sct (jo u x):=by cases u <;> first | rfl | cases hl
    rw [e];refine ⟨?_,fun N=>k2 N t.toT (by simp)⟩;have:=congrArg (·[0]?) k1
    simp only [List.map_cons,List.map_nil,aeN,ac8] at this;simp only [At.toV,A1.toV,AV.map,AV1.map,this]
   ·cases h
  ·rename_i ts;split at h
   ·cases h
   ·rename_i hl;obtain ⟨k1,k2⟩:=zN (jv h);have e:(CV u x)=.one (.agg ((flat u x).map Tt.d)):=by cases u <;> first | rfl | cases hl
    rw [e];exact ⟨by simp only [At.toV,A1.toV,AV.map,AV1.map,k1],fun N=>k2 N⟩
 ·cases h
theorem q0:∀ {sh:List Sh} {cells ts:List Tt} {cs:List C},fC sh cells=some ts->CL ts cs->(aC sh cs).map Tt.toT=(cells.map Tt.toT).map T.canon/\∀ N,∀ t∈cells.map Tt.toT,rE N t
 | [],[],ts,cs,h,hc=>by
  simp only [fC,ac8] at h;subst h;cases cs with
  | nil=>exact ⟨rfl,fun _ _ h=>by simp at h⟩
  | cons _ _=>exact hc.elim
 | .ow s::r,c::cells,ts,cs,h,hc=>by
  cases c with
  | ow s' u l=>
   simp only [fC] at h;split at h
   ·rename_i ts' hs hr;simp only [ac8] at h;subst h;cases cs with
    | nil=>exact hc.elim
    | cons c cs=>
     obtain ⟨h1,h2⟩:=hc;obtain ⟨k1,k2⟩:=q0 hr h2;rcases h1 with h1 | ⟨h1,_⟩
     ·simp only [Tt.d.injEq] at h1;subst h1;rw [kj hs];simp only [aC,List.map_cons,k1];exact ⟨rfl,fun N t ht=>by
       rcases adK.1 ht with rfl | ht
       ·trivial
       ·exact k2 N t ht⟩
     ·cases h1
   ·cases h
  | _=>simp [fC] at h
 | .fr::r,c::cells,ts,cs,h,hc=>by
  have go:∀ {t:Tt} {ts':List Tt},c=t->fC r cells=some ts'->ts=t::ts'->(∃ x,t=.d x)\/t=.nil->(aC (.fr::r) cs).map Tt.toT=((c::cells).map Tt.toT).map T.canon/\∀ N,∀ t∈(c::cells).map Tt.toT,rE N t:=by
   rintro t ts' rfl hr rfl hk
   cases cs with
   | nil=>exact hc.elim
   | cons c' cs=>
    obtain ⟨h1,h2⟩:=hc;obtain ⟨k1,k2⟩:=q0 hr h2;have e:aC (.fr::r) (c'::cs)=.d c'::aC r cs:=by cases c' <;> rfl
    rw [e];simp only [List.map_cons,k1];rcases h1 with rfl | ⟨rfl,u',rfl⟩
    ·exact ⟨rfl,fun N t ht=>by
      rcases adK.1 ht with rfl | ht
      ·trivial
      ·exact k2 N t ht⟩
    ·exact ⟨rfl,fun N t ht=>by
      rcases adK.1 ht with rfl | ht
      ·trivial
      ·exact k2 N t ht⟩
  cases c with
  | d x=>
   simp only [fC] at h;split at h
   ·rename_i ts' hr; exact go rfl hr (Option.some.inj h).symm (.inl ⟨x,rfl⟩)
   ·cases h
  | nil=>
   simp only [fC] at h;split at h
   ·rename_i ts' hr; exact go rfl hr (Option.some.inj h).symm (.inr rfl)
   ·cases h
  | _=>simp [fC] at h
 | [],_::_,_,_,h,_=>by simp [fC] at h
 | .ow _::_,[],_,_,h,_=>by simp [fC] at h
 | .fr::_,[],_,_,h,_=>by simp [fC] at h
theorem V9:∀ {sh:List Sh} {cells ts:List Tt} {cs:List C},gZ sh cells=some ts->CL ts cs ->
  (((dG sh cs).map Tt.toT).length=(cells.map Tt.toT).length/\∀ (i:Nat) t t',(cells.map Tt.toT)[i]? = some t->((dG sh cs).map Tt.toT)[i]? = some t'->t'=t\/t'=t.canon)/\∀ N,∀ t∈cells.map Tt.toT,rE N t:=by
 intro sh;induction sh with
 | nil=>
  intro cells ts cs h hc;cases cells with
  | nil=>
   simp only [gZ,ac8] at h;subst h;cases cs with
   | nil=>exact ⟨⟨rfl,fun i t t' h=>by simp at h⟩,fun _ _ h=>by simp at h⟩
   | cons _ _=>exact hc.elim
  | cons _ _=>simp [gZ] at h
 | cons s r ih=>
  intro cells ts cs h hc;cases cells with
  | nil=>cases s with
   | fr=>simp [gZ] at h
   | ow a=>cases a <;> simp [gZ] at h
  | cons c cells=>
   have go:∀ {t0:Tt} {c':C} {cs':List C} {ts':List Tt},gZ r cells=some ts'->CL ts' cs'->dG (s::r) (c'::cs')=t0::dG r cs'->(t0.toT=c.toT\/t0.toT=c.toT.canon)->(∀ N,rE N c.toT) ->
     (((dG (s::r) (c'::cs')).map Tt.toT).length=((c::cells).map Tt.toT).length/\∀ (i:Nat) t t',((c::cells).map Tt.toT)[i]? = some t->((dG (s::r) (c'::cs')).map Tt.toT)[i]? = some t'->t'=t\/t'=t.canon)/\∀ N,∀ t∈(c::cells).map Tt.toT,rE N t:=by
    intro t0 c' cs' ts' h1 h2 h3 h4 h5;obtain ⟨⟨k1,k2⟩,k3⟩:=ih h1 h2;rw [h3];refine ⟨⟨by simp only [List.map_cons,adF,k1],fun i t t' e1 e2=>?_⟩,fun N t ht=>?_⟩
    ·cases i with
     | zero=>
      simp only [List.map_cons,aeN,ac8] at e1 e2;rw [<- e1,<- e2]; exact h4
     | succ i=>
      simp only [List.map_cons,aeU] at e1 e2;exact k2 i t t' e1 e2
    ·rcases adK.1 ht with rfl | ht
     ·exact h5 N
     ·exact k3 N t ht
   cases s with
   | fr=>
    have gofr:∀ {t:Tt} {ts':List Tt},c=t->gZ r cells=some ts'->ts=t::ts'->(∃ x,t=.d x)\/t=.nil->(((dG (.fr::r) cs).map Tt.toT).length=((c::cells).map Tt.toT).length/\∀ (i:Nat) t t',((c::cells).map Tt.toT)[i]? = some t->((dG (.fr::r) cs).map Tt.toT)[i]? = some t'->t'=t\/t'=t.canon)/\∀ N,∀ t∈(c::cells).map Tt.toT,rE N t:=by
     rintro t ts' rfl hr rfl hk
     cases cs with
     | nil=>exact hc.elim
     | cons c' cs=>
      have e:dG (.fr::r) (c'::cs)=.d c'::dG r cs:=by cases c' <;> rfl
      obtain ⟨h1,h2⟩:=hc;refine go hr h2 e ?_ ?_
      ·rcases h1 with h1 | ⟨h1,u',h1'⟩
       ·rw [h1]; exact .inl rfl
       ·rw [h1,h1']; exact .inr rfl
      ·intro N;rcases hk with ⟨x,hx⟩ | hx
       ·rw [hx]; trivial
       ·rw [hx]; trivial
    cases c with
    | d x=>
     simp only [gZ] at h;split at h
     ·rename_i ts' hr; exact gofr rfl hr (Option.some.inj h).symm (.inl ⟨x,rfl⟩)
     ·cases h
    | nil=>
     simp only [gZ] at h;split at h
     ·rename_i ts' hr; exact gofr rfl hr (Option.some.inj h).symm (.inr rfl)
     ·cases h
    | _=>simp [gZ] at h
   | ow a=>
    cases a with
    | nil=>
     cases c with
     | nil=>
      simp only [gZ] at h;split at h
      ·rename_i ts' hr;simp only [ac8] at h;subst h;cases cs with
       | nil=>exact hc.elim
       | cons c' cs=>exact go hr hc.2 rfl (.inl rfl) (fun N=>trivial)
      ·cases h
     | _=>simp [gZ] at h
    | cons a b=>
     cases c with
     | ow s' u l=>
      simp only [gZ] at h;split at h
      ·rename_i ts' hs hr;simp only [ac8] at h;subst h;cases cs with
       | nil=>exact hc.elim
       | cons c' cs=>
        obtain ⟨h1,h2⟩:=hc;rcases h1 with h1 | ⟨h1,_⟩
        ·simp only [Tt.d.injEq] at h1;subst h1;refine go hr h2 rfl (.inl ?_) (fun N=>trivial);simp only [Tt.toT];rw [kj hs]
        ·cases h1
      ·cases h
     | _=>simp [gZ] at h
theorem jL (k:Nat):∀ t:List (Nat×Nat×At),gtA t k=match cM t k with | some (_,v)=>v | none=>.any
 | []=>rfl
 | (i,j,v)::t=>by
  simp only [gtA,cM];cases Nat.beq i k with
  | true=>rfl
  | false=>exact jL k t
theorem FX {rs:List Nm} {t:Tt} (h:t.inR rs=true):rE rs t.toT:=by
 cases t with
 | pl p=>show p.root∈rs; simpa [Tt.inR] using h
 | rf p=>show p.root∈rs; simpa [Tt.inR] using h
 | _=>trivial
theorem WU {rs:List Nm} {x:A1} (h:x.inR rs=true):B4 rs x.toV:=by
 cases x with
 | c t=>exact FX h
 | agg ts=>
  intro t ht;obtain ⟨t',h1,rfl⟩:=ad0.1 ht;exact FX (adI.1 h t' h1)
theorem ZO {rs:List Nm} {x:At} (h:x.inR rs=true):Mj rs x.toV:=by
 cases x with
 | one x=>exact WU h
 | tup xs=>
  intro t ht;obtain ⟨t',h1,rfl⟩:=ad0.1 ht;exact WU (adI.1 h t' h1)
 | any=>trivial
theorem O5 {p:Nat->At->Prop}:∀ {t:List (Nat×Nat×At)},(∀ x∈t,p x.1 x.2.2)->∀ i,gtA t i=.any\/p i (gtA t i)
 | [],_,_=>.inl rfl
 | (k,j,v)::t,h,i=>by
  simp only [gtA];cases hb:Nat.beq k i with
  | true=>have:=adO hb; subst this; exact .inr (h (k,j,v) (by simp))
  | false=>exact O5 (fun x hx=>h x (adR _ hx)) i
theorem rh {t:List (Nat×Nat×At)}:∀ {ks:List Nat} {x:Nat×Nat×At},x∈ED t ks->x.1∈ks/\cM t x.1=some x.2
 | [],x,h=>by simp [ED] at h
 | k::r,x,h=>by
  simp only [ED] at h;split at h
  ·rename_i j v hl;rcases adK.1 h with rfl | h
   ·exact ⟨by simp,hl⟩
   ·have:=rh h; exact ⟨adR _ this.1,this.2⟩
  ·have:=rh h; exact ⟨adR _ this.1,this.2⟩
theorem qE {t:List (Nm×Nat×Rt)}:∀ {ks:List Nm} {x:Nm×Nat×Rt},x∈oR t ks->x.1∈ks/\dN t x.1=some x.2
 | [],x,h=>by simp [oR] at h
 | k::r,x,h=>by
  simp only [oR] at h;split at h
  ·rename_i j v hl;rcases adK.1 h with rfl | h
   ·exact ⟨by simp,hl⟩
   ·have:=qE h; exact ⟨adR _ this.1,this.2⟩
  ·have:=qE h; exact ⟨adR _ this.1,this.2⟩
theorem J0 {s0 s:St} {rs:List Nm}:∀ {ks:List Nat},YO s0 s rs ks=true->∀ k∈ks,∃ j v0 v,cM s0.t k=some (j,v0)/\cM s.t k=some (j,v)/\j<s0.nx/\v.inR rs=true
 | [],_,k,hk=>by simp at hk
 | i::r,h,k,hk=>by
  simp only [YO,ac9] at h;rcases adK.1 hk with rfl | hk
  ·have h1:=h.1
   split at h1
   ·rename_i j v0 j' v e1 e2;simp only [ac9] at h1;have:=adO h1.1.1
    subst this;exact ⟨_,_,_,e1,e2,adN h1.1.2,h1.2⟩
   ·cases h1
  ·exact J0 h.2 k hk
theorem Aj {s0 s:St} {rs:List Nm}:∀ {ks:List Nm},RD s0 s rs ks=true->∀ k∈ks,∃ j v0 v,dN s0.m k=some (j,v0)/\dN s.m k=some (j,v)/\j<s0.nx/\v.cells.all (·.inR rs)=true
 | [],_,k,hk=>by simp at hk
 | i::r,h,k,hk=>by
  simp only [RD,ac9] at h;rcases adK.1 hk with rfl | hk
  ·have h1:=h.1
   split at h1
   ·rename_i j v0 j' v e1 e2;simp only [ac9] at h1;have:=adO h1.1.1
    subst this;exact ⟨_,_,_,e1,e2,adN h1.1.2,h1.2⟩
   ·cases h1
  ·exact Aj h.2 k hk
theorem I4 {s:St} {rs:List Nm}:∀ {ps:List (Nat×Nm×Nat)},XV s rs ps=true->∀ p∈ps,gtA s.t p.1=.one (.c (.pl ⟨p.2.1,p.2.2,[]⟩))/\p.2.1∈rs
 | [],_,p,hp=>by simp at hp
 | (k,n,o)::r,h,p,hp=>by
  simp only [XV,ac9] at h;rcases adK.1 hp with rfl | hp
  ·have h1:=h.1
   split at h1
   ·rename_i n' o' hg;simp only [ac9,decide_eq_true_eq] at h1;obtain ⟨⟨rfl,h2⟩,h3⟩:=h1;have:=adO h2
    subst this;exact ⟨hg,by simpa using h3⟩
   ·cases h1
  ·exact I4 h.2 p hp
theorem Ag {s0 s:St} {rs:List Nm}:∀ {ks:List Nm},RD s0 s rs ks=true->(oR s0.m ks).map (·.1)=ks
 | [],_=>rfl
 | k::r,h=>by
  have hh:=h
  simp only [RD,ac9] at h;obtain ⟨j,v0,v,e1,_⟩:=Aj hh k (by simp);simp only [oR,e1,List.map_cons,Ag h.2]
theorem ri (nx:Nat):∀ (sp:List Sp) (x:Fl (fY sp)),(mw nx sp x).map (·.1)=sp.flatMap Sp.rn
 | [],_=>rfl
 | .sl k u::r,x=>by simp only [mw,adS,Sp.rn,ad6]; exact ri nx r _
 | .ow k sh u::r,x=>by simp only [mw,adS,Sp.rn,List.map_cons,af0]; rw [ri nx r]
 | .rt n sh u::r,x=>by simp only [mw,adS,Sp.rn,List.map_cons,af0]; rw [ri nx r]
theorem DO:∀ {l:List Nm},GG l=true->l.Nodup
 | [],_=>List.nodup_nil
 | n::r,h=>by
  simp only [GG,ac9,aeJ,List.contains_eq_mem,decide_eq_false_iff_not] at h;exact afC.2 ⟨h.1,DO h.2⟩
theorem UB {s:St} {nx:Nat}:∀ {sp:List Sp} {x:Fl (fY sp)},unS s sp=some x ->
  (∀ y∈xk nx sp x,(y.2.2.toV=(gtA s.t y.1).toV\/y.2.2.toV=(gtA s.t y.1).toV.map T.canon)/\∀ N,(∀ n∈sp.flatMap Sp.rn,n∈N)->Mj N (gtA s.t y.1).toV) /\
  (∀ y∈mw nx sp x,∃ r,cg s.m y.1=some r/\rD r.toR y.2.2.toR/\∀ N,∀ t∈r.toR.cells,rE N t)
 | [],_,_=>⟨fun y h=>by simp [xk] at h,fun y h=>by simp [mw] at h⟩
 | p::r,x,h=>by
  simp only [unS] at h;cases h1:YU s p with
  | none=>rw [h1] at h; cases h
  | some a=>
   cases h2:unS s r with
   | none=>rw [h1,h2] at h; cases h
   | some b=>
    rw [h1,h2] at h;simp only [ac8] at h;obtain ⟨i1,i2⟩:=UB (nx:=nx) h2;cases p with
    | sl k u=>
     have ha:Fl.hd u (fY r) x=a:=by rw [<- h]; exact kZ _ _ _ _
     have hb:Fl.tl u (fY r) x=b:=by rw [<- h]; exact ll _ _ _ _
     refine ⟨fun y hy=>?_,fun y hy=>?_⟩
     ·simp only [xk,ha,hb,adK] at hy;rcases hy with rfl | hy
      ·obtain ⟨k1,k2⟩:=zK (v:=gtA s.t k) h1;exact ⟨.inr k1,fun N _=>k2 N⟩
      ·obtain ⟨k1,k2⟩:=i1 y hy;exact ⟨k1,fun N hN=>k2 N (fun n hn=>hN n (by simp only [adS,adJ]; exact .inr hn))⟩
     ·simp only [mw,hb] at hy; exact i2 y hy
    | ow k sh u=>
     have ha:Fl.hd (.sl u) (fY r) x=a:=by rw [<- h]; exact kZ (.sl u) _ _ _
     have hb:Fl.tl (.sl u) (fY r) x=b:=by rw [<- h]; exact ll (.sl u) _ _ _
     simp only [YU] at h1;split at h1
     ·rename_i n sh' u' l hv hr;cases hn:decide (n=jx k) <;> cases hsh:pE sh sh' <;> rw [hn,hsh] at h1
      ·cases h1
      ·cases h1
      ·cases h1
      ·have hn':n=jx k:=by simpa using hn
       subst hn';obtain ⟨e,rfl⟩:=mo h1;subst e;rw [kj hsh] at *;refine ⟨fun y hy=>?_,fun y hy=>?_⟩
       ·simp only [xk,hb,adK] at hy;rcases hy with rfl | hy
        ·refine ⟨.inl (by rw [hv]),fun N hN=>?_⟩;rw [hv];exact hN _ (by simp [adS,Sp.rn])
        ·obtain ⟨k1,k2⟩:=i1 y hy;exact ⟨k1,fun N hN=>k2 N (fun n hn=>hN n (by simp only [adS,adJ]; exact .inr hn))⟩
       ·simp only [mw,ha,hb,adK] at hy;rcases hy with rfl | hy
        ·exact ⟨_,hr,rD.refl _,fun N t ht=>by simp only [Rt.toR,holed,List.map_cons,List.map_nil,adM] at ht; subst ht; trivial⟩
        ·exact i2 y hy
     ·cases h1
    | rt n sh u=>
     have ha:Fl.hd u (fY r) x=a:=by rw [<- h]; exact kZ _ _ _ _
     have hb:Fl.tl u (fY r) x=b:=by rw [<- h]; exact ll _ _ _ _
     simp only [YU] at h1;split at h1
     ·rename_i cells hr;split at h1
      ·rename_i ts hts;obtain ⟨k1,k2⟩:=V9 hts (jv h1);refine ⟨fun y hy=>?_,fun y hy=>?_⟩
       ·simp only [xk,hb] at hy;obtain ⟨k1,k2⟩:=i1 y hy;exact ⟨k1,fun N hN=>k2 N (fun n hn=>hN n (by simp only [adS,adJ]; exact .inr hn))⟩
       ·simp only [mw,ha,hb,adK] at hy;rcases hy with rfl | hy
        ·exact ⟨_,hr,⟨rfl,k1.1,k1.2⟩,fun N t ht=>k2 N t ht⟩
        ·exact i2 y hy
      ·cases h1
     ·cases h1
def jn1 (σ:Sg) (s0:St) (J:Fl (fY σ.sp)->Prop) (s:St):Prop:=σ.fit s0 s=true/\∃ x,unS s σ.sp=some x/\J x
theorem WD {σ:Sg} {s0 s1:St} {J:Fl (fY σ.sp)->Prop} (hE1:Ext s0 s1) (h:jn1 σ s0 J s1) (hR1:R g s1.toS a w):∃ v,J v/\R g (σ.st s0 v).toS a w:=by
   obtain ⟨hf,v,hv,h⟩:=h;refine ⟨v,h,?_⟩;obtain ⟨H,γ,F,hX⟩:=hR1;simp only [Sg.fit,ac9] at hf;obtain ⟨⟨⟨f1,f2⟩,f3⟩,f4⟩:=hf;obtain ⟨l1,l2⟩:=UB (nx:=s0.nx) hv;have hkeys:(σ.st s0 v).toS.m.map (·.1)=σ.rn:=by
    show (toM (oR s0.m σ.kr++mw s0.nx σ.sp v)).map (·.1)=_
    simp only [toM,adV];show (oR s0.m σ.kr++mw s0.nx σ.sp v).map (·.1)=_
    rw [ad5,Ag f4,ri]; rfl
   refine ⟨H,γ,F,U4 hX (by rw [hkeys]; exact DO f1) (fun x hx=>?_) (fun i=>?_)⟩
   ·rw [hkeys];obtain ⟨y,hy,rfl⟩:=ad0.1 (show x∈toM (oR s0.m σ.kr++mw s0.nx σ.sp v) from hx);rcases adJ.1 hy with hy | hy
    ·obtain ⟨hk,hl⟩:=qE hy;obtain ⟨j,v0,v1,e1,e2,e3,e4⟩:=Aj f4 y.1 hk;have e5:=hE1.m _ _ _ e2 e3
     rw [hl] at e5;have e6:=Option.some.inj e5
     have eg:cg s1.m y.1=some y.2.2:=by rw [nF,e2]; simp [e6]
     refine ⟨y.2.2.toR,bF eg,rD.refl _,fun t ht=>?_⟩;have hv1:y.2.2=v1:=by rw [e6]
     rw [hv1] at ht;have hH:=Bb v1.cells v1.hole
     obtain ⟨i,hi,hit⟩:=agX ht;have hlen:=hH.len
     have hi':i<v1.cells.length:=by
      have:(v1.toR.cells).length=v1.cells.length:=hlen
      omega
     rcases hH.nth i _ t (adA hi') (by rw [<- hit]; exact adA hi) with e | ⟨_,_,_,_,_,e,_⟩
     ·rw [e]; exact FX (adI.1 e4 _ (aeZ hi'))
     ·rw [e]; trivial
    ·obtain ⟨r,k1,k2,k3⟩:=l2 y hy;exact ⟨r.toR,bF k1,k2,k3 _⟩
   ·rw [hkeys];have key:∀ y∈(σ.st s0 v).t,(y.2.2.toV=(gtA s1.t y.1).toV\/y.2.2.toV=(gtA s1.t y.1).toV.map T.canon)/\Mj σ.rn (gtA s1.t y.1).toV:=by
     intro y hy;rcases adJ.1 hy with hy | hy
     ·obtain ⟨hk,hl⟩:=rh hy;obtain ⟨j,v0,v1,e1,e2,e3,e4⟩:=J0 f3 y.1 hk;have e5:=hE1.t _ _ _ e2 e3
      rw [hl] at e5;have e6:=Option.some.inj e5
      have eg:gtA s1.t y.1=v1:=by rw [jL,e2]
      rw [eg,e6];exact ⟨.inl rfl,ZO e4⟩
     ·rcases adJ.1 hy with hy | hy
      ·obtain ⟨p,hp,rfl⟩:=ad0.1 hy;obtain ⟨e1,e2⟩:=I4 f2 p hp;dsimp only;rw [e1];exact ⟨.inl rfl,e2⟩
      ·obtain ⟨k1,k2⟩:=l1 y hy;exact ⟨k1,k2 _ (fun n hn=>by unfold Sg.rn; exact List.mem_append_right _ hn)⟩
    have hs1:aK s1.toS.t i=(gtA s1.t i).toV:=dB i s1.t
    have hst:aK (σ.st s0 v).toS.t i=(gtA (σ.st s0 v).t i).toV:=dB i (σ.st s0 v).t
    rw [hs1,hst];rcases O5 (p:=fun i v=>(v.toV=(gtA s1.t i).toV\/v.toV=(gtA s1.t i).toV.map T.canon)/\Mj σ.rn (gtA s1.t i).toV) key i with e | e
    ·rw [e]; exact .inl rfl
    ·exact .inr e
theorem Y5 {σ:Sg} {s0 s:St} {J:Fl (fY σ.sp)->Prop} (hE:Ext s0 s) (h:jn σ s0 J s) (hR:R g s.toS a w):∃ v,J v/\R g (σ.st s0 v).toS a w:=by
 unfold jn at h;dsimp only at h;have hR1:=zy (g:=g) (a:=a) (w:=w) σ.sp hR
 have hE1:=hE.trans (qj σ.sp s)
 split at h
 ·rename_i hf;split at h
  ·rename_i v hv; exact WD hE1 ⟨hf,v,hv,h⟩ hR1
  ·exact h.elim
 ·exact h.elim
theorem DV {k:Nat} {y:Nat×At}:∀ {t:List (Nat×Nat×At)},cM t k=some y->(k,y)∈t
 | [],h=>by cases h
 | (i,j,v)::t,h=>by
  simp only [cM] at h;split at h
  ·rename_i hb;have:=adO hb
   subst this;rw [<- Option.some.inj h]; simp
  ·exact adR _ (DV h)
theorem EQ {k:Nm} {y:Nat×Rt}:∀ {t:List (Nm×Nat×Rt)},dN t k=some y->(k,y)∈t
 | [],h=>by cases h
 | (i,j,v)::t,h=>by
  simp only [dN] at h;split at h
  ·rename_i hb;subst hb;rw [<- Option.some.inj h]; simp
  ·exact adR _ (EQ h)
theorem Gz (nx:Nat):∀ (sp:List Sp) (x:Fl (fY sp)),(∀ y∈xk nx sp x,y.2.1=nx)/\∀ y∈mw nx sp x,y.2.1=nx
 | [],_=>⟨fun y h=>by simp [xk] at h,fun y h=>by simp [mw] at h⟩
 | .sl k u::r,x=>by
  obtain ⟨h1,h2⟩:=Gz nx r (Fl.tl u (fY r) x);refine ⟨fun y h=>?_,fun y h=>h2 y h⟩;simp only [xk,adK] at h;rcases h with rfl | h
  ·rfl
  ·exact h1 y h
 | .ow k sh u::r,x=>by
  obtain ⟨h1,h2⟩:=Gz nx r (Fl.tl (.sl u) (fY r) x);refine ⟨fun y h=>?_,fun y h=>?_⟩
  ·simp only [xk,adK] at h;rcases h with rfl | h
   ·rfl
   ·exact h1 y h
  ·simp only [mw,adK] at h;rcases h with rfl | h
   ·rfl
   ·exact h2 y h
 | .rt n sh u::r,x=>by
  obtain ⟨h1,h2⟩:=Gz nx r (Fl.tl u (fY r) x);refine ⟨fun y h=>h1 y h,fun y h=>?_⟩;simp only [mw,adK] at h;rcases h with rfl | h
  ·rfl
  ·exact h2 y h
theorem Bi (σ:Sg) (s:St) (x:Fl (fY σ.sp)):Ext s (σ.st s x):=by
 obtain ⟨l1,l2⟩:=Gz s.nx σ.sp x;refine ⟨aeW _,fun k j v h hj=>?_,fun n j r h hj=>?_⟩
 ·have hm:=DV h
  rcases adJ.1 hm with hm | hm
  ·exact (rh hm).2
  ·rcases adJ.1 hm with hm | hm
   ·obtain ⟨p,_,e⟩:=ad0.1 hm;simp only [Prod.mk.injEq] at e;omega
   ·have:=l1 _ hm; dsimp only at this; omega
 ·have hm:=EQ h
  rcases adJ.1 hm with hm | hm
  ·exact (qE hm).2
  ·have:=l2 _ hm; dsimp only at this; omega
end
end Go.Am
end

section
namespace Go.Am
def kg (nt:Nat):Code->Bool
 | .region _ ops false=>oN nt ops.toList ops.toList
 | .region _ ops true=>kY nt ops&&Region.noSelect ops
 | .seq a b=>kg nt a&&kg nt b
 | .cond (.tmp t) a b=>Nat.blt t 100000&&(kg nt a&&kg nt b)
 | .block _ a=>kg nt a
 | .loop a=>kg nt a
 | _=>true
def LQ (pk:PKt) (K:Kt):Exit->S->Prop
 | .normal,s=>∃ t:St,s=t.toS/\K.n t
 | .exit i,s=>∃ t:St,s=t.toS/\K.x i t
 | .ret,s=>∃ t:St,s=t.toS/\K.r t
 | .panic c,s=>∃ v,∃ t:St,c=chn v/\s=t.toS/\pk v t
 | _,_=>False
theorem YZ {pk:PKt} {K:Kt}:∀ x s,PQ pk x s->LQ pk K x s:=by
 rintro x s ⟨v,t,rfl,rfl,h2⟩
 exact ⟨v,t,rfl,rfl,h2⟩
theorem WZ {σ:Sg} {s0 s:St} {J J':Fl (fY σ.sp)->Prop} (hj:∀ v,J v->J' v) (h:jn σ s0 J s):jn σ s0 J' s:=by
 unfold jn at h ⊢;dsimp only at h ⊢;split at h
 ·split at h
  ·exact hj _ h
  ·exact h.elim
 ·exact h.elim
theorem BZ {α:Type} {b b':(α->Prop)->α->Prop} (hb:∀ R R':α->Prop,(∀ v,R v->R' v)->∀ v,b R v->b' R' v):∀ n v,oZ b n v->oZ b' n v
 | 0,_,h=>h.elim
 | n+1,v,h=>hb _ _ (BZ hb n) v h
theorem Gt {e:En} (he:e.ok):∀ (c:Code) (an:An) (s:St) (K K':Kt),(∀ s',Ext s s'->K.n s'->K'.n s')->(∀ i s',Ext s s'->K.x i s'->K'.x i s')->(∀ s',Ext s s'->K.r s'->K'.r s')->wpT e an c s K->wpT e an c s K':=by
 intro c;induction c with
 | skip=>intro an s K K' hn hx hr h; simp only [wpT] at h ⊢; exact hn s (Ext.refl s) h
 | exit i=>intro an s K K' hn hx hr h; simp only [wpT] at h ⊢; exact hx i s (Ext.refl s) h
 | ret=>intro an s K K' hn hx hr h; simp only [wpT] at h ⊢; exact hr s (Ext.refl s) h
 | region id ops dr=>
  intro an s K K' hn hx hr h;cases dr with
  | false=>simp only [wpT] at h ⊢; exact BL he hn h
  | true=>simp only [wpT] at h ⊢; exact jM he hn h
 | seq a b iha ihb=>
  intro an s K K' hn hx hr h;cases an with
  | s p q=>
   simp only [wpT] at h ⊢;exact iha p s ⟨fun s'=>wpT e (q.pick s') b s' K,K.x,K.r⟩ ⟨fun s'=>wpT e (q.pick s') b s' K',K'.x,K'.r⟩ (fun s1 h1 hs1=>ihb (q.pick s1) s1 K K' (fun s2 h2=>hn s2 (h1.trans h2)) (fun i s2 h2=>hx i s2 (h1.trans h2)) (fun s2 h2=>hr s2 (h1.trans h2)) hs1) hx hr h
  | j σ p q=>
   simp only [wpT] at h ⊢;intro J hJ;refine iha p s ⟨jn σ s J,K.x,K.r⟩ ⟨jn σ s J,K'.x,K'.r⟩ (fun s1 _ h=>h) hx hr (h J (fun v hv=>hJ v ?_));exact ihb q _ K K' (fun s2 h2=>hn s2 ((Bi σ s v).trans h2)) (fun i s2 h2=>hx i s2 ((Bi σ s v).trans h2)) (fun s2 h2=>hr s2 ((Bi σ s v).trans h2)) hv
  | _=>simp only [wpT] at h
 | cond t a b iha ihb=>
  intro an s K K' hn hx hr h;cases an with
  | c p q=>
   cases t with
   | tmp t=>
    simp only [wpT] at h ⊢;split at h
    ·rename_i c _;cases c
     ·simp only [adB,if_false] at h ⊢; exact ihb q s K K' hn hx hr h
     ·simp only [if_true] at h ⊢; exact iha p s K K' hn hx hr h
    ·exact h.elim
   | _=>simp only [wpT] at h
  | _=>cases t <;> simp only [wpT] at h
 | block id a iha=>
  intro an s K K' hn hx hr h;cases an with
  | b p=>
   simp only [wpT] at h ⊢;refine iha p s ⟨K.n,fun i s'=>match Nat.beq i id with | true=>K.n s' | false=>K.x i s',K.r⟩ ⟨K'.n,fun i s'=>match Nat.beq i id with | true=>K'.n s' | false=>K'.x i s',K'.r⟩ hn (fun i s' hE hs'=>?_) hr h;dsimp only at hs' ⊢;cases hb:Nat.beq i id with
   | true=>rw [hb] at hs'; exact hn s' hE hs'
   | false=>rw [hb] at hs'; exact hx i s' hE hs'
  | _=>simp only [wpT] at h
 | loop a iha=>
  intro an s K K' hn hx hr h;cases an with
  | lp σ p=>
   simp only [wpT] at h ⊢;have hEp:=qj σ.sp s
   generalize prep σ.sp s=s1 at h hEp;split at h
   ·split at h
    ·obtain ⟨n,hl⟩:=h;refine ⟨n,BZ (fun R R' hR v hv=>?_) n _ hl⟩;have hE:=hEp.trans (Bi σ s1 v)
     exact iha p _ ⟨jn σ s1 R,K.x,K.r⟩ ⟨jn σ s1 R',K'.x,K'.r⟩ (fun s2 _ h=>WZ hR h) (fun i s2 h2=>hx i s2 (hE.trans h2)) (fun s2 h2=>hr s2 (hE.trans h2)) hv
    ·exact h.elim
   ·exact h.elim
  | un n p=>
   simp only [wpT] at h ⊢;have key:∀ n (s1:St),Ext s s1->yj (fun R s'=>wpT e p a s' ⟨R,K.x,K.r⟩) n s1->yj (fun R s'=>wpT e p a s' ⟨R,K'.x,K'.r⟩) n s1:=by
    intro n;induction n with
    | zero=>intro s1 _ h; exact h.elim
    | succ n ih=>
     intro s1 hE h;exact iha p s1 ⟨yj (fun R s'=>wpT e p a s' ⟨R,K.x,K.r⟩) n,K.x,K.r⟩ ⟨yj (fun R s'=>wpT e p a s' ⟨R,K'.x,K'.r⟩) n,K'.x,K'.r⟩ (fun s2 h2 hs2=>ih s2 (hE.trans h2) hs2) (fun i s2 h2=>hx i s2 (hE.trans h2)) (fun s2 h2=>hr s2 (hE.trans h2)) h
   exact key n s (Ext.refl s) h
  | _=>simp only [wpT] at h
 | _=>intro an s K K' hn hx hr h; cases an <;> simp only [wpT] at h
theorem pN {P:Program} {g:G} {c:Code} {Q Q':Exit->S->Prop} {s:S} (h:AW P g c Q s) (hq:∀ e s' a w,Q e s'->R g s' a w->∃ s'',Q' e s''/\R g s'' a w):AW P g c Q' s:=fun a w hR=>
 Code.wp_mono (fun e a' w' ⟨s',h1,h2⟩=>hq e s' a' w' h1 h2) (h a w hR)
theorem lO {e:En} (he:e.ok) (hm:e.P.follows .mixedOrders=true) {g:G}:∀ (c:Code) (an:An) (s:St) (K:Kt),kg g.nt c=true->wpT e an c s K->AW e.P g c (LQ e.pk K) s.toS:=by
 intro c;induction c with
 | skip=>intro an s K hc h; simp only [wpT] at h; exact uR ⟨s,rfl,h⟩
 | exit i=>intro an s K hc h; simp only [wpT] at h; exact Ql ⟨s,rfl,h⟩
 | ret=>intro an s K hc h; simp only [wpT] at h; exact MO ⟨s,rfl,h⟩
 | region id ops dr=>
  intro an s K hc h;obtain ⟨l⟩:=ops;cases dr with
  | false=>
   simp only [wpT] at h;exact mK (nu he YZ hc h (fun t ht=>⟨t,rfl,ht⟩))
  | true=>
   simp only [wpT] at h;simp only [kg,ac9] at hc;exact UN he YZ hm hc.1 hc.2 (fun t ht=>⟨t,rfl,ht⟩) h
 | seq a b iha ihb=>
  intro an s K hc h;simp only [kg,ac9] at hc;cases an with
  | s p q=>
   simp only [wpT] at h;refine oV (AW.mono (iha p s _ hc.1 h) (fun e' s' h'=>?_));cases e' with
   | normal=>obtain ⟨t,rfl,ht⟩:=h'; exact ihb (q.pick t) t K hc.2 ht
   | exit i=>exact h'
   | ret=>exact h'
   | panic c=>exact h'
   | _=>exact h'
  | j σ p q=>
   simp only [wpT] at h;have h1:=h _ (fun v hv=>hv)
   have h2:=Gt he a p s ⟨jn σ s (fun v=>wpT e q b (σ.st s v) K),K.x,K.r⟩ ⟨fun s'=>Ext s s'/\jn σ s (fun v=>wpT e q b (σ.st s v) K) s',K.x,K.r⟩ (fun s' hE hs'=>⟨hE,hs'⟩) (fun _ _ _ h=>h) (fun _ _ h=>h) h1
   refine oV (AW.mono (iha p s _ hc.1 h2) (fun e' s' h'=>?_));cases e' with
   | normal=>
    obtain ⟨t,rfl,hE,ht⟩:=h';intro a' w' hR;obtain ⟨v,hv,hR'⟩:=Y5 hE ht hR;exact ihb q _ K hc.2 hv a' w' hR'
   | exit i=>exact h'
   | ret=>exact h'
   | panic c=>exact h'
   | _=>exact h'
  | _=>simp only [wpT] at h
 | cond t a b iha ihb=>
  intro an s K hc h;cases an with
  | c p q=>
   cases t with
   | tmp t=>
    simp only [kg,ac9] at hc;simp only [wpT] at h;split at h
    ·rename_i c hcc;refine zb (kG hcc) (fun hb=>?_) (fun hb=>?_) (adN hc.1)
     ·subst hb; rw [if_pos rfl] at h; exact iha p s K hc.2.1 h
     ·subst hb; rw [if_neg (by simp)] at h; exact ihb q s K hc.2.2 h
    ·exact h.elim
   | _=>simp only [wpT] at h
  | _=>cases t <;> simp only [wpT] at h
 | block id a iha=>
  intro an s K hc h;cases an with
  | b p=>
   simp only [wpT] at h;refine Jj (AW.mono (iha p s _ hc h) (fun e' s' h'=>?_));cases e' with
   | normal=>exact h'
   | exit i=>
    obtain ⟨t,rfl,ht⟩:=h';simp only [B1];dsimp only at ht;cases hb:Nat.beq i id with
    | true=>
     rw [hb] at ht;rw [if_pos (adO hb)];exact ⟨t,rfl,ht⟩
    | false=>
     rw [hb] at ht;rw [if_neg (fun e=>by rw [e,agZ] at hb; cases hb)];exact ⟨t,rfl,ht⟩
   | ret=>exact h'
   | _=>exact h'
  | _=>simp only [wpT] at h
 | loop a iha=>
  intro an s K hc h;cases an with
  | lp σ p=>
   simp only [wpT] at h;have hRp:∀ a' w',R g s.toS a' w'->R g (prep σ.sp s).toS a' w':=fun a' w' hR=>zy σ.sp hR
   generalize prep σ.sp s=s1 at h hRp;split at h
   ·rename_i hf;split at h
    ·rename_i x0 hx0;obtain ⟨n,hl⟩:=h;intro a0 w0 hR0;have hj:jn1 σ s1 (fun v=>v=x0) s1:=⟨hf,x0,hx0,rfl⟩
     obtain ⟨v,rfl,hR1⟩:=WD (Ext.refl s1) hj (hRp _ _ hR0);refine Gm (fun n S'=>∃ v,oZ (fun R v=>wpT e p a (σ.st s1 v) ⟨jn σ s1 R,K.x,K.r⟩) n v/\S'=(σ.st s1 v).toS) n ⟨v,hl,rfl⟩ (fun n S' hS=>?_) a0 w0 hR1
     ·obtain ⟨v,hv,rfl⟩:=hS;cases n with
      | zero=>exact hv.elim
      | succ n=>
       have h2:=Gt he a p (σ.st s1 v) ⟨jn σ s1 (oZ (fun R v=>wpT e p a (σ.st s1 v) ⟨jn σ s1 R,K.x,K.r⟩) n),K.x,K.r⟩ ⟨fun s'=>Ext (σ.st s1 v) s'/\jn σ s1 (oZ (fun R v=>wpT e p a (σ.st s1 v) ⟨jn σ s1 R,K.x,K.r⟩) n) s',K.x,K.r⟩ (fun s' hE hs'=>⟨hE,hs'⟩) (fun _ _ _ h=>h) (fun _ _ h=>h) hv
       refine pN (iha p _ _ hc h2) (fun e' s' a' w' h' hR'=>?_);cases e' with
       | normal=>
        obtain ⟨t,rfl,hE,ht⟩:=h';obtain ⟨v',hv',hR2⟩:=Y5 ((Bi σ s1 v).trans hE) ht hR';exact ⟨_,⟨n,Nat.lt_succ_self n,v',hv',rfl⟩,hR2⟩
       | exit i=>exact ⟨s',h',hR'⟩
       | ret=>exact ⟨s',h',hR'⟩
       | panic c=>exact ⟨s',h',hR'⟩
       | _=>exact h'.elim
    ·exact h.elim
   ·exact h.elim
  | un n p=>
   simp only [wpT] at h;refine Gm (fun n S'=>∃ t:St,S'=t.toS/\yj (fun R s'=>wpT e p a s' ⟨R,K.x,K.r⟩) n t) n ⟨s,rfl,h⟩ (fun n S' hS=>?_);obtain ⟨t,rfl,ht⟩:=hS;cases n with
   | zero=>exact ht.elim
   | succ n=>
    refine pN (iha p t ⟨yj (fun R s'=>wpT e p a s' ⟨R,K.x,K.r⟩) n,K.x,K.r⟩ hc ht) (fun e' s' a' w' h' hR'=>?_);cases e' with
    | normal=>
     obtain ⟨t2,rfl,ht2⟩:=h';exact ⟨_,⟨n,Nat.lt_succ_self n,t2,rfl,ht2⟩,hR'⟩
    | exit i=>exact ⟨s',h',hR'⟩
    | ret=>exact ⟨s',h',hR'⟩
    | panic c=>exact ⟨s',h',hR'⟩
    | _=>exact h'.elim
  | _=>simp only [wpT] at h
 | _=>intro an s K hc h; cases an <;> simp only [wpT] at h
end Go.Am
end

section
namespace Go.Am
def iP:(us:List U)->Fl us->List AV
 | [],_=>[]
 | u::r,x=>(CV u (Fl.hd u r x)).toV::iP r (Fl.tl u r x)
def wb:(us:List U)->Fl us->List AV1
 | [],_=>[]
 | u::r,x=>(RR u (Fl.hd u r x)).toV::wb r (Fl.tl u r x)
theorem Ac (u:U) (x:El u):CV u x=.one (RR u x):=by cases u <;> rfl
theorem r9 {u:U} {v:At} {x:El u} (h:qm u v=some x):v.noRf=true/\v.toV.isFz=true:=by
 have cl:∀ {ts:List Tt} {cs:List C},CL ts cs->ts.all Tt.noRf=true/\(ts.map Tt.toT).all T.isFz=true:=by
  intro ts;induction ts with
  | nil=>exact fun _=>⟨rfl,rfl⟩
  | cons t ts ih=>
   intro cs hc;cases cs with
   | nil=>exact hc.elim
   | cons c cs=>
    obtain ⟨h1,h2⟩:=ih hc.2;rcases hc.1 with rfl | ⟨rfl,_⟩
    ·exact ⟨by simp only [adQ,h1]; rfl,by simp only [List.map_cons,adQ,h2]; rfl⟩
    ·exact ⟨by simp only [adQ,h1]; rfl,by simp only [List.map_cons,adQ,h2]; rfl⟩
 unfold qm at h;split at h
 ·unfold VI at h;split at h
  ·split at h
   ·obtain ⟨h1,h2⟩:=cl (jv h);refine ⟨?_,?_⟩
    ·rename_i t _ _; show t.noRf=true; simpa using h1
    ·rename_i t _ _; show t.toT.isFz=true; simpa using h2
   ·cases h
  ·split at h
   ·cases h
   ·obtain ⟨h1,h2⟩:=cl (jv h);exact ⟨h1,h2⟩
 ·cases h
theorem f7:∀ {us:List U} {vs:List At} {x:Fl us},cF us vs=some x->vs.all At.noRf=true/\(vs.map At.toV).all AV.isFz=true/\(vs.map At.toV).map (AV.map T.canon)=iP us x
 | [],[],_,_=>⟨rfl,rfl,rfl⟩
 | u::r,v::vs,x,h=>by
  simp only [cF] at h;cases h1:qm u v with
  | none=>rw [h1] at h; cases h
  | some a=>
   cases h2:cF r vs with
   | none=>rw [h1,h2] at h; cases h
   | some b=>
    rw [h1,h2] at h;simp only [ac8] at h;subst h;obtain ⟨i1,i2,i3⟩:=f7 h2;obtain ⟨k1,k2⟩:=r9 h1;refine ⟨by simp only [adQ,k1,i1,agM],by simp only [List.map_cons,adQ,k2,i2,agM],?_⟩;simp only [List.map_cons,iP,kZ,ll,i3,(zK h1).1]
 | [],_::_,_,h=>by simp [cF] at h
 | _::_,[],_,h=>by simp [cF] at h
section
variable {P:Program}
theorem iJ {s:St} {ops:List Operand} (h:ops.all bh=true):ops.map (ev s.toS)=(ops.map (evA s)).map At.toV:=by
 rw [adV];exact adU fun x hx=>aF (adI.1 h x hx)
theorem lB {f:Nat} {φ:List AV->(AV->Prop)->Prop} {ps rs:List U} {pre:Fl ps->Prop} {F:Fl ps->Fl rs} (hφ:∀ x K,pre x->K (fh rs (F x)).toV->φ (iP ps x) K) (h:Con P f (rL φ)):Cont P f (eK ps rs pre F):=by
 refine ⟨h.run,fun pk s ops k k' hk hc=>?_,fun g pk s a w H γ F1 ops k hX hops hc=>?_⟩
 ·unfold eK at hc ⊢;dsimp only at hc ⊢;split at hc
  ·exact ⟨hc.1,hk _ _ (dj _ _) hc.2⟩
  ·exact hc.elim
 ·unfold eK at hc;dsimp only at hc;obtain ⟨H1,F2,h1⟩:=eF (ops.map (evA s)) s H F1 hX;generalize cT s (ops.map (evA s))=s1 at hc h1;split at hc
  ·rename_i x hx;obtain ⟨c1,c2,c3⟩:=f7 hx;refine Calls.mono (h.call g s1.toS a w H1 γ F2 ops (fun s' av=>∃ t v',SEq s' t.toS/\av=v'.toV/\k t v') h1 hops ?_) ?_
   ·unfold rL;dsimp only;rw [iJ hops,ip c1];have e:(ops.map fun x=>(ev s1.toS x).map T.canon)=(ops.map (ev s1.toS)).map (AV.map T.canon):=by rw [adV]; rfl
    rw [e,iJ hops];refine ⟨c2,?_⟩;rw [c3];exact hφ x _ hc.1 ⟨s1,_,⟨fun _=>rfl,rfl⟩,rfl,hc.2⟩
   ·rintro e w' ⟨r,s',av,H',γ',F',k1,⟨t,v',e1,rfl,k2⟩,k3,k4⟩
    refine .inl ⟨r,t,v',H',γ',F',k1,k2,?_,fD e1 k4⟩;rw [e1.2] at k3;exact k3
  ·exact hc.elim
theorem zi {f:Nat} {ps rs:List U} {F:Fl ps->Fl rs} (h:Cont P f (eK ps rs (fun _=>True) F)):Cont P f (aP ps rs F):=by
 have e:∀ pk s ops k,aP ps rs F pk s ops k->eK ps rs (fun _=>True) F pk s ops k:=by
  intro pk s ops k hc;unfold aP at hc;unfold eK;dsimp only at hc ⊢;split at hc
  ·exact ⟨trivial,hc⟩
  ·exact hc.elim
 refine ⟨h.run,fun pk s ops k k' hk hc=>?_,fun g pk s a w H γ F1 ops k hX hops hc=>h.call g pk s a w H γ F1 ops k hX hops (e _ _ _ _ hc)⟩;unfold aP at hc ⊢;dsimp only at hc ⊢;split at hc
 ·exact hk _ _ (dj _ _) hc
 ·exact hc.elim
theorem dp {s:St}:∀ {rs:List ResultVar} {k:List At->Prop},(∀ vs,¬ k vs)->¬ eX P s rs k
 | [],k,hk,h=>hk _ h
 | r::rs,k,hk,h=>by
  have key:∀ v,¬ eX P s rs (fun vs=>k (v::vs)):=fun v=>dp fun vs=>hk _
  simp only [eX] at h;unfold qu at h;cases r with
  | tmp t=>exact key _ h
  | cell a t=>
   dsimp only at h;split at h
   ·split at h
    ·split at h
     ·exact loadT_false key h
     ·exact h
    ·exact h
   ·exact h
where
 loadT_false {m:List (Nm×Nat×Rt)} {t:TypeId} {x:At} {k:At->Prop} (hk:∀ v,¬ k v) (h:rH P m t x k):False:=by
  unfold rH at h;split at h
  ·split at h
   ·split at h <;> split at h <;> first | exact hk _ h | exact h
   ·split at h
    ·exact hk _ h.2
    ·exact h
   ·split at h <;> split at h <;> first | exact hk _ h | exact h
   ·exact h
  ·exact h
theorem jb {s:St} (hop:∀ p i,gtA s.t i=.one (.c (.pl p))->okP (toM s.m) p):∀ {rs:List ResultVar} {us:List U} {K:Fl us->Prop} {k:List At->Prop},(∀ vs,k vs->∃ x,cF us vs=some x/\K x)->eX P s rs k ->
  fM P s.toS rs (fun xs=>∃ x:Fl us,xs.map (·.map T.canon)=wb us x/\xs.all AV1.isFz=true/\K x)
 | [],us,K,k,hk,h=>by
  obtain ⟨x,hx,hK⟩:=hk _ h;cases us with
  | nil=>exact ⟨x,rfl,rfl,hK⟩
  | cons u us=>simp [cF] at hx
 | r::rs,us,K,k,hk,h=>by
  simp only [eX] at h;simp only [fM];have step:∀ {v:At},eX P s rs (fun vs=>k (v::vs))->(match v.toV with
    | .one x=>fM P s.toS rs fun xs=>∃ y:Fl us,(x::xs).map (·.map T.canon)=wb us y/\(x::xs).all AV1.isFz=true/\K y
    | _=>False):=by
   intro v hv;cases us with
   | nil=>exact (dp (fun vs hvs=>by obtain ⟨x,hx,_⟩:=hk _ hvs; simp [cF] at hx) hv).elim
   | cons u us=>
    cases hc:qm u v with
    | none=>exact (dp (fun vs hvs=>by obtain ⟨x,hx,_⟩:=hk _ hvs; simp only [cF,hc] at hx; cases hx) hv).elim
    | some a=>
     obtain ⟨c1,_⟩:=zK hc;obtain ⟨_,c3⟩:=r9 hc;have ih:=jb hop (us:=us) (K:=fun y=>K (Fl.cons u us a y)) (fun vs hvs=>by
      obtain ⟨x,hx,hK⟩:=hk _ hvs;simp only [cF,hc] at hx;cases h2:cF us vs with
      | none=>rw [h2] at hx; cases hx
      | some b=>rw [h2] at hx; simp only [ac8] at hx; subst hx; exact ⟨b,rfl,hK⟩) hv
     rw [Ac] at c1;cases v with
     | one x=>
      refine resGets_mono ?_ ih;rintro xs ⟨y,e1,e2,hK⟩
      refine ⟨_,?_,?_,hK⟩
      ·simp only [List.map_cons,wb,kZ,ll,e1];simp only [At.toV,AV.map,AV.one.injEq] at c1;rw [c1]
      ·simp only [adQ,e2,afG]; exact c3
     | tup _=>simp [qm] at hc
     | any=>simp [qm] at hc
  cases r with
  | tmp t=>
   simp only [qu] at h;simp only [vZ];rw [show aK s.toS.t t=(gtA s.t t).toV from dB t s.t];exact step h
  | cell a t=>
   simp only [qu] at h;simp only [vZ];split at h
   ·rename_i p hp;split at h
    ·split at h
     ·have hl:=JT (m:=s.m) (x:=gtA s.t a) (fun q hq=>hop q a hq) h
      rw [show aK s.toS.t a=(gtA s.t a).toV from dB a s.t];refine loadK_mono ?_ hl;rintro _ ⟨v,rfl,hv⟩
      exact step hv
     ·exact h.elim
    ·exact h.elim
   ·exact h.elim
where
 loadK_mono {m:Mm} {t:TypeId} {x:AV} {k k':AV->Prop} (hk:∀ v,k v->k' v) (h:tK P m t x k):tK P m t x k':=by
  unfold tK at h ⊢;refine ⟨h.1,?_⟩
  replace h:=h.2
  split at h
  ·split at h
   ·rename_i ha; rw [if_pos ha]; exact ⟨h.1,fun hh=>hk _ (h.2 hh)⟩
   ·rename_i ha;rw [if_neg ha];split at h
    ·exact fun hh=>hk _ (h hh)
    ·exact h.elim
  ·split at h
   ·rename_i ha; rw [if_pos ha]; exact atK_mono (fun ts hts hh=>hk _ (hts hh)) h
   ·rename_i ha;rw [if_neg ha];refine atK_mono (fun ts hts=>?_) h;split at hts
    ·exact fun hh=>hk _ (hts hh)
    ·exact hts.elim
  ·exact h.elim
 atK_mono {m:Mm} {p:Pl} {n:Nat} {k k':List T->Prop} (hk:∀ v,k v->k' v) (h:atK m p n k):atK m p n k':=by
  unfold atK at h ⊢;split at h
  ·exact h.elim
  ·split at h
   ·exact ⟨h.1,hk _ h.2⟩
   ·exact inK_mono hk h
   ·exact h.elim
 inK_mono {k k':List T->Prop} (hk:∀ v,k v->k' v):∀ {path:List Step} {sub:List Sh} {l:List (List D)} {n:Nat},inK sub l n path k->inK sub l n path k'
  | [],_,_,_,h=>h.elim
  | [st],sub,l,n,h=>by
   simp only [inK] at h ⊢;refine ⟨h.1,?_⟩
   replace h:=h.2
   split at h
   ·exact hk _ h
   ·exact h.elim
  | st::st'::r,sub,l,n,h=>by
   simp only [inK] at h ⊢;split at h
   ·split at h
    ·exact inK_mono hk h
    ·exact h.elim
   ·exact h.elim
 resGets_mono {s:S}:∀ {rs:List ResultVar} {k k':List AV1->Prop},(∀ v,k v->k' v)->fM P s rs k->fM P s rs k'
  | [],k,k',hk,h=>hk _ h
  | r::rs,k,k',hk,h=>by
   simp only [fM] at h ⊢;have st:∀ v:AV,(match v with | .one x=>fM P s rs fun xs=>k (x::xs) | _=>False)->(match v with | .one x=>fM P s rs fun xs=>k' (x::xs) | _=>False):=by
    intro v hv;cases v with
    | one x=>exact resGets_mono (fun xs=>hk _) hv
    | _=>exact hv
   cases r with
   | tmp t=>exact st _ h
   | cell a t=>exact loadK_mono st h
theorem FN {s:S} {rs:List ResultVar} {us:List U} {K:AV->Prop} {Q:Fl us->Prop} (hfrz:gb s rs=s) (hQ:∀ x,Q x->K (fh us x).toV) (h:fM P s rs (fun xs=>∃ x:Fl us,xs.map (·.map T.canon)=wb us x/\xs.all AV1.isFz=true/\Q x)):uF P s rs K:=by
 unfold uF;rw [hfrz];refine jb.resGets_mono ?_ h;rintro xs ⟨x,e1,e2,hq⟩
 have hK:=hQ x hq
 have resL_eq:∀ (us:List U) (x:Fl us),(fh.resL us x).map A1.toV=wb us x:=by
  intro us;induction us with
  | nil=>intro _; rfl
  | cons u r ih=>intro x; simp only [fh.resL,List.map_cons,wb,ih]
 match xs,e2,us,x,e1,hK with
 | [],_,[],x,_,hK=>exact ⟨rfl,hK⟩
 | [y],e2,[u],x,e1,hK=>
  simp only [List.map_cons,List.map_nil,wb,List.cons.injEq,and_true] at e1;refine ⟨by simpa using e2,?_⟩;rw [e1];have:(fh [u] x).toV=.one (RR u (Fl.hd u [] x)).toV:=by show (CV u x).toV=_; rw [Ac]; rfl
  rw [<- this]; exact hK
 | y::y'::ys,e2,u::v::r,x,e1,hK=>
  refine ⟨e2,?_⟩;rw [e1,<- resL_eq]; exact hK
 | [],_,_::_,_,e1,_=>simp [wb] at e1
 | [_],_,[],_,e1,_=>simp [wb] at e1
 | [_],_,_::_::_,_,e1,_=>simp [wb] at e1
 | _::_::_,_,[],_,e1,_=>simp [wb] at e1
 | _::_::_,_,[_],_,e1,_=>simp [wb] at e1
end
end Go.Am
end

section
namespace Go.Am
section
variable {P:Program}
theorem Wr {m:List (Nm×Nat×Rt)} {t:TypeId} {x:At} {k:At->Prop} (h:rH P m t x k):∃ v,k v:=by
 rcases Classical.em (∃ v,k v) with hh | hh
 ·exact hh
 ·exact (dp.loadT_false (fun v hv=>hh ⟨v,hv⟩) h).elim
theorem Wp {t:Tt} (h:t.owned=false):∀ sub l,t.toT≠.ow sub l:=by
 cases t with
 | ow _ _ _=>cases h
 | _=>intro _ _ h; cases h
theorem zC {s:St} {n:Nm} {r:Rt} (hr:cg s.m n=some r) (hh:r.hole=none) (hc:r.cells.all (fun t=>!t.owned)=true):∀ i,nL s.toS n i=s.toS
 | 0=>rfl
 | i+1=>by
  simp only [nL];rw [zC hr hh hc i];unfold JX;have e:be s.toS.m ⟨n,i,[]⟩=(r.cells.map Tt.toT)[i]? := by
   unfold be;rw [show ae s.toS.m n=some r.toR from bF hr];show (holed (r.cells.map Tt.toT) r.hole)[i]? = _
   rw [hh]; rfl
  rw [e,adG];cases hi:r.cells[i]? with
  | none=>rfl
  | some t=>
   have:=adI.1 hc t (ad7 hi)
   have ho:t.owned=false:=by simpa using this
   have hne:=Wp ho
   simp only [Option.map_some];cases ht:t.toT with
   | ow sub l=>exact (hne _ _ ht).elim
   | _=>rfl
theorem od {s:St}:∀ {rs:List ResultVar} {us:List U} {k:List At->Prop},(∀ vs,k vs->∃ x,cF us vs=some x)->eX P s rs k->gb s.toS rs=s.toS
 | [],_,_,_,_=>rfl
 | r::rs,us,k,hk,h=>by
  simp only [eX] at h;have step:∀ {v:At},eX P s rs (fun vs=>k (v::vs))->v.noRf=true/\gb s.toS rs=s.toS:=by
   intro v hv;cases us with
   | nil=>exact (dp (fun vs hvs=>by obtain ⟨x,hx⟩:=hk _ hvs; simp [cF] at hx) hv).elim
   | cons u us=>
    cases hc:qm u v with
    | none=>exact (dp (fun vs hvs=>by obtain ⟨x,hx⟩:=hk _ hvs; simp only [cF,hc] at hx; cases hx) hv).elim
    | some a=>
     exact ⟨(r9 hc).1,od (us:=us) (fun vs hvs=>by
      obtain ⟨x,hx⟩:=hk _ hvs;simp only [cF,hc] at hx;cases h2:cF us vs with
      | none=>rw [h2] at hx; cases hx
      | some b=>exact ⟨b,rfl⟩) hv⟩
  simp only [gb];cases r with
  | tmp t=>
   simp only [qu] at h;obtain ⟨h1,h2⟩:=step h;have e:o6 s.toS (.tmp t)=s.toS:=by
    simp only [o6];rw [show aK s.toS.t t=(gtA s.t t).toV from dB t s.t];exact wv h1
   rw [e]; exact h2
  | cell a t=>
   simp only [qu] at h;split at h
   ·rename_i p hp;split at h
    ·rename_i r hr;split at h
     ·rename_i hb;simp only [ac9,agH] at hb;obtain ⟨v,hv⟩:=Wr h;have e:o6 s.toS (.cell a t)=s.toS:=by
       simp only [o6];rw [kG hp];simp only [At.toV,A1.toV,Tt.toT];rw [show ae s.toS.m p.root=some r.toR from bF hr];exact zC hr hb.1 hb.2 _
      rw [e]; exact (step hv).2
     ·exact h.elim
    ·exact h.elim
   ·exact h.elim
variable {g:G} {a:Act} {w:World}
theorem A4 {s:St} (h:R g s.toS a w) (n:Nm):∀ i,R g (AJ s n i).toS a w
 | 0=>h
 | i+1=>Pf (A4 h n i) _
theorem QG {s:St} (h:R g s.toS a w) (r:ResultVar):R g (F6 s r).toS a w:=by
 cases r with
 | tmp t=>exact PT h _
 | cell a' t=>
  simp only [F6];split
  ·split
   ·exact A4 h _ _
   ·exact h
  ·exact h
theorem nh:∀ (rs:List ResultVar) {s:St},R g s.toS a w->R g (l9 s rs).toS a w
 | [],_,h=>h
 | r::rs,_,h=>nh rs (QG h r)
theorem Tb {s:St} (h:R g s.toS a w):∀ p i,gtA s.t i=.one (.c (.pl p))->okP (toM s.m) p:=by
 intro p i e;obtain ⟨H,γ,F,hX⟩:=h;have:=hX.t i
 rw [kG e] at this;obtain ⟨_,h1,_⟩:=this;exact UO h1
theorem qO {rs:List ResultVar} {us:List U} {KK:Fl us->Prop} {K:AV->Prop} {t:St} (hK:∀ r,KK r->K (fh us r).toV) (h:vU P rs us KK t) (hR:R g t.toS a w):∃ s'',uF P s'' rs K/\R g s'' a w:=by
 unfold vU at h;have hR1:=nh rs hR
 refine ⟨_,FN (us:=us) (Q:=KK) (od (us:=us) ?_ h) hK (jb (Tb hR1) ?_ h),hR1⟩
 ·intro vs hvs;split at hvs
  ·rename_i x hx; exact ⟨x,hx⟩
  ·exact hvs.elim
 ·intro vs hvs;split at hvs
  ·rename_i x hx; exact ⟨x,hx,hvs⟩
  ·exact hvs.elim
theorem iR:∀ (i:Nat) (us:List U) (x:Fl us),(Dm i us x).map (fun y=>(y.1,y.2.2.toV))=aW i (iP us x)
 | _,[],_=>rfl
 | i,u::r,x=>by simp only [Dm,List.map_cons,iP,aW,iR (i+1) r]
theorem fA:∀ (us:List U) (x:Fl us),(iP us x).length=us.length
 | [],_=>rfl
 | u::r,x=>by simp only [iP,adF,fA r]
end
theorem Ep {e:En} (he:e.ok) (hm:e.P.follows .mixedOrders=true) {f:Nat} {fn:Func} (hf:e.P.funcs[f]? = some fn) (hname:(fn.name == "runtime.NumGoroutine")=false) (hb:fn.body.isSome=true) {an:An} {ps rs:List U} {pre:Fl ps->Prop} {F:Fl ps->Fl rs}
  (hlen:Nat.ble ps.length fn.ntmps=true) (hc:kg fn.ntmps (fn.body.getD .skip)=true) (law:∀ x,pre x->∀ KK:Fl rs->Prop,KK (F x)->bf e fn an ps rs x KK):Cont e.P f (eK ps rs pre F):=by
 have hb':fn.body=some (fn.body.getD .skip):=by cases h:fn.body with
  | none=>rw [h] at hb; cases hb
  | some c=>rfl
 refine lB (φ:=fun avs K=>∃ x:Fl ps,avs=iP ps x/\pre x/\K (fh rs (F x)).toV) (fun x K hp hk=>⟨x,rfl,hp,hk⟩)
  (tS hf hname hb' _ (fun avs K ⟨x,hx,_,_⟩=>by rw [hx,fA]; exact adN hlen) (fun g avs K hg ⟨x,hx,hp,hk⟩=>?_))
 subst hx;have h:=law x hp (fun r=>r=F x) rfl
 have h1:=lO (e:=⟨e.P,e.E,e.cs,e.sh,fun _ _=>False⟩) he hm (g:=g) _ an (FP ps x) _ (by rw [hg]; exact hc) h
 have e0:(FP ps x).toS=⟨aW 0 (iP ps x),[]⟩:=bI.S_ext (iR 0 ps x) rfl
 rw [e0] at h1;refine pN h1 (fun ex s' a w h' hR=>?_);cases ex with
 | normal=>
  obtain ⟨t,rfl,ht⟩:=h';exact qO (fun r hr=>by rw [hr]; exact hk) ht hR
 | ret=>
  obtain ⟨t,rfl,ht⟩:=h';exact qO (fun r hr=>by rw [hr]; exact hk) ht hR
 | exit i=>exact h'.elim (fun t ht=>ht.2.elim)
 | panic c=>obtain ⟨_,_,_,_,hf⟩:=h'; exact hf.elim
 | _=>exact h'.elim
theorem On {e:En} (he:e.ok) (hm:e.P.follows .mixedOrders=true) {f:Nat} {fn:Func} (hf:e.P.funcs[f]? = some fn) (hname:(fn.name == "runtime.NumGoroutine")=false) (hb:fn.body.isSome=true) {an:An} {ps rs:List U} {F:Fl ps->Fl rs}
  (hlen:Nat.ble ps.length fn.ntmps=true) (hc:kg fn.ntmps (fn.body.getD .skip)=true) (law:∀ x,∀ KK:Fl rs->Prop,KK (F x)->bf e fn an ps rs x KK):Cont e.P f (aP ps rs F):=
 zi (Ep he hm hf hname hb hlen hc (fun x _=>law x))
end Go.Am
end

section
namespace Go.Am
def NS (s:S) (rs:List ResultVar) (K:List Sh->List (List D)->Prop):Prop:=
 match rs with
 | [.tmp t]=>match aK s.t t with
  | .one (.c (.rf ⟨n,0,[]⟩))=>match ae s.m n with
   | some ⟨false,[.ow sub l]⟩=>K sub l
   | _=>False
  | _=>False
 | _=>False
def abV (rs:List ResultVar) (K:List Sh->List (List D)->Prop):Exit->S->Prop
 | .normal,s=>NS s rs K
 | .ret,s=>NS s rs K
 | _,_=>False
def VM (φ:List AV->List Sh->List (List D)->(List (List D)->Prop)->Prop):CK1:=fun s ops k=>
 match ops with
 | []=>False
 | o::os=>
  let s1:=jt s (os.map (ev s))
  match ev s1 o with
  | .one (.c (.rf ⟨r,0,[]⟩))=>match ae s1.m r with
   | some ⟨false,[.ow sub l]⟩=>(os.map (ev s1)).all AV.isFz=true /\
     φ (os.map fun x=>(ev s1 x).map T.canon) sub l (fun l'=>k ⟨jq (bR r) s1.t,(r,⟨false,[.ow sub l']⟩)::aL (bR r) (bv s1.m r)⟩ (.one (.c (.rf ⟨r,0,[]⟩))))
   | _=>False
  | _=>False
section
variable {P:Program}
theorem Yx {f:Nat} {fn:Func} {c:Code} (hf:P.funcs[f]? = some fn) (hname:(fn.name == "runtime.NumGoroutine")=false) (hb:fn.body=some c) (φ:List AV->List Sh->List (List D)->(List (List D)->Prop)->Prop)
  (hlen:∀ avs sub l K,φ avs sub l K->avs.length+1<=fn.ntmps)
  (hbody:∀ (g:G) avs sub l K,g.nt=fn.ntmps->φ avs sub l K->AW P g c (abV fn.results.toList (fun sub' l'=>sub'=sub/\K l')) ⟨aW 0 (.one (.c (.rf ⟨.out 0,0,[]⟩))::avs),[(.out 0,⟨false,[.ow sub l]⟩)]⟩):Con P f (VM φ):=by
 refine ⟨fun args w=>?_,?_⟩
 ·have h1:fn.name ≠ "runtime.NumGoroutine" := by simpa using hname
  simp [callFunc,hf,h1,hb]
 ·intro g s a w H γ F ops k hX hops hK;cases ops with
  | nil=>exact hK.elim
  | cons o os=>
  unfold VM at hK;dsimp only at hK;obtain ⟨H1,F1,h1⟩:=ky (os.map (ev s)) s H F hX;generalize jt s (os.map (ev s))=s1 at hK h1;have hops':bh o=true/\os.all bh=true:=by simpa using hops
  split at hK
  rotate_left
  ·exact hK.elim
  rename_i r heo;split at hK
  rotate_left
  ·exact hK.elim
  rename_i sub l hroot;obtain ⟨hfz,hφ⟩:=hK;have hevo:=br h1 hops'.1
  rw [heo] at hevo;obtain ⟨_,hokr,hval⟩:=hevo;have hR:=h1.mem.roots _ (aw hroot)
  have hR2:=hR
  unfold bm at hR2;rw [if_neg (by simp)] at hR2;obtain ⟨v0,t0,hγr,hcells,hTR⟩:=hR2;simp only [List.cons.injEq,and_true] at hcells;subst hcells;have hv0:a.eval o=v0:=by
   simp only [plV,hγr,aD] at hval
   first | exact (Option.some.inj hval).symm | (simp at hval; exact hval.symm)
  have hle:=hlen _ _ _ _ hφ
  rw [adE] at hle
  let γc:Gam:=fun n=>if n=.out 0 then .gh v0 else γ n
  let mc:Mm:=[(.out 0,⟨false,[.ow sub l]⟩)]
  let g1:G:=⟨fn.ntmps,w,H1,F1 r,fun _=>none,none,[]⟩
  have hγc:γc (.out 0)=.gh v0:=by simp [γc]
  have hRc:bm w H1 γc mc (.out 0) ⟨false,[.ow sub l]⟩ (F1 r):=by
   unfold bm;rw [if_neg (by simp)];exact ⟨v0,_,hγc,rfl,hTR⟩
  have hge:∀ c,F1 r c<=tot F1 s1.m c:=fun c=>bX (F:=F1) (aw hroot) c
  let Fc:Nm->Fp:=fun _=>F1 r
  have htc:∀ c,tot Fc mc c=F1 r c:=fun c=>(agG (F1 r c))
  have hmc:Mem w H1 γc mc Fc:=by
   refine ⟨h1.mem.agree,fun x hx=>?_,by simp [mc],fun c=>by rw [htc]; exact ae8 (hge c) (h1.mem.le1 c),fun c hc=>by rw [htc] at hc; exact h1.mem.lt c (by have:=hge c; omega),fun c hc=>by rw [htc] at hc; exact h1.mem.nofz c (by have:=hge c; omega)⟩;simp only [mc,adM] at hx;subst hx;exact hRc
  refine calls_of_wp hf hb (Code.wp_mono (fun e a' w' hl=>?_) (hbody g1 _ _ _ _ rfl hφ _ w ⟨H1,γc,Fc,?_⟩))
  ·obtain ⟨s',hq,H',γ',F',hX'⟩:=hl;have fin:NS s' fn.results.toList (fun sub' l'=>sub'=sub/\k ⟨jq (bR r) s1.t,(r,⟨false,[.ow sub l']⟩)::aL (bR r) (bv s1.m r)⟩ (.one (.c (.rf ⟨r,0,[]⟩)))) ->
     a'.defers=[]/\∃ v,(results fn a'.tmps).run P w'=.ok v w'/\∃ rr s'' av H'' γ'' F'',Ending.returned v=.returned rr/\k s'' av/\AR w' H'' γ'' s''.m av rr/\RX g s'' a w' H'' γ'' F'':=by
    intro hq;unfold NS at hq;split at hq
    rotate_left
    ·exact hq.elim
    rename_i t hrs;split at hq
    rotate_left
    ·exact hq.elim
    rename_i n hgt;split at hq
    rotate_left
    ·exact hq.elim
    rename_i sub' l' hout;obtain ⟨rfl,hk⟩:=hq;have hrun:(results fn a'.tmps).run P w'=.ok (a'.tmps.getD t undef) w':=by
     rw [im,af3,hrs];simp [pU]
    have hres:AR w' _ _ _ _ (a'.tmps.getD t undef):=hX'.t t
    rw [hgt] at hres;obtain ⟨_,_,hpv⟩:=hres;have hRn:=hX'.mem.roots _ (aw hout)
    unfold bm at hRn;rw [if_neg (by simp)] at hRn;obtain ⟨v1,t1,hγn,hc1,hTR1⟩:=hRn;simp only [List.cons.injEq,and_true] at hc1;subst hc1;have hv1:a'.tmps.getD t undef=v1:=by
     simp only [plV,hγn,aD] at hpv
     first | exact (Option.some.inj hpv).symm | (simp at hpv; exact hpv.symm)
    have hfr:=hX'.fr
    dsimp only [g1] at hfr;have hd:=nP h1 r
    have hmdm:(s1.drop r).m=aL (bR r) (bv s1.m r):=rfl
    have hdm:=hd.mem
    rw [hmdm] at hdm;generalize hmd0:aL (bR r) (bv s1.m r)=md at hdm hk;have tdel:∀ c,tot F1 md c+F1 r c=tot F1 s1.m c:=fun c=>by
     rw [<- hmd0,bH]; exact ja hroot c
    have hsame:∀ c,tot F1 md c≠0->w'.heap[c]? = w.heap[c]? := fun c hc=>
     hfr.block c (h1.mem.lt c (by have:=tdel c; omega)) (by have:=tdel c; have:=h1.mem.le1 c; omega)
    have hnewc:∀ c,c<w.heap.size->F1 r c=0->H1 c=H' c:=by
     intro c hc h0
     funext o
     cases hh:H1 c o with
     | some y=>rw [hfr.hold c o y hh]
     | none=>
      cases hh2:H' c o with
      | none=>rfl
      | some y=>
       rcases hfr.hnew c o (by rw [hh2]; simp) hh with h' | h'
       ·exact absurd h0 h'
       ·omega
    have hKp:=dn (w':=w') hdm hsame
    have hmd:Mem w' H' γ md F1:=by
     refine ⟨hX'.mem.agree,fun x hx=>aX hKp hfr.hold rfl (fun c hc=>hsame c (by have:=bX (F:=F1) hx c; omega)) (hdm.roots x hx),hdm.keys,hdm.le1,fun c hc=>by have:=hdm.lt c hc; have:=hfr.size; omega,fun c hc o=>?_⟩;rw [<- hnewc c (hdm.lt c hc) (by have:=tdel c; have:=h1.mem.le1 c; omega)]; exact hdm.nofz c hc o
    have hnone:ae md r=none:=by rw [<- hmd0]; exact BC h1.mem.keys
    have hRr:bm w' H' (upd γ r (.gh v1)) ((r,⟨false,[.ow sub' l']⟩)::md) r ⟨false,[.ow sub' l']⟩ (F' n):=by
     unfold bm;rw [if_neg (by simp)];exact ⟨v1,_,dY,rfl,hTR1⟩
    have hf1:∀ c,F' n c<=tot F' s'.m c:=fun c=>bX (F:=F') (aw hout) c
    have hf2:∀ c,F' n c≠0->F1 r c≠0\/w.heap.size<=c:=fun c hc=>hfr.tt c (by have:=hf1 c; omega)
    have hmd0':∀ c,F' n c≠0->tot F1 md c=0:=fun c hc=>by
     rcases hf2 c hc with h' | h'
     ·have:=tdel c; have:=h1.mem.le1 c; omega
     ·rcases aeL (tot F1 md c) with h0 | h0
      ·exact h0
      ·have:=hdm.lt c (by omega); omega
    obtain ⟨hM,htot⟩:=uX hmd (n:=r) (rc:=.gh v1) (r:=⟨false,[.ow sub' l']⟩) (f:=F' n) hnone hRr (fun c=>by
      by_cases hc:F' n c=0
      ·have:=hdm.le1 c; omega
      ·have:=hmd0' c hc; have:=hX'.mem.le1 c; have:=hf1 c; omega)
     (fun c hc=>⟨hX'.mem.lt c (by have:=hf1 c; omega),hX'.mem.nofz c (by have:=hf1 c; omega)⟩)
    have hFr:Fr w H1 (tot F1 s1.m) w' H' (tot (upd F1 r (F' n)) ((r,⟨false,[.ow sub' l']⟩)::md)):=by
     refine ⟨hfr.size,hfr.os,hfr.tape,hfr.output,fun c hc h0=>hfr.block c hc (by have:=hge c; omega),hfr.hold,fun c o h2 h3=>?_,fun c hc=>?_⟩
     ·rcases hfr.hnew c o h2 h3 with h' | h'
      ·exact .inl (by have:=hge c; omega)
      ·exact .inr h'
     ·rw [htot] at hc;by_cases h0:F' n c=0
      ·exact .inl (by have:=tdel c; omega)
      ·rcases hf2 c h0 with h' | h'
       ·exact .inl (by have:=hge c; omega)
       ·exact .inr h'
    have hKB:KeepsB (bR r) w γ s1.m w' (upd γ r (.gh v1)) ((r,⟨false,[.ow sub' l']⟩)::md):=by
     have hKa:=jO (w:=w') (γ:=γ) (rc:=.gh v1) (r:=⟨false,[.ow sub' l']⟩) hnone
     have hKd:KeepsB (bR r) w γ s1.m w γ md:=by rw [<- hmd0]; exact eD
     constructor
     ·intro q hbq hq;obtain ⟨k1,k2⟩:=hKd.pl q hbq hq;obtain ⟨k3,k4⟩:=hKp.pl q k1;obtain ⟨k5,k6⟩:=hKa.pl q k3;exact ⟨k5,k6.trans (k4.trans k2)⟩
     ·intro q hbq hq;obtain ⟨k1,k2⟩:=hKd.rf q hbq hq;obtain ⟨k3,k4⟩:=hKp.rf q k1;obtain ⟨k5,k6⟩:=hKa.rf q k3;exact ⟨k5,k6.trans (k4.trans k2)⟩
    refine ⟨hX'.df.1,_,hrun,_,_,_,H',upd γ r (.gh v1),_,rfl,hk,?_,hM,h1.fr.trans hFr,h1.nt,⟨h1.df.1,fun j b e=>?_,h1.df.2.2⟩,fun i=>?_⟩
    ·refine ⟨fun _=>rfl,?_,?_⟩
     ·simp [gF,ae]
     ·rw [hv1];simp [plV,dY,aD]
    ·have:=h1.df.2.1 j b e
     by_cases hj:Nm.out j=r
     ·rw [hj,hγr] at this; cases this
     ·rw [oe hj]; exact this
    ·rw [j7];exact qS hKB hfr.hold (h1.t i)
   cases e with
   | normal=>exact fin hq
   | ret=>exact fin hq
   | _=>exact hq.elim
  ·refine ⟨hmc,⟨adH _,rfl,rfl,rfl,fun _ _ _=>rfl,fun _ _ _ h=>h,fun b o h2 h3=>absurd h3 h2,fun c hc=>.inl (by rw [htc] at hc; exact hc)⟩,?_,⟨rfl,fun i b' e=>by simp [g1] at e,dJ h1⟩,fun i=>?_⟩
   ·simp [g1]; omega
   ·have hget:∀ x,(o::os)[i]? = some x->(((o::os).map a.eval).toArray++Array.replicate (fn.ntmps - ((o::os).map a.eval).toArray.size) undef).getD i undef=a.eval x:=by
     intro x hx;rw [ad9,ae0 (by simp; have:=aj hx; simp at this; omega)];have e:((o::os).map a.eval)[i]? = some (a.eval x):=by rw [adG,hx]; rfl
     rw [agD,e]; rfl
    cases i with
    | zero=>
     rw [G.tv_none rfl,hget o rfl,hv0];simp only [aW,aK,if_true];refine ⟨fun _=>rfl,?_,?_⟩
     ·simp [gF,ae,mc]
     ·simp [plV,hγc,aD]
    | succ i=>
     have hent:aK (aW 0 (.one (.c (.rf ⟨.out 0,0,[]⟩))::os.map fun x=>(ev s1 x).map T.canon)) (i+1)=((os.map fun x=>(ev s1 x).map T.canon)[i]?).getD .any:=by
      simp only [aW,aK];rw [if_neg (by omega)];rw [fG];simp
     show AR w H1 γc mc (aK (aW 0 (.one (.c (.rf ⟨.out 0,0,[]⟩))::os.map fun x=>(ev s1 x).map T.canon)) (i+1)) _
     rw [hent,adG];cases hi:os[i]? with
     | none=>simp only [af4,af9]; trivial
     | some x=>
      have hx:=br h1 (adI.1 hops'.2 x (ad7 hi))
      simp only [Option.map_some,Option.getD_some];have hz:(ev s1 x).isFz=true:=by
       have:=adI.1 hfz (ev s1 x) (aeH (ad7 hi))
       exact this
      rw [G.tv_none rfl,hget x (by simpa using hi)];exact fE cU (lf (fun _ _ _ h=>h) hz hx)
end
section
variable {α β γ' δ:Type} {P:Program} {f:Nat} {fn:Func} {co:Code}
def fo0 (c:Rw α) (n:Nat) (pre:List α->Prop) (f:List α->List α):List AV->List Sh->List (List D)->(List (List D)->Prop)->Prop
 | [],sub,l,K=>match dW c l with
  | some s=>sub=List.replicate n .fr/\pre s/\K ((f s).map c.enc)
  | _=>False
 | _,_,_,_=>False
def fo1 (c:Rw α) (n:Nat) (a:Cd β) (pre:List α->β->Prop) (f:List α->β->List α):List AV->List Sh->List (List D)->(List (List D)->Prop)->Prop
 | [.one x],sub,l,K=>match dW c l,a.dec x with
  | some s,some x=>sub=List.replicate n .fr/\pre s x/\K ((f s x).map c.enc)
  | _,_=>False
 | _,_,_,_=>False
def fo2 (c:Rw α) (n:Nat) (a:Cd β) (b:Cd δ) (pre:List α->β->δ->Prop) (f:List α->β->δ->List α):List AV->List Sh->List (List D)->(List (List D)->Prop)->Prop
 | [.one x,.one y],sub,l,K=>match dW c l,a.dec x,b.dec y with
  | some s,some x,some y=>sub=List.replicate n .fr/\pre s x y/\K ((f s x y).map c.enc)
  | _,_,_=>False
 | _,_,_,_=>False
end
attribute [push_cast] VM fo0 fo1 fo2 NS abV
end Go.Am
end

section
namespace Go.Am
section
variable {P:Program} {g:G} {a:Act} {w:World} {H:FH} {γ:Gam} {F:Nm->Fp}
theorem FL {m:Mm} {t:T} {f:Fp} {v:Value} (h:TR w H γ m t f v):rE (m.map (·.1)) t:=by
 have key:∀ {n:Nm} {r:Root},ae m n=some r->n∈m.map (·.1):=fun h=>aeH (f:=(·.1)) (aw h)
 cases t with
 | pl p=>
  obtain ⟨_,h1,_⟩:=h;unfold bU at h1;split at h1
  ·exact h1.elim
  ·rename_i hr; exact key hr
 | rf p=>
  obtain ⟨_,h1,_⟩:=h;unfold gF at h1;split at h1
  ·exact h1.elim
  ·rename_i hr; exact key hr
 | _=>trivial
theorem PP {m:Mm} {x:AV1} {y:Value} (h:AR1 w H γ m x y):B4 (m.map (·.1)) x:=by
 cases x with
 | c t=>exact FL h
 | agg ts=>
  obtain ⟨cs,_,_,h1⟩:=h;intro t ht;obtain ⟨i,hi,e⟩:=agX ht;obtain ⟨v,g',_,h2,_⟩:=Ie h1 (i:=i) (t:=t) (by rw [adA hi,e]);exact FL h2
theorem ZW {m:Mm} {x:AV} {y:Value} (h:AR w H γ m x y):Mj (m.map (·.1)) x:=by
 cases x with
 | one x=>exact PP h
 | tup xs=>
  obtain ⟨l,_,h1⟩:=h;have:∀ (xs:List AV1) (ys:List Value),ARs w H γ m xs ys->∀ x∈xs,B4 (m.map (·.1)) x:=by
   intro xs;induction xs with
   | nil=>intro _ _ x hx; simp at hx
   | cons x xs ih=>
    intro ys h z hz;cases ys with
    | nil=>exact h.elim
    | cons y ys=>
     rcases adK.1 hz with rfl | hz
     ·exact PP h.1
     ·exact ih ys h.2 z hz
  exact this xs _ h1
 | any=>trivial
theorem WG {m:Mm} {n:Nm} {r:Root} {f:Fp} (h:bm w H γ m n r f):∀ t∈r.cells,rE (m.map (·.1)) t:=by
 intro t ht;unfold bm at h;split at h
 ·obtain ⟨b,cs,ty,fz,g',_,_,_,_,h1,_⟩:=h;obtain ⟨i,hi,e⟩:=agX ht;obtain ⟨v,g'',_,h2,_⟩:=Ie h1 (i:=i) (t:=t) (by rw [adA hi,e]);exact FL h2
 ·obtain ⟨v,t',_,h1,h2⟩:=h;rw [h1] at ht;simp only [adM] at ht;subst ht;exact FL h2
theorem qw {s:S} (hX:RX g s a w H γ F) (n:Nm):RX g ⟨s.t,s.m.map fun x=>(x.1,if x.1=n then gY x.2 else x.2)⟩ a w H γ F:=by
 have hk:(s.m.map fun x=>(x.1,if x.1=n then gY x.2 else x.2)).map (·.1)=s.m.map (·.1):=by rw [adV]; rfl
 refine U4 hX (by rw [hk]; exact hX.mem.keys) (fun x hx=>?_) (fun i=>.inr ⟨.inl rfl,by rw [hk]; exact ZW (hX.t i)⟩);rw [hk];obtain ⟨y,hy,rfl⟩:=ad0.1 hx;refine ⟨y.2,sZ hX.mem.keys hy,?_,WG (hX.mem.roots y hy)⟩;dsimp only;split
 ·exact rD.canon _
 ·exact rD.refl _
theorem iA {sh:List Sh} {cells ts:List Tt} {j:Nm} (h:fC sh cells=some ts):(cells.map Tt.toT).all (T.self j)=true/\∀ r:Nm,(cells.map Tt.toT).map (T.ren r j)=cells.map Tt.toT:=by
 induction cells generalizing sh ts with
 | nil=>exact ⟨rfl,fun _=>rfl⟩
 | cons c cells ih=>
  cases sh with
  | nil=>simp [fC] at h
  | cons s sh=>
   have key:∀ {ts'},fC sh cells=some ts'->(T.self j c.toT=true/\∀ r,T.ren r j c.toT=c.toT)->((c::cells).map Tt.toT).all (T.self j)=true/\∀ r:Nm,((c::cells).map Tt.toT).map (T.ren r j)=(c::cells).map Tt.toT:=by
    intro ts' h1 h2;obtain ⟨i1,i2⟩:=ih h1;exact ⟨by simp only [List.map_cons,adQ,h2.1,i1,agM],fun r=>by rw [List.map_cons,List.map_cons,h2.2 r,i2 r]⟩
   cases s with
   | fr=>
    cases c with
    | d x=>
     simp only [fC] at h;split at h
     ·rename_i hr; exact key hr ⟨rfl,fun _=>rfl⟩
     ·cases h
    | nil=>
     simp only [fC] at h;split at h
     ·rename_i hr; exact key hr ⟨rfl,fun _=>rfl⟩
     ·cases h
    | _=>simp [fC] at h
   | ow sub=>
    cases c with
    | ow s' u l=>
     simp only [fC] at h;split at h
     ·rename_i hr; exact key hr ⟨rfl,fun _=>rfl⟩
     ·cases h
    | _=>simp [fC] at h
theorem wn {a b:Nm}:∀ {ts:List T} {sh:List Sh} {cs:List C},ts.map T.canon=(aC sh cs).map Tt.toT->ts.map (T.ren a b)=ts
 | [],_,_,_=>rfl
 | t::ts,sh,cs,h=>by
  cases sh with
  | nil=>simp [aC] at h
  | cons s r=>cases cs with
   | nil=>cases s <;> simp [aC] at h
   | cons c cs=>
    have hd:∃ t0:Tt,(∀ p,t0≠.pl p)/\aC (s::r) (c::cs)=t0::aC r cs:=by
     cases s with
     | fr=>exact ⟨.d c,(fun _ h=>by cases h),(by cases c <;> rfl)⟩
     | ow sub=>cases c with
      | li u l=>exact ⟨.ow sub u l,(fun _ h=>by cases h),rfl⟩
      | _=>exact ⟨.d _,(fun _ h=>by cases h),rfl⟩
    obtain ⟨t0,h0,h1⟩:=hd;rw [h1] at h;simp only [List.map_cons,List.cons.injEq] at h;rw [List.map_cons,wn h.2]
    congr 1
    cases t with
    | pl p=>
     have:=h.1
     cases t0 with
     | pl q=>exact (h0 q rfl).elim
     | _=>simp [T.canon,Tt.toT] at this
    | _=>rfl
theorem Qq:∀ (us:List U) (x:Fl us),(fh us x).toV.isFz=true:=by
 have one:∀ (u:U) (x:El u),(RR u x).toV.isFz=true:=by
  intro u x;cases u with
  | st n=>simp only [RR,A1.toV,AV1.isFz,adV,agB]; exact adI.2 fun _ _=>rfl
  | _=>rfl
 have all:∀ (us:List U) (x:Fl us),((fh.resL us x).map A1.toV).all AV1.isFz=true:=by
  intro us;induction us with
  | nil=>intro _; rfl
  | cons u r ih=>intro x; simp only [fh.resL,List.map_cons,adQ,one,ih,agM]
 intro us x
 match us,x with
 | [],_=>rfl
 | [u],x=>show (CV u x).toV.isFz=true; rw [Ac]; exact one u x
 | u::v::r,x=>exact all (u::v::r) x
theorem TL {e:En} (he:e.ok) (hm:e.P.follows .mixedOrders=true) {f:Nat} {fn:Func} (hf:e.P.funcs[f]? = some fn) (hname:(fn.name == "runtime.NumGoroutine")=false) (hb:fn.body.isSome=true) {an:An} {sh:List Sh} {u:U} {ps rs:List U} {pre:El u->Fl ps->Prop} {Fn:El u->Fl ps->Fl rs×El u}
  (hlen:Nat.ble (ps.length+1) fn.ntmps=true) (hc:kg fn.ntmps (fn.body.getD .skip)=true) (law:∀ x y,pre x y->∀ KK:Fl rs×El u->Prop,KK (Fn x y)->sR e fn an sh u ps rs x y KK):Cont e.P f (Gp sh u ps rs pre Fn):=by
 have hb':fn.body=some (fn.body.getD .skip):=by cases h:fn.body with
  | none=>rw [h] at hb; cases hb
  | some c=>rfl
 let φ:List AV->List T->(AV->List T->Prop)->Prop:=fun avs cells K=>∃ (x:El u) (y:Fl ps),avs=iP ps y/\cells.map T.canon=(aC sh (flat u x)).map Tt.toT/\pre x y /\
  ∀ cells',cells'.all (T.self (.out 0))=true->cells'.length=cells.length->cells'.map T.canon=(aC sh (flat u (Fn x y).2)).map Tt.toT->K (fh rs (Fn x y).1).toV cells'
 have hcon:Con e.P f (Tq 0 φ):=by
  refine XJ hf hname hb' φ (fun avs cells K ⟨x,y,hx,_⟩=>by rw [hx,fA]; exact adN hlen) (fun g avs cells K hg ⟨x,y,hx,hcells,hp,hk⟩=>?_);subst hx;have h:=law x y hp (fun r=>r=Fn x y) rfl
  have h1:=lO (e:=⟨e.P,e.E,e.cs,e.sh,fun _ _=>False⟩) he hm (g:=g) _ an _ _ (by rw [hg]; exact hc) h
  have hln:cells.length=(aC sh (flat u x)).length:=by
   have:=congrArg List.length hcells
   simpa using this
  have h2:AW e.P g (fn.body.getD .skip) (LQ (fun _ _=>False) ⟨rR e.P fn.results.toList sh u rs (fun r=>r=Fn x y),fun _ _=>False,rR e.P fn.results.toList sh u rs (fun r=>r=Fn x y)⟩) ⟨aW 0 (.one (.c (.pl ⟨.out 0,0,[]⟩))::iP ps y),[(.out 0,⟨true,cells⟩)]⟩:=by
   intro a w ⟨H,γ,F,hX⟩;refine h1 a w ⟨H,γ,F,?_⟩;have:=qw hX (.out 0)
   have e0:(⟨1,(0,0,.one (.c (.pl ⟨.out 0,0,[]⟩)))::Dm 1 ps y,[(.out 0,0,⟨true,aC sh (flat u x),none⟩)]⟩:St).toS=⟨aW 0 (.one (.c (.pl ⟨.out 0,0,[]⟩))::iP ps y),[(.out 0,⟨true,cells⟩)].map fun x=>(x.1,if x.1=.out 0 then gY x.2 else x.2)⟩:=by
    refine bI.S_ext ?_ ?_
    ·simp only [List.map_cons,aW,iR]; rfl
    ·simp only [List.map_cons,List.map_nil,if_true,Rt.toR,holed,gY,hcells]
   rw [e0]; exact this
  refine pN h2 (fun ex s' a w h' hR=>?_);have fin:∀ t:St,R g t.toS a w->rR e.P fn.results.toList sh u rs (fun r=>r=Fn x y) t->∃ s'',Ad 0 e.P s'' fn.results.toList K/\R g s'' a w:=by
   intro t hR ht;unfold rR at ht;dsimp only at ht;have hR1:=dh (.out 0) (gk u) sh 0 (nh fn.results.toList hR)
   generalize bu (l9 t fn.results.toList) (.out 0) (gk u) sh 0=s1 at ht hR1;have hid:=od (us:=rs) (k:=fun vs=>match cF rs vs,cg s1.m (.out 0) with
    | some x_1,some ⟨true,cells,none⟩=>match fC sh cells with
     | some ts=>match kN u ts with
      | some y_1=>(x_1,y_1)=Fn x y
      | none=>False
     | none=>False
    | _,_=>False) (by
     intro vs hvs;split at hvs
     ·rename_i h1 _; exact ⟨_,h1⟩
     ·exact hvs.elim) ht
   refine ⟨s1.toS,?_,hR1⟩;unfold Ad;rw [hid];have hg2:=jb (us:=rs) (K:=fun r=>∃ cells ts y1,cg s1.m (.out 0)=some ⟨true,cells,none⟩/\fC sh cells=some ts/\kN u ts=some y1/\(r,y1)=Fn x y) (Tb hR1) (by
     intro vs hvs;split at hvs
     ·rename_i x1 cells1 h1 h2;split at hvs
      ·rename_i ts h3;split at hvs
       ·rename_i y1 h4; exact ⟨x1,h1,cells1,ts,y1,h2,h3,h4,hvs⟩
       ·exact hvs.elim
      ·exact hvs.elim
     ·exact hvs.elim) ht
   have hroot:∃ cells1 ts y1,cg s1.m (.out 0)=some ⟨true,cells1,none⟩/\fC sh cells1=some ts/\kN u ts=some y1:=by
    rcases Classical.em (∃ cells1 ts y1,cg s1.m (.out 0)=some ⟨true,cells1,none⟩/\fC sh cells1=some ts/\kN u ts=some y1) with hh | hh
    ·exact hh
    ·refine (dp (fun vs hvs=>?_) ht).elim;split at hvs
     ·rename_i x1 cells1 h1 h2;split at hvs
      ·rename_i ts h3;split at hvs
       ·rename_i y1 h4; exact hh ⟨cells1,ts,y1,h2,h3,h4⟩
       ·exact hvs
      ·exact hvs
     ·exact hvs
   obtain ⟨cells1,ts,y1,r1,r2,r3⟩:=hroot;rw [show ae s1.toS.m (.out 0)=some (⟨true,cells1,none⟩:Rt).toR from bF r1];show uF e.P s1.toS fn.results.toList (fun v=>K v (cells1.map Tt.toT))
   refine FN hid (Q:=fun r=>∃ cells ts y1,cg s1.m (.out 0)=some ⟨true,cells,none⟩/\fC sh cells=some ts/\kN u ts=some y1/\(r,y1)=Fn x y) ?_ hg2;rintro r ⟨cells2,ts2,y2,q1,q2,q3,q4⟩
   rw [r1] at q1;have q1':=Option.some.inj q1
   simp only [Rt.mk.injEq,true_and,and_true] at q1';subst q1';have e1:r=(Fn x y).1:=by rw [<- q4]
   have e2:y2=(Fn x y).2:=by rw [<- q4]
   obtain ⟨k1,_⟩:=q0 q2 (jv q3);rw [e1];refine hk _ (iA q2).1 ?_ (by rw [<- e2,k1]);have l1:(cells1.map Tt.toT).length=(aC sh (flat u y2)).length:=by
    have:=congrArg List.length k1
    simpa using this.symm
   have l2:∀ (sh:List Sh) (a b:List C),a.length=b.length->(aC sh a).length=(aC sh b).length:=by
    intro sh;induction sh with
    | nil=>intro a b _; cases a <;> cases b <;> rfl
    | cons s r ih=>
     intro a b hab;have hcons:∀ (c:C) (cs:List C),(aC (s::r) (c::cs)).length=(aC r cs).length+1:=by
      intro c cs;cases s <;> cases c <;> rfl
     cases a with
     | nil=>cases b with
      | nil=>rfl
      | cons _ _=>cases hab
     | cons c cs=>cases b with
      | nil=>cases hab
      | cons d ds=>rw [hcons,hcons,ih cs ds (by simpa using hab)]
   rw [l1,hln];exact l2 sh _ _ (by rw [iQ,iQ])
  cases ex with
  | normal=>obtain ⟨t,rfl,ht⟩:=h'; exact fin t hR ht
  | ret=>obtain ⟨t,rfl,ht⟩:=h'; exact fin t hR ht
  | exit i=>exact h'.elim (fun t ht=>ht.2.elim)
  | panic c=>obtain ⟨_,_,_,_,hf⟩:=h'; exact hf.elim
  | _=>exact h'.elim
 refine ⟨hcon.run,fun pk s ops k k' hk hcc=>?_,fun g pk s a w H γ F1 ops k hX hops hcc=>?_⟩
 ·unfold Gp at hcc ⊢;split at hcc
  ·exact hcc.elim
  ·dsimp only at hcc ⊢;split at hcc
   ·split at hcc
    ·split at hcc
     ·split at hcc
      ·split at hcc
       ·refine ⟨hcc.1,hk _ _ ?_ hcc.2⟩;exact ((dj _ _).trans (dL _ _ _ _ _)).trans ⟨aeW _,gz (adH _),((t7 _).trans (fQ (adH _))).trans (jY _ _ _ (adH _))⟩
       ·exact hcc.elim
      ·exact hcc.elim
     ·exact hcc.elim
    ·exact hcc.elim
   ·exact hcc.elim
 ·unfold Gp at hcc;cases ops with
  | nil=>exact hcc.elim
  | cons o os=>
   dsimp only at hcc;have hops':bh o=true/\os.all bh=true:=by simpa using hops
   obtain ⟨H1,F2,h1⟩:=eF (os.map (evA s)) s H F1 hX;generalize cT s (os.map (evA s))=s1 at hcc h1;split at hcc
   ·rename_i r hro;obtain ⟨H2,γ2,F3,h2⟩:=dh (g:=g) r (gk u) sh 0 (Q0 h1);generalize bu s1 r (gk u) sh 0=s2 at hcc h2;split at hcc
    ·rename_i r' hev2;split at hcc
     ·rename_i cells hdr hty hroot;have hr':r'=r:=by simpa using hdr
      subst hr';split at hcc
      ·rename_i ts hts;split at hcc
       ·rename_i x y hx hy;have hn2:=uu h2
        obtain ⟨c1,c2,c3⟩:=f7 hy;obtain ⟨k1,_⟩:=q0 hts (jv hx);refine Calls.mono (hcon.call g s2.toS a w H2 γ2 F3 (o::os) (fun s' av=>∃ t v',(∀ {a:Act} {w:World} {H:FH} {γ:Gam} {F:Nm->Fp},RX g s' a w H γ F->RX g t.toS a w H γ F)/\av=v'.toV/\av.isFz=true/\k t v') h2 hops ?_) ?_
        ·unfold Tq;dsimp only;rw [iJ hops'.2,ip c1,aF hops'.1,hev2];simp only [At.toV,A1.toV,Tt.toT];rw [show ae s2.toS.m r'=some (⟨true,cells,none⟩:Rt).toR from bF hroot];dsimp only [Rt.toR,holed];refine ⟨hty.symm,(iA hts).1,by rw [iJ hops'.2]; exact c2,x,y,?_,?_,hcc.1,?_⟩
         ·have e:(os.map fun x=>(ev s2.toS x).map T.canon)=(os.map (ev s2.toS)).map (AV.map T.canon):=by rw [adV]; rfl
          rw [e,iJ hops'.2]; exact c3
         ·rw [(iA hts).2,k1]
         ·intro cells' s1' l1' e1';refine ⟨by simpa using l1',s1',_,_,?_,rfl,Qq _ _,hcc.2⟩;intro a w H γ F hX';have hc:=qw hX' r'
          have hlist:((r',(⟨true,cells'.map (T.ren (.out 0) r')⟩:Root))::aL (bR r') (bv s2.toS.m r')).map (fun x=>(x.1,if x.1=r' then gY x.2 else x.2))=(r',⟨true,(aC sh (flat u (Fn x y).2)).map Tt.toT⟩)::aL (bR r') (bv s2.toS.m r'):=by
           simp only [List.map_cons,if_true]
           congr 1
           ·rw [wn e1']; simp only [gY,e1']
           ·refine (adU fun z hz=>?_).trans (ahB _);have hne:z.1≠r':=by
             intro e;have hz1:z.1∈(aL (bR r') (bv s2.toS.m r')).map (·.1):=aeH (f:=(·.1)) hz
             have e2:(aL (bR r') (bv s2.toS.m r')).map (·.1)=(bv s2.toS.m r').map (·.1):=by simp only [aL,adV]; rfl
             rw [e2,e] at hz1;exact jU h2.mem.keys hz1
            rw [if_neg hne]; rfl
          have hfin:(⟨s2.nx+1,gr (fa r') s2.nx s2.t,(r',s2.nx,⟨true,aC sh (flat u (Fn x y).2),none⟩)::bO (bR r') s2.nx (eT s2.m r')⟩:St).toS=⟨jq (iW r') s2.toS.t,(r',⟨true,(aC sh (flat u (Fn x y).2)).map Tt.toT⟩)::aL (bR r') (bv s2.toS.m r')⟩:=by
           refine bI.S_ext (jT _ _ _) ?_;simp only [List.map_cons]
           congr 1
           have:=fF (bR r') s2.nx (eT s2.m r')
           rw [pJ _ _ hn2] at this;exact this
          rw [hfin];dsimp only at hc;rw [hlist] at hc;exact hc
        ·rintro e' w' ⟨rr,s',av,H',γ',F',q1,⟨t,v',q2,rfl,q3,q4⟩,q5,q6⟩
         exact .inl ⟨rr,t,v',H',γ',F',q1,q4,lf (fun _ _ _ h=>h) q3 q5,q2 q6⟩
       ·exact hcc.elim
      ·exact hcc.elim
     ·exact hcc.elim
    ·exact hcc.elim
   ·exact hcc.elim
theorem N8 (s:St) (k:Nat) (sh:List Sh) (u:U):Ext s (vK s k sh u):=by
 unfold vK;split
 ·exact Eh s k sh u
 ·exact Ext.refl s
theorem WJ {s:St} (h:R g s.toS a w) (k:Nat) (sh:List Sh) (u:U):R g (vK s k sh u).toS a w:=by
 unfold vK;split
 ·exact PA h k sh u
 ·exact h
theorem Tg {e:En} (he:e.ok) (hm:e.P.follows .mixedOrders=true) {f:Nat} {fn:Func} (hf:e.P.funcs[f]? = some fn) (hname:(fn.name == "runtime.NumGoroutine")=false) (hb:fn.body.isSome=true) {an:An} {u:U} {ps:List U} {pre:List (El u)->Fl ps->Prop} {Fn:List (El u)->Fl ps->List (El u)}
  (hlen:Nat.ble (ps.length+1) fn.ntmps=true) (hc:kg fn.ntmps (fn.body.getD .skip)=true) (law:∀ x y,pre x y->∀ KK:List (El u)->Prop,KK (Fn x y)->T0 e fn an u ps x y KK):Cont e.P f (Xh u ps pre Fn):=by
 have hb':fn.body=some (fn.body.getD .skip):=by cases h:fn.body with
  | none=>rw [h] at hb; cases hb
  | some c=>rfl
 let φ:List AV->List Sh->List (List D)->(List (List D)->Prop)->Prop:=fun avs sub l K=>∃ (x:List (El u)) (y:Fl ps),avs=iP ps y/\sub=List.replicate (nc u) .fr/\l=x.map (aE u)/\pre x y/\K ((Fn x y).map (aE u))
 have hcon:Con e.P f (VM φ):=by
  refine Yx hf hname hb' φ (fun avs sub l K ⟨x,y,hx,_⟩=>by rw [hx,fA]; exact adN hlen) (fun g avs sub l K hg ⟨x,y,hx,hsub,hl,hp,hk⟩=>?_);subst hx; subst hsub; subst hl;have h:=law x y hp (fun r=>r=Fn x y) rfl
  have h1:=lO (e:=⟨e.P,e.E,e.cs,e.sh,fun _ _=>False⟩) he hm (g:=g) _ an _ _ (by rw [hg]; exact hc) h
  have e0:(⟨1,(0,0,.one (.c (.rf ⟨.out 0,0,[]⟩)))::Dm 1 ps y,[(.out 0,0,⟨false,[.ow (List.replicate (nc u) .fr) u x],none⟩)]⟩:St).toS=⟨aW 0 (.one (.c (.rf ⟨.out 0,0,[]⟩))::iP ps y),[(.out 0,⟨false,[.ow (List.replicate (nc u) .fr) (x.map (aE u))]⟩)]⟩:=by
   refine bI.S_ext ?_ rfl;simp only [List.map_cons,aW,iR]; rfl
  rw [e0] at h1;refine AW.mono h1 (fun ex s' h'=>?_);have fin:∀ t:St,Qt fn.results.toList u (fun r=>r=Fn x y) t->NS t.toS fn.results.toList (fun sub' l'=>sub'=List.replicate (nc u) .fr/\K l'):=by
   intro t ht;unfold Qt at ht;unfold NS;split at ht
   ·rename_i tt hrs;rw [hrs];dsimp only;split at ht
    ·rename_i n hgt;rw [kG hgt];simp only [At.toV,A1.toV,Tt.toT];split at ht
     ·rename_i sh u' l hr;rw [show ae t.toS.m n=some (⟨false,[.ow sh u' l],none⟩:Rt).toR from bF hr];split at ht
      ·rename_i l' hs hcast;obtain ⟨e1,rfl⟩:=mo hcast;subst e1;refine ⟨kj hs,?_⟩;have hx2:l=Fn x y:=ht
       show K (l.map (aE u'))
       rw [hx2]; exact hk
      ·exact ht.elim
     ·exact ht.elim
    ·exact ht.elim
   ·exact ht.elim
  cases ex with
  | normal=>obtain ⟨t,rfl,ht⟩:=h'; exact fin t ht
  | ret=>obtain ⟨t,rfl,ht⟩:=h'; exact fin t ht
  | exit i=>exact h'.elim (fun t ht=>ht.2.elim)
  | panic c=>obtain ⟨_,_,_,_,hf⟩:=h'; exact hf.elim
  | _=>exact h'.elim
 refine ⟨hcon.run,fun pk s ops k k' hk hcc=>?_,fun g pk s a w H γ F1 ops k hX hops hcc=>?_⟩
 ·unfold Xh at hcc ⊢;split at hcc
  ·dsimp only at hcc ⊢;split at hcc
   ·split at hcc
    ·split at hcc
     ·refine ⟨hcc.1,hk _ _ ?_ hcc.2⟩;exact ((N8 _ _ _ _).trans (dj _ _)).trans ⟨aeW _,gz (adH _),((t7 _).trans (fQ (adH _))).trans (jY _ _ _ (adH _))⟩
     ·exact hcc.elim
    ·exact hcc.elim
   ·exact hcc.elim
  ·exact hcc.elim
 ·unfold Xh at hcc;split at hcc
  ·rename_i t os;have hops':os.all bh=true:=by
    have:=hops
    simp only [adQ,ac9] at this;exact this.2
   dsimp only at hcc;obtain ⟨H0,γ0,F0,h0⟩:=WJ (Q0 hX) t (List.replicate (nc u) .fr) u;generalize vK s t (List.replicate (nc u) .fr) u=s0 at hcc h0;obtain ⟨H1,F2,h1⟩:=eF (os.map (evA s0)) s0 H0 F0 h0;generalize cT s0 (os.map (evA s0))=s1 at hcc h1;have hn1:=uu h1
   split at hcc
   ·rename_i r hev;split at hcc
    ·rename_i sh u' l hroot;split at hcc
     ·rename_i l' x hs hcast hx;obtain ⟨e1,rfl⟩:=mo hcast;subst e1;obtain ⟨c1,c2,c3⟩:=f7 hx;refine Calls.mono (hcon.call g s1.toS a w H1 γ0 F2 (.tmp t::os) (fun s' av=>∃ t' v',s'=t'.toS/\av=v'.toV/\k t' v') h1 hops ?_) ?_
      ·unfold VM;dsimp only;rw [iJ hops',ip c1];rw [show ev s1.toS (.tmp t)=(evA s1 (.tmp t)).toV from dB t s1.t,hev];simp only [At.toV,A1.toV,Tt.toT];rw [show ae s1.toS.m r=some (⟨false,[.ow sh u' l],none⟩:Rt).toR from bF hroot];dsimp only [Rt.toR,holed,List.map_cons,List.map_nil,Tt.toT];refine ⟨by rw [iJ hops']; exact c2,l,x,?_,kj hs,rfl,hcc.1,_,_,?_,?_,hcc.2⟩
       ·have e:(os.map fun x=>(ev s1.toS x).map T.canon)=(os.map (ev s1.toS)).map (AV.map T.canon):=by rw [adV]; rfl
        rw [e,iJ hops']; exact c3
       ·refine (bI.S_ext (jT _ _ _) ?_).symm;simp only [List.map_cons]
        congr 1
        have:=fF (bR r) s1.nx (eT s1.m r)
        rw [pJ _ _ hn1] at this;exact this
       ·rfl
      ·rintro e' w' ⟨rr,s',av,H',γ',F',q1,⟨t',v',rfl,rfl,q4⟩,q5,q6⟩
       exact .inl ⟨rr,t',v',H',γ',F',q1,q4,q5,q6⟩
     ·exact hcc.elim
    ·exact hcc.elim
   ·exact hcc.elim
  ·exact hcc.elim
end
end Go.Am
end

section
namespace Go.Am
open Go Go.Proofs
def fd (x1:Int) (KK:(Int)->Prop):Prop:=
 KK (IntKind.u8.wrap (IntKind.i64.wrap (48+x1)))
def nA (a0_n:Int) (KK:(Int)->Prop):Prop:=
 if (decide (a0_n < 0))=true then fd (IntKind.i64.wrap (0-a0_n)) KK else fd a0_n KK
def i9 (x3:Int) (x4:List Int) (KK:(List UInt8)->Prop):Prop:=
 (((0:Int)<=x3/\x3.toNat<=20/\20<=20/\x4.length=20))/\KK ((((x4.take 20).drop x3.toNat).take (20-x3.toNat)).map fun n=>UInt8.ofNat n.toNat)
def gA (a0_n:Int) (x1:Int) (x2:List Int) (KK:(List UInt8)->Prop):Prop:=
 if (decide (a0_n < 0))=true then (((0:Int)<=(IntKind.i64.wrap (x1 - 1))/\(IntKind.i64.wrap (x1 - 1)) < 20/\x2.length=20))/\i9 (IntKind.i64.wrap (x1 - 1)) (x2.set (IntKind.i64.wrap (x1 - 1)).toNat 45) KK else i9 x1 x2 KK
def ee (a0_n:Int) (KK:(List UInt8)->Prop):Nat->Int->Int->(List Int)->Prop
 | 0,_,_,_=>False
 | n9+1,x5,x6,x7=>(True)/\(((0:Int)<=(IntKind.i64.wrap (x5 - 1))/\(IntKind.i64.wrap (x5 - 1)) < 20/\x7.length=20))/\(True)/\if (decide ((IntKind.i64.wrap (Int.tdiv x6 10))=0))=true then gA a0_n (IntKind.i64.wrap (x5 - 1)) (x7.set (IntKind.i64.wrap (x5 - 1)).toNat (Lt.fK (Int.tmod x6 10))) KK else (fun y1 y2 y3=>ee a0_n KK n9 y1 y2 y3) (IntKind.i64.wrap (x5 - 1)) (IntKind.i64.wrap (Int.tdiv x6 10)) (x7.set (IntKind.i64.wrap (x5 - 1)).toNat (Lt.fK (Int.tmod x6 10)))
def Bj (a0_n:Int) (KK:(List UInt8)->Prop):Prop:=
 ∃ n9,ee a0_n KK n9 20 a0_n [0,0,0,0,0,0,0,0,0,0,0,0,0,0,0,0,0,0,0,0]
theorem GM (n:Int) (KK:Int->Prop) (h:KK (Lt.fK n)):nA n KK:=by
 unfold nA fd; unfold Lt.fK at h;by_cases hn:n < 0
 ·simp only [hn,decide_true,if_true] at h ⊢; exact h
 ·simp only [hn,decide_false,adB,if_false] at h ⊢; exact h
theorem LX {r:Int}:UInt8.ofNat (Lt.fK (Int.tmod r 10)).toNat=UInt8.ofNat (48+r.natAbs % 10):=by
 have hb:(Int.tmod r 10).natAbs=r.natAbs % 10:=by simp [Int.natAbs_tmod]
 have hlt:r.natAbs % 10 < 10:=afO _ (by omega)
 have h:Lt.fK (Int.tmod r 10)=((48+r.natAbs % 10:Nat):Int):=by
  unfold Lt.fK;have e1:(if Int.tmod r 10 < 0 then IntKind.i64.wrap (0-Int.tmod r 10) else Int.tmod r 10)=((r.natAbs % 10:Nat):Int):=by
   split
   ·rw [cD (by omega) (by omega)]; omega
   ·omega
  rw [e1,cD (by omega) (by omega)];simp only [IntKind.wrap,IntKind.signed,IntKind.bits];simp;omega
 rw [h,Int.toNat_natCast]
abbrev by8 (l:List Int):List UInt8:=l.map fun n=>UInt8.ofNat n.toNat
theorem BB (l:List Int) (i:Nat) (v:Int) (h:i<l.length):(l.set i v).drop i=v::l.drop (i+1):=by
 rw [aeB (by simpa using h)];simp only [List.getElem_set_self]
 congr 1
 exact List.drop_set_of_lt (by omega)
theorem LY (n:Int) (KK:List UInt8->Prop):∀ (k:Nat) (r:Int) (at_:Nat) (arr:List Int),r.natAbs < 10 ^ (k+1)->k+1<=at_->at_<=20->arr.length=20->r.natAbs<=9223372036854775808 ->
  (∀ at' arr',at_<=at'+(k+1)->at' < 20->arr'.length=20->by8 (arr'.drop at')=Lt.digs r.natAbs++by8 (arr.drop at_)->gA n (at':Int) arr' KK) ->
  ee n KK (k+1) (at_:Int) r arr:=by
 intro k;induction k with
 | zero=>
  intro r at_ arr h1 h2 h3 h4 h5 hk;have w:IntKind.i64.wrap ((at_:Int) - 1)=((at_ - 1:Nat):Int):=by rw [cD (by omega) (by omega)]; omega
  have hq:IntKind.i64.wrap (Int.tdiv r 10)=0:=by
   have:(Int.tdiv r 10).natAbs=r.natAbs / 10:=by rw [Int.natAbs_tdiv]; rfl
   have h0:r.natAbs / 10=0:=by omega
   have:Int.tdiv r 10=0:=by omega
   rw [this]; rfl
  simp only [ee,w,hq,decide_true,if_true,Int.toNat_natCast];refine ⟨trivial,⟨adC _,by omega,h4⟩,trivial,?_⟩;refine hk (at_ - 1) _ (by omega) (by omega) (by simpa using h4) ?_;rw [BB _ _ _ (by omega),eC (by omega)];simp only [by8,List.map_cons,LX];rw [afY (by omega),show at_ - 1+1=at_ by omega];rfl
 | succ k ih=>
  intro r at_ arr h1 h2 h3 h4 h5 hk;have w:IntKind.i64.wrap ((at_:Int) - 1)=((at_ - 1:Nat):Int):=by rw [cD (by omega) (by omega)]; omega
  have hq:(Int.tdiv r 10).natAbs=r.natAbs / 10:=by rw [Int.natAbs_tdiv]; rfl
  have wq:IntKind.i64.wrap (Int.tdiv r 10)=Int.tdiv r 10:=cD (by omega) (by omega)
  simp only [ee,w,wq,Int.toNat_natCast];refine ⟨trivial,⟨adC _,by omega,h4⟩,trivial,?_⟩;have hd:by8 ((arr.set (at_ - 1) (Lt.fK (Int.tmod r 10))).drop (at_ - 1))=UInt8.ofNat (48+r.natAbs % 10)::by8 (arr.drop at_):=by
   rw [BB _ _ _ (by omega)];simp only [by8,List.map_cons,LX];rw [show at_ - 1+1=at_ by omega]
  split
  ·rename_i hc;have hc':Int.tdiv r 10=0:=by simpa using hc
   have h0:r.natAbs / 10=0:=by rw [<- hq,hc']; rfl
   refine hk (at_ - 1) _ (by omega) (by omega) (by simpa using h4) ?_;rw [hd,eC (by omega),afY (by omega)];rfl
  ·rename_i hc;have hc':¬ Int.tdiv r 10=0:=by simpa using hc
   have h10:¬ r.natAbs < 10:=by
    intro hlt;exact hc' (by omega)
   refine ih _ _ _ (by rw [hq]; rw [ag0] at h1; omega) (by omega) (by omega) (by simpa using h4) (by omega) (fun at' arr' k1 k2 k3 k4=>hk at' arr' (by omega) k2 k3 ?_);rw [k4,hd,l4 h10,hq];simp
theorem OE (n:Int) (hp:Lt.gH n) (KK:List UInt8->Prop) (h:KK (Lt.ak n)):Bj n KK:=by
 unfold Lt.gH Lt.inR at hp;refine ⟨19,LY n KK 18 n 20 _ (by omega) (by omega) (by omega) rfl (by omega) (fun at' arr' k1 k2 k3 k4=>?_)⟩;simp only [List.drop_eq_nil_of_le (show ([0,0,0,0,0,0,0,0,0,0,0,0,0,0,0,0,0,0,0,0]:List Int).length<=20 from adH _),by8,List.map_nil,aeO] at k4;unfold gA;split
 ·rename_i hc;have hn:n < 0:=by simpa using hc
  have w:IntKind.i64.wrap ((at':Int) - 1)=((at' - 1:Nat):Int):=by rw [cD (by omega) (by omega)]; omega
  rw [w,Int.toNat_natCast];refine ⟨⟨adC _,by omega,k3⟩,⟨adC _,by rw [Int.toNat_natCast]; omega,by omega,by simpa using k3⟩,?_⟩;rw [Int.toNat_natCast,aeA (by simp [k3]),aeA (by simp [k3]),BB _ _ _ (by omega),List.map_cons,show at' - 1+1=at' by omega];have:Lt.ak n=45::Lt.digs n.natAbs:=by simp [Lt.ak,hn]
  rw [this] at h;simp only [k4];exact h
 ·rename_i hc;have hn:¬ n < 0:=by simpa using hc
  refine ⟨⟨adC _,by rw [Int.toNat_natCast]; omega,by omega,k3⟩,?_⟩;rw [Int.toNat_natCast,aeA (by simp [k3]),aeA (by simp [k3]),k4];have:Lt.ak n=Lt.digs n.natAbs:=by simp [Lt.ak,hn]
  rw [this] at h;exact h
set_option maxRecDepth 100000 in
set_option maxHeartbeats 4000000 in
theorem CZ (g:G) (hg:g.nt=Tryz.f94.ntmps) (a0_n:Int) (K:AV->Prop) (KK:(Int)->Prop) (hKK:∀ r,KK r->K (o1 (cI .u8) r) ) (h:nA a0_n KK) :
  AW Tryz.prog g (Tryz.f94.body.getD .skip) (Iz Tryz.prog [.tmp 2] K) ⟨aW 0 [.one ((cI .i64).enc a0_n)],[]⟩:=by
 have hcs:CT.Ok Tryz.prog []:=CT.ok0
 have hn:g.nt=10:=hg
 have hm:Tryz.prog.follows .mixedOrders=true:=by kernel_rfl
 unfold Tryz.f94;dsimp only [Option.getD_some];unfold nA at h;apply dE
 intro K1 hK1;have hx:=True.intro
 refine rgA [0] [] ?_;refine stA ?_;refine enA ?_;refine hK1 _ ?_;refine Br [] [0] [] (fun y:Int=>⟨[(0,.one (.c (.d (.int .i64 y))))],[]⟩) (fun y=>fd y KK) ?_ ?_
 ·apply dE
  intro K3 hK3;have hx:=True.intro
  refine rgA [0,4] [] ?_
  iterate 2 refine stA ?_
  refine enA ?_;refine hK3 _ ?_;refine cdA h rfl (fun h=>?_) (fun h=>?_)
  ·have hx:=True.intro
   refine rgA [0] [] ?_
   iterate 3 refine stA ?_
   refine enA ?_;exact ⟨(IntKind.i64.wrap (0-a0_n)),siA,h⟩
  ·apply uR
   exact ⟨a0_n,siA,h⟩
 ·rintro x1 h
  change fd x1 KK at h
  unfold fd at h;apply dE
  intro K2 hK2;have hx:=True.intro
  refine rgA [2] [] ?_
  iterate 4 refine stA ?_
  refine enA ?_;refine hK2 _ ?_;apply MO
  exact fiA (hKK _ h)
def s5:CK1:=rL (fn1 (cI .i64) (o1 (cI .u8)) (fun _=>True) Lt.fK)
theorem MB:Con Tryz.prog 94 s5:=
 Xp (fn:=Tryz.f94) (c:=Tryz.f94.body.getD .skip) (by kernel_rfl) (by kernel_rfl) (by kernel_rfl) (by decide +kernel) (fun g a0_n K hg hp hK=>CZ g hg a0_n K _ (fun _ h=>h) (GM a0_n _ hK))
attribute [push_cast] s5
set_option maxRecDepth 100000 in
set_option maxHeartbeats 4000000 in
theorem Kr (g:G) (hg:g.nt=Tryz.f47.ntmps) (a0_n:Int) (K:AV->Prop) (KK:(List UInt8)->Prop) (hKK:∀ r,KK r->K (o1 cS r) ) (h:Bj a0_n KK) :
  AW Tryz.prog g (Tryz.f47.body.getD .skip) (Iz Tryz.prog [.tmp 2] K) ⟨aW 0 [.one ((cI .i64).enc a0_n)],[]⟩:=by
 have hcs:CT.Ok Tryz.prog [(94,s5)]:=(CT.cons MB CT.ok0)
 have hn:g.nt=27:=hg
 have hm:Tryz.prog.follows .mixedOrders=true:=by kernel_rfl
 unfold Tryz.f47;dsimp only [Option.getD_some];unfold Bj at h;apply dE
 intro K1 hK1;have hx:=True.intro
 refine rgA [0] [] ?_;refine stA ?_;refine enA ?_;refine hK1 _ ?_;apply dE
 intro K2 hK2;have hx:=True.intro
 refine rgA [0,3] [] ?_;refine stA ?_;refine enA ?_;refine hK2 _ ?_;apply dE
 intro K3 hK3;have hx:=True.intro
 refine rgA [0,3,4] [] ?_;refine stA ?_;refine enA ?_;refine hK3 _ ?_;refine Br [] [0,3,4] [] (fun y:Int×List Int=>⟨[(0,.one (.c (.d (.int .i64 a0_n)))),(3,.one (.c (.pl ⟨.loc 3,0,[]⟩))),(4,.one (.c (.d (.int .i64 y.1))))],[(.loc 3,⟨true,y.2.map (tI .u8)⟩)]⟩) (fun y=>gA a0_n y.1 y.2 KK) ?_ ?_
 ·apply dE
  intro K7 hK7;have hx:=True.intro
  refine rgA [0,3,4,5] [] ?_
  iterate 2 refine stA ?_
  refine enA ?_;refine hK7 _ ?_;apply Bc
  intro Q8 hN8 hE8 hO8;obtain ⟨n9,h⟩:=h;refine Wg [] [0,3,4,5] [] (fun y:Nat×Int×Int×List Int=>⟨[(0,.one (.c (.d (.int .i64 a0_n)))),(3,.one (.c (.pl ⟨.loc 3,0,[]⟩))),(4,.one (.c (.d (.int .i64 y.2.1)))),(5,.one (.c (.d (.int .i64 y.2.2.1))))],[(.loc 3,⟨true,y.2.2.2.map (tI .u8)⟩)]⟩) (fun y=>ee a0_n KK y.1 y.2.1 y.2.2.1 y.2.2.2) (fun y=>y.1) (n9,20,a0_n,[0,0,0,0,0,0,0,0,0,0,0,0,0,0,0,0,0,0,0,0]) ?_ h ?_
  ·first | exact siA (by rfl) | exact siA
  clear h;rintro ⟨n9,x5,x6,x7⟩ h K9 hK9
  cases n9 with
  | zero=>exact h.elim
  | succ n9=>
   change ee a0_n KK (n9+1) x5 x6 x7 at h
   unfold ee at h;apply Bc
   intro Q10 hN10 hE10 hO10;apply dE
   intro K11 hK11;have hx:=True.intro
   refine rgA [0,3,4,5] [] ?_
   iterate 3 refine stA ?_
   refine enA ?_;refine hK11 _ ?_;apply dE
   intro K12 hK12;obtain ⟨ho1,ho2,h⟩:=h;have hx:=True.intro
   have hx:=And.intro (show ¬ (10:Int)=0 from by decide) hx
   have hx:=JG ho2.1 hx
   have hx:=JG (show (IntKind.i64.wrap (x5 - 1)) < ((20:Nat):Int) from ho2.2.1) hx
   have hx:=And.intro ho2.2.2 hx
   have hx:=And.intro (show (IntKind.i64.wrap (x5 - 1)).toNat < 20 from by omega) hx
   have hx:=And.intro (show 0 < 20 - (IntKind.i64.wrap (x5 - 1)).toNat from by omega) hx
   have hx:=And.intro (show (x7.map (tI .u8))[(IntKind.i64.wrap (x5 - 1)).toNat]? = some (tI .u8 (x7.getD (IntKind.i64.wrap (x5 - 1)).toNat default)) from yY (tI .u8) x7 (by omega)) hx
   refine rgA [0,3,4,5] [] ?_
   iterate 6 refine stA ?_
   refine enA ?_;refine hK12 _ ?_;apply dE
   intro K13 hK13;obtain ⟨ho1,h⟩:=h;have hx:=True.intro
   have hx:=And.intro (show ¬ (10:Int)=0 from by decide) hx
   refine rgA [0,3,4,5] [] ?_
   iterate 3 refine stA ?_
   refine enA ?_;refine hK13 _ ?_;apply dE
   intro K14 hK14;have hx:=True.intro
   refine rgA [0,3,4,5,17] [] ?_
   iterate 2 refine stA ?_
   refine enA ?_;refine hK14 _ ?_;refine cdA h rfl (fun h=>?_) (fun h=>?_)
   ·apply Ql
    refine hO10 _ _ (by simp) ?_;refine hE8 _ ?_;exact ⟨((IntKind.i64.wrap (x5 - 1)),(x7.set (IntKind.i64.wrap (x5 - 1)).toNat (Lt.fK (Int.tmod x6 10)))),siA,h⟩
   ·apply uR
    refine hN10 _ ?_;exact hK9 _ (n9,(IntKind.i64.wrap (x5 - 1)),(IntKind.i64.wrap (Int.tdiv x6 10)),(x7.set (IntKind.i64.wrap (x5 - 1)).toNat (Lt.fK (Int.tmod x6 10)))) siA h (Nat.lt_succ_self _)
 ·rintro ⟨x1,x2⟩ h
  change gA a0_n x1 x2 KK at h
  unfold gA at h;refine Br [] [3,4] [] (fun y:Int×List Int=>⟨[(3,.one (.c (.pl ⟨.loc 3,0,[]⟩))),(4,.one (.c (.d (.int .i64 y.1))))],[(.loc 3,⟨true,y.2.map (tI .u8)⟩)]⟩) (fun y=>i9 y.1 y.2 KK) ?_ ?_
  ·apply dE
   intro K5 hK5;have hx:=True.intro
   refine rgA [3,4,19] [] ?_
   iterate 2 refine stA ?_
   refine enA ?_;refine hK5 _ ?_;refine cdA h rfl (fun h=>?_) (fun h=>?_)
   ·apply dE
    intro K6 hK6;have hx:=True.intro
    refine rgA [3,4] [] ?_
    iterate 3 refine stA ?_
    refine enA ?_;refine hK6 _ ?_;obtain ⟨ho1,h⟩:=h;have hx:=True.intro
    have hx:=JG ho1.1 hx
    have hx:=JG (show (IntKind.i64.wrap (x1 - 1)) < ((20:Nat):Int) from ho1.2.1) hx
    have hx:=And.intro ho1.2.2 hx
    have hx:=And.intro (show (IntKind.i64.wrap (x1 - 1)).toNat < 20 from by omega) hx
    have hx:=And.intro (show 0 < 20 - (IntKind.i64.wrap (x1 - 1)).toNat from by omega) hx
    have hx:=And.intro (show (x2.map (tI .u8))[(IntKind.i64.wrap (x1 - 1)).toNat]? = some (tI .u8 (x2.getD (IntKind.i64.wrap (x1 - 1)).toNat default)) from yY (tI .u8) x2 (by omega)) hx
    refine rgA [3,4] [] ?_
    iterate 3 refine stA ?_
    refine enA ?_;exact ⟨((IntKind.i64.wrap (x1 - 1)),(x2.set (IntKind.i64.wrap (x1 - 1)).toNat 45)),siA,h⟩
   ·apply uR
    exact ⟨(x1,x2),siA,h⟩
  ·rintro ⟨x3,x4⟩ h
   change i9 x3 x4 KK at h
   unfold i9 at h;apply dE
   intro K4 hK4;refine frB (.loc 3) ?_;obtain ⟨ho1,h⟩:=h;have hx:=True.intro
   have hx:=JG ho1.1 hx
   have hx:=JG ho1.2.1 hx
   have hx:=JG ho1.2.2.1 hx
   have hx:=JG ho1.2.2.2 hx
   refine rgA [2] [] ?_
   iterate 4 refine stA ?_
   refine enA ?_;refine hK4 _ ?_;apply MO
   exact fiA (hKK _ h)
def pC:CKt:=eK [(.i .i64)] [.s] (fun x=>Lt.gH x) (fun x=>Lt.ak x)
theorem vi:Cont Tryz.prog 47 pC:=
 lB (φ:=fun avs K=>∃ n:Int,avs=[.one ((cI .i64).enc n)]/\Lt.gH n/\K (o1 cS (Lt.ak n))) (fun x K hp hk=>⟨x,rfl,hp,hk⟩)
  (tS (fn:=Tryz.f47) (c:=Tryz.f47.body.getD .skip) (by kernel_rfl) (by kernel_rfl) (by kernel_rfl) _ (fun avs K ⟨x,hx,_,_⟩=>by rw [hx]; exact (by decide +kernel:1<=Tryz.f47.ntmps)) (fun g avs K hg ⟨x,hx,hp,hk⟩=>by
   subst hx;exact Kr g hg x K _ (fun _ h=>h) (OE x hp _ hk)))
theorem Wl (x:Lt.Line):Lt.Line.rw.enc x=aE (.st .Line) x:=by
 obtain ⟨n,w⟩:=x; rfl
def TV:CKt:=eK [(.sl (.st .Line))] [.s] (fun x=>Lt.GR x) (fun x=>Lt.Join x)
theorem aaV:Cont Tryz.prog 30 TV:=
 lB (φ:=fun avs K=>∃ l:List Lt.Line,avs=[.one ((cL Lt.Line.rw).enc l)]/\Lt.GR l/\K (o1 cS (Lt.Join l))) (fun x K hp hk=>⟨x,by
   show _=[AV.one (.c (.d (.li (x.map Lt.Line.rw.enc))))]
   rw [adU (fun y _=>Wl y)];rfl,hp,hk⟩)
  (tS (fn:=Tryz.f30) (c:=Tryz.f30.body.getD .skip) (by kernel_rfl) (by kernel_rfl) (by kernel_rfl) _ (fun avs K ⟨x,hx,_,_⟩=>by rw [hx]; exact (by decide +kernel:1<=Tryz.f30.ntmps)) (fun g avs K hg ⟨x,hx,hp,hk⟩=>by
   subst hx;exact SB g hg x hp K hk))
end Go.Am
end

section
namespace Go.Am
theorem Ud (i k:Nat):Nat.beq (i+100000) (k+100000)=Nat.beq i k:=by
 cases h:Nat.beq i k with
 | true=>have:=adO h; subst this; exact agZ _
 | false=>
  cases h2:Nat.beq (i+100000) (k+100000) with
  | false=>rfl
  | true=>
   have:=adO h2
   have:i=k:=by omega
   subst this; rw [agZ] at h; cases h
theorem I1 (k:Nat) (t:List (Nat×Nat×At)):cM (shT t) (k+100000)=cM t k:=by
 induction t with
 | nil=>rfl
 | cons x r ih=>
  obtain ⟨i,j,v⟩:=x;simp only [shT,cM,Ud];cases Nat.beq i k with
  | true=>rfl
  | false=>exact ih
theorem IK {k:Nat} (hk:k < 100000) (t:List (Nat×Nat×At)):cM (shT t) k=none:=by
 induction t with
 | nil=>rfl
 | cons x r ih=>
  obtain ⟨i,j,v⟩:=x;have:Nat.beq (i+100000) k=false:=by
   cases h:Nat.beq (i+100000) k with
   | false=>rfl
   | true=>have:=adO h; omega
  simp only [shT,cM,this];exact ih
theorem IH (k:Nat) (t:List (Nat×Nat×At)):cM (vP t) k=cM t (k+100000):=by
 induction t with
 | nil=>rfl
 | cons x r ih=>
  obtain ⟨i,j,v⟩:=x;simp only [vP,cM];cases hb:Nat.ble 100000 i with
  | true=>
   have hi:100000<=i:=adN hb
   have e:Nat.beq (i - 100000) k=Nat.beq i (k+100000):=by
    have:=Ud (i - 100000) k
    rw [Nat.sub_add_cancel hi] at this;exact this.symm
   dsimp only;rw [cM,e];cases Nat.beq i (k+100000) with
   | true=>rfl
   | false=>exact ih
  | false=>
   have hi:¬ 100000<=i:=fun h=>by rw [Nat.ble_eq_true_of_le h] at hb; cases hb
   have e:Nat.beq i (k+100000)=false:=by
    cases h:Nat.beq i (k+100000) with
    | false=>rfl
    | true=>have:=adO h; omega
   rw [e]; exact ih
theorem wr {nx k:Nat} {b:List (Nat×Nat×At)}:∀ {l:List At} {i:Nat},i+l.length<=k->cM (Dd nx i l++b) k=cM b k
 | [],_,_=>rfl
 | v::r,i,h=>by
  have e:Nat.beq i k=false:=by
   cases h2:Nat.beq i k with
   | false=>rfl
   | true=>have:=adO h2; simp only [adF] at h; omega
  simp only [Dd,aeM,cM,e];exact wr (by simp only [adF] at h; omega)
theorem yd {nx k:Nat} {b:List (Nat×Nat×At)}:∀ {l:List At} {i:Nat} {v:At},i<=k->l[k-i]? = some v->cM (Dd nx i l++b) k=some (nx,v)
 | [],_,_,_,h=>by simp at h
 | v::r,i,x,hi,h=>by
  simp only [Dd,aeM,cM];rcases Nat.lt_or_eq_of_le hi with hlt | rfl
  ·have e:Nat.beq i k=false:=by
    cases h2:Nat.beq i k with
    | false=>rfl
    | true=>have:=adO h2; omega
   rw [e];refine yd (by omega) ?_;rw [show k-i=(k - (i+1))+1 from by omega] at h;simpa using h
  ·rw [agZ];simp only [Nat.sub_self,aeN,ac8] at h;subst h; rfl
abbrev inS (s:St) (vs:List At):St:=⟨s.nx+1,Dd s.nx 0 vs++shT s.t,s.m⟩
theorem aaD {s s':St} {vs:List At} (hl:vs.length<=100000) (h:Ext (inS s vs) s'):Ext s ⟨s'.nx,vP s'.t,s'.m⟩:=by
 refine ⟨ae8 (aeW _) h.nx,fun k j v hk hj=>?_,fun n j r hk hj=>h.m n j r hk (Nat.lt_succ_of_lt hj)⟩;rw [IH] at hk;have:=h.t _ j v hk (Nat.lt_succ_of_lt hj)
 rw [show (inS s vs).t=Dd s.nx 0 vs++shT s.t from rfl,wr (by omega),I1] at this;exact this
theorem JJ {s s':St} {vs:List At} {res:List ResultVar} {k k':St->At->Prop} (hl:vs.length<=100000) (hk:∀ s' v,Ext s s'->k s' v->k' s' v) (hE:Ext (inS s vs) s') (h:yI res k s'):yI res k' s':=by
 unfold yI at h ⊢;split at h
 ·exact hk _ _ (aaD hl hE) h
 ·exact h.elim
section
variable {g:G} {a:Act} {w:World} {H:FH} {γ:Gam} {F:Nm->Fp}
theorem DP {nt:Nat} {ops:List Operand} {i:Nat} {x:Operand} (hx:ops[i]? = some x):((ops.map a.eval).toArray++Array.replicate (nt - (ops.map a.eval).toArray.size) undef).getD i undef=a.eval x:=by
 rw [ad9,ae0 (by simp; exact aj hx)];simp [hx]
theorem ZX {s:St} (hX:RX g s.toS a w H γ F) {ops:List Operand} (hops:ops.all bh=true) {nt:Nat} (hle:ops.length<=nt) (hnt:nt<=100000) :
  RX ⟨nt,g.w0,g.H0,g.own0,g.out,some (g.tv a),[]⟩ (inS s (ops.map (evA s))).toS ⟨(ops.map a.eval).toArray++Array.replicate (nt - (ops.map a.eval).toArray.size) undef,[]⟩ w H γ F:=by
 have hsz:((ops.map a.eval).toArray++Array.replicate (nt - (ops.map a.eval).toArray.size) undef).size=nt:=by simp; omega
 refine ⟨hX.mem,hX.fr,hsz,⟨rfl,hX.df.2⟩,fun i=>?_⟩;rw [show aK (inS s (ops.map (evA s))).toS.t i=(gtA (Dd s.nx 0 (ops.map (evA s))++shT s.t) i).toV from dB i _,jL];rcases aeC i ops.length with hi | hi
 ·obtain ⟨x,hx⟩:∃ x,ops[i]? = some x:=⟨_,adA hi⟩
  rw [yd (aeR i) (v:=evA s x) (by rw [agY,adG,hx]; rfl)];rw [G.tv_lt (by rw [hsz]; omega),DP hx];have hop:=adI.1 hops x (ad7 hx)
  have:=br hX hop
  rw [aF hop] at this;exact this
 ·rw [wr (by rw [adE]; omega)];rcases aeC i 100000 with hb | hb
  ·rw [IK hb]; trivial
  ·obtain ⟨j,rfl⟩:∃ j,i=j+100000:=⟨i - 100000,by omega⟩
   rw [I1,<- jL];have e:G.tv ⟨nt,g.w0,g.H0,g.own0,g.out,some (g.tv a),[]⟩ ⟨(ops.map a.eval).toArray++Array.replicate (nt - (ops.map a.eval).toArray.size) undef,[]⟩ (j+100000)=g.tv a j:=by
    unfold G.tv;dsimp only;rw [if_neg (by rw [hsz]; unfold TB; omega)];unfold TB;rw [Nat.add_sub_cancel]
   rw [e,<- dB];exact hX.t j
theorem Kp {s0:S} (hX:RX g s0 a w H γ F) {nt:Nat} (hnt:nt<=100000) {a':Act} {s':St} {w':World} {H':FH} {γ':Gam} {F':Nm->Fp} (h:RX ⟨nt,g.w0,g.H0,g.own0,g.out,some (g.tv a),[]⟩ s'.toS a' w' H' γ' F') :
  RX g (⟨s'.nx,vP s'.t,s'.m⟩:St).toS a w' H' γ' F':=by
 refine ⟨h.mem,h.fr,hX.nt,⟨hX.df.1,h.df.2⟩,fun i=>?_⟩;rw [show aK (⟨s'.nx,vP s'.t,s'.m⟩:St).toS.t i=(gtA (vP s'.t) i).toV from dB i _,jL,IH,<- jL,<- dB];have:=h.t (i+100000)
 have e:G.tv ⟨nt,g.w0,g.H0,g.own0,g.out,some (g.tv a),[]⟩ a' (i+100000)=g.tv a i:=by
  have hs:a'.tmps.size=nt:=h.nt
  unfold G.tv;dsimp only;rw [if_neg (by rw [hs]; unfold TB; omega)];unfold TB;rw [Nat.add_sub_cancel]
 rw [e] at this;exact this
theorem P7 {P:Program} {s:St} (h:RX g s.toS a w H γ F):∀ {rs:List ResultVar} {xs:List A1},SQ s rs=some xs->∃ ys,(rs.mapM (pU a.tmps)).run P w=.ok ys w/\ARs w H γ (toM s.m) (xs.map A1.toV) ys/\ys.length=rs.length/\xs.length=rs.length
 | [],xs,e=>by
  simp only [SQ,ac8] at e; subst e;exact ⟨[],rfl,trivial,rfl,rfl⟩
 | .tmp t::r,xs,e=>by
  simp only [SQ] at e;split at e
  ·rename_i x xs' h1 h2 h3;simp only [ac8] at e; subst e;obtain ⟨ys,k1,k2,k3,k4⟩:=P7 (P:=P) h h2;have ht:=h.t t
   rw [show aK s.toS.t t=(gtA s.t t).toV from dB t s.t,h1,G.tv_lo (show t<TB from adN h3)] at ht;have k1':((r.mapM (pU a.tmps)).run P w)=.ok ys w:=k1
   refine ⟨a.tmps.getD t undef::ys,?_,⟨ht,k2⟩,by simp [k3],by simp [k4]⟩;simp [List.mapM_cons,pU,k1']
  ·cases e
 | .cell _ _::r,xs,e=>by simp [SQ] at e
theorem W3 {P:Program} {fn:Func} {s:St} {k:St->At->Prop} (h:RX g s.toS a w H γ F) (hk:yI fn.results.toList k s) :
  ∃ y v,(results fn a.tmps).run P w=.ok y w/\AR w H γ (toM s.m) v.toV y/\k ⟨s.nx,vP s.t,s.m⟩ v:=by
 unfold yI at hk;split at hk
 ·rename_i xs hx;obtain ⟨ys,k1,k2,k3,k4⟩:=P7 (P:=P) h hx;have hrun:(results fn a.tmps).run P w=.ok (if h:ys.toArray.size=1 then ys.toArray[0] else .tuple ys.toArray) w:=by
   rw [im,af3];simp [k1]
  refine ⟨_,_,hrun,?_,hk⟩
  match xs,ys,k2 with
  | [],[],_=>exact ⟨#[],by simp,trivial⟩
  | [x],[y],k2=>exact k2.1
  | x1::x2::xs,y1::y2::ys,k2=>exact ⟨(y1::y2::ys).toArray,by simp,by simpa using k2⟩
 ·exact hk.elim
end
theorem N3 {P:Program} {f:Nat} {fn:Func} (hf:P.funcs[f]? = some fn) (hname:(fn.name == "runtime.NumGoroutine")=false) (hb:fn.body.isSome=true):∀ args w,(callFunc f args).run P w=.ok (.enter f args) w:=by
 intro args w;have h1:fn.name ≠ "runtime.NumGoroutine" := by simpa using hname
 obtain ⟨c,h⟩:=agL.1 hb;simp [callFunc,hf,h1,h]
theorem aa {e:En} (he:e.ok) (hm:e.P.follows .mixedOrders=true) {f:Nat} {fn:Func} (hf:e.P.funcs[f]? = some fn) (hname:(fn.name == "runtime.NumGoroutine")=false) (hb:fn.body.isSome=true) {an:An}
  (hc:kg fn.ntmps (fn.body.getD .skip)=true) (hnt:Nat.ble fn.ntmps 100000=true):Cont e.P f (bd e fn an):=by
 have hb':fn.body=some (fn.body.getD .skip):=by cases h:fn.body with
  | none=>rw [h] at hb; cases hb
  | some c=>rfl
 have hnt':=adN hnt
 refine ⟨N3 hf hname hb,fun pk s ops k k' hk hcc=>?_,fun g pk s a w H γ F ops k hX hops hcc=>?_⟩
 ·unfold bd at hcc ⊢;split at hcc
  ·rename_i hle;have hl:(ops.map (evA s)).length<=100000:=by rw [adE]; exact ae8 (adN hle) hnt'
   exact Gt (e:=⟨e.P,e.E,e.cs,e.sh,fun v s=>pk v ⟨s.nx,vP s.t,s.m⟩⟩) he _ an _ ⟨yI fn.results.toList k,fun _ _=>False,yI fn.results.toList k⟩ ⟨yI fn.results.toList k',fun _ _=>False,yI fn.results.toList k'⟩ (fun s' hE h=>JJ hl hk hE h) (fun _ _ _ h=>h) (fun s' hE h=>JJ hl hk hE h) hcc
  ·exact hcc.elim
 ·unfold bd at hcc;split at hcc
  ·rename_i hle;have hle':=adN hle
   refine calls_of_wp hf hb' (Code.wp_mono (fun x a' w' hl=>?_) (lO (e:=⟨e.P,e.E,e.cs,e.sh,fun v s=>pk v ⟨s.nx,vP s.t,s.m⟩⟩) he hm (g:=⟨fn.ntmps,g.w0,g.H0,g.own0,g.out,some (g.tv a),[]⟩) _ an _ _ hc hcc _ w ⟨H,γ,F,ZX hX hops hle' hnt'⟩));obtain ⟨s',hq,H',γ',F',hX'⟩:=hl;have fin:∀ t:St,s'=t.toS->yI fn.results.toList k t->a'.defers=[]/\∃ v,(results fn a'.tmps).run e.P w'=.ok v w'/\kv g a pk k (.returned v) w':=by
    rintro t rfl ht
    obtain ⟨y,v,k1,k2,k3⟩:=W3 (P:=e.P) hX' ht;exact ⟨hX'.df.1,y,k1,.inl ⟨y,_,v,H',γ',F',rfl,k3,k2,Kp hX hnt' hX'⟩⟩
   cases x with
   | normal=>obtain ⟨t,e1,ht⟩:=hq; exact fin t e1 ht
   | ret=>obtain ⟨t,e1,ht⟩:=hq; exact fin t e1 ht
   | exit i=>obtain ⟨t,e1,ht⟩:=hq; exact ht.elim
   | panic c=>
    obtain ⟨v,t,rfl,rfl,hv⟩:=hq;exact ⟨hX'.df.1,.inr ⟨v,_,rfl,hv,H',γ',F',Kp hX hnt' hX'⟩⟩
   | _=>exact hq.elim
  ·exact hcc.elim
theorem Tf {P:Program} {f t:Nat} {C D:CKt} (h1:Cont P f C) (h2:Cont P f D):Cont P f (XP t C D):=by
 refine ⟨h1.run,fun pk s ops k k' hk hc=>?_,fun g pk s a w H γ F ops k hX hops hc=>?_⟩
 ·unfold XP at hc ⊢;split at hc
  ·split at hc
   ·exact h1.ext pk s _ k k' hk hc
   ·exact h2.ext pk s _ k k' hk hc
  ·exact h2.ext pk s _ k k' hk hc
 ·unfold XP at hc;split at hc
  ·split at hc
   ·exact h1.call g pk s a w H γ F _ k hX hops hc
   ·exact h2.call g pk s a w H γ F _ k hX hops hc
  ·exact h2.call g pk s a w H γ F _ k hX hops hc
section
variable {g:G} {s1:S} {a:Act} {w:World} {H1:FH} {γ:Gam} {F1:Nm->Fp}
theorem GJ (h1:RX g s1 a w H1 γ F1) {w':World} {H2:FH} {tt:Fp} (hfr:Fr w H1 (fun _=>0) w' H2 tt) (hag:∀ b o y,H2 b o=some y->w'.cell? ⟨b,o,none⟩=some y):RX g s1 a w' H2 γ F1:=by
 have hold:∀ b,b<w.heap.size->w'.heap[b]? = w.heap[b]? := fun b hb=>hfr.block b hb rfl
 have hnew:∀ b,b<w.heap.size->H1 b=H2 b:=by
  intro b hb
  funext o
  cases hc:H1 b o with
  | some y=>rw [hfr.hold b o y hc]
  | none=>
   cases hc2:H2 b o with
   | none=>rfl
   | some y=>
    rcases hfr.hnew b o (by rw [hc2]; simp) hc with h' | h'
    ·exact absurd rfl h'
    ·omega
 have hsame:∀ b,tot F1 s1.m b≠0->w'.heap[b]? = w.heap[b]? := fun b hb=>hold b (h1.mem.lt b hb)
 have hKp:=dn (w':=w') h1.mem hsame
 have hmem:Mem w' H2 γ s1.m F1:=by
  refine ⟨hag,fun x hx=>aX hKp hfr.hold rfl (fun b hb=>hsame b (by have:=bX (F:=F1) hx b; omega)) (h1.mem.roots x hx),h1.mem.keys,h1.mem.le1,fun b hb=>by have:=h1.mem.lt b hb; have:=hfr.size; omega,fun b hb o=>?_⟩;rw [<- hnew b (h1.mem.lt b hb)]; exact h1.mem.nofz b hb o
 have hFr:Fr w H1 (tot F1 s1.m) w' H2 (tot F1 s1.m):=
  ⟨hfr.size,hfr.os,hfr.tape,hfr.output,fun b hb _=>hold b hb,hfr.hold,fun b o h2 h3=>by
   right
   rcases aeC b w.heap.size with h' | h'
   ·rw [<- hnew b h'] at h2; exact absurd h3 h2
   ·exact h',fun b hb=>.inl hb⟩
 exact iM h1 hmem hFr (fun i=>dv hKp hfr.hold (h1.t i)) (fun _=>rfl)
theorem Kn {s1:St} (h1:RX g s1.toS a w H1 γ F1) {ops:List Operand} (hops:ops.all bh=true) {ps:List U} {x:Fl ps} (hx:cF ps (ops.map (evA s1))=some x) {nt:Nat} (hle:ops.length<=nt) :
  RX ⟨nt,w,H1,fun _=>0,fun _=>none,none,[]⟩ ⟨aW 0 (iP ps x),[]⟩ ⟨(ops.map a.eval).toArray++Array.replicate (nt - (ops.map a.eval).toArray.size) undef,[]⟩ w H1 γ F1:=by
 obtain ⟨c1,c2,c3⟩:=f7 hx;refine ⟨⟨h1.mem.agree,fun x hx=>by simp at hx,by simp,fun b=>aeR _,fun b hb=>absurd rfl hb,fun b hb=>absurd rfl hb⟩,⟨adH _,rfl,rfl,rfl,fun _ _ _=>rfl,fun _ _ _ h=>h,fun b o h2 h3=>absurd h3 h2,fun b hb=>absurd rfl hb⟩,?_,⟨rfl,fun j b e=>by simp at e,dJ h1⟩,fun i=>?_⟩
 ·simp; omega
 ·show AR w H1 γ [] (aK (aW 0 (iP ps x)) i) (Array.getD _ i undef)
  rw [<- c3,fG];simp only [aeR,if_true,agY,adG];cases hi:ops[i]? with
  | none=>simp only [af4,af9]; trivial
  | some y=>
   have hop:=adI.1 hops y (ad7 hi)
   have hy:=br h1 hop
   rw [aF hop] at hy;simp only [Option.map_some,Option.getD_some];have hz:(evA s1 y).toV.isFz=true:=by
    refine adI.1 c2 _ (aeH (aeH (ad7 hi)))
   rw [DP hi];exact fE cU (lf (fun _ _ _ h=>h) hz hy)
end
theorem Xi {α:Type} {r:Except Value α} {K K':α->Prop} {KP:Value->Prop} (h:∀ x,K x->K' x) (hr:exQ r K KP):exQ r K' KP:=by
 cases r with
 | ok x=>exact h x hr
 | error v=>exact hr
theorem N9 {e:En} (he:e.ok) (hm:e.P.follows .mixedOrders=true) {f:Nat} {fn:Func} (hf:e.P.funcs[f]? = some fn) (hname:(fn.name == "runtime.NumGoroutine")=false) (hb:fn.body.isSome=true) {an:An} {ps rs:List U} {pre:Fl ps->Prop} {F:Fl ps->Except Value (Fl rs)}
  (hlen:Nat.ble ps.length fn.ntmps=true) (hc:kg fn.ntmps (fn.body.getD .skip)=true) (law:∀ x,pre x->∀ (KK:Fl rs->Prop) (KP:Value->Prop),exQ (F x) KK KP->tc e fn an ps rs x KK KP):Cont e.P f (ni ps rs pre F):=by
 have hb':fn.body=some (fn.body.getD .skip):=by cases h:fn.body with
  | none=>rw [h] at hb; cases hb
  | some c=>rfl
 refine ⟨N3 hf hname hb,fun pk s ops k k' hk hcc=>?_,fun g pk s a w H γ F1 ops k hX hops hcc=>?_⟩
 ·unfold ni at hcc ⊢;dsimp only at hcc ⊢;split at hcc
  ·exact ⟨hcc.1,Xi (fun y hy=>hk _ _ (dj _ _) hy) hcc.2⟩
  ·exact hcc.elim
 ·unfold ni at hcc;dsimp only at hcc;obtain ⟨H1,F2,h1⟩:=eF (ops.map (evA s)) s H F1 hX;generalize cT s (ops.map (evA s))=s1 at hcc h1;split at hcc
  ·rename_i x hx;have hlx:ops.length=ps.length:=by
    obtain ⟨_,_,c3⟩:=f7 hx;have:=congrArg List.length c3
    rw [fA] at this;simpa using this
   have h:=law x hcc.1 _ _ hcc.2
   have hX0:=Kn h1 hops hx (nt:=fn.ntmps) (by rw [hlx]; exact adN hlen)
   have e0:(FP ps x).toS=⟨aW 0 (iP ps x),[]⟩:=bI.S_ext (iR 0 ps x) rfl
   rw [<- e0] at hX0;refine calls_of_wp hf hb' (Code.wp_mono (fun ex a' w' hl=>?_) (lO (e:=⟨e.P,e.E,e.cs,e.sh,fun v _=>pk v s1⟩) he hm (g:=⟨fn.ntmps,w,H1,fun _=>0,fun _=>none,none,[]⟩) _ an _ _ hc h _ w ⟨H1,γ,F2,hX0⟩));obtain ⟨s',hq,hR⟩:=hl;have fin:∀ t:St,s'=t.toS->vU e.P fn.results.toList rs (fun y=>k s1 (fh rs y)) t->a'.defers=[]/\∃ v,(results fn a'.tmps).run e.P w'=.ok v w'/\kv g a pk k (.returned v) w':=by
    rintro t rfl ht
    obtain ⟨s2,hk2,H2,γ2,F3,hX2⟩:=qO (K:=fun r=>∃ y,r=(fh rs y).toV/\k s1 (fh rs y)) (fun r hr=>⟨r,rfl,hr⟩) ht hR;obtain ⟨y,v,s3,H3,F4,e1,e2,e3,e4,y0,e5,e6⟩:=y9 hX2 rfl hk2;refine ⟨e2.df.1,y,e1,.inl ⟨y,s1,fh rs y0,H3,γ,F2,rfl,e6,?_,GJ h1 e2.fr e2.mem.agree⟩⟩;rw [<- e5];exact fE cU (lf (fun _ _ _ h=>h) e4 e3)
   cases ex with
   | normal=>obtain ⟨t,e1,ht⟩:=hq; exact fin t e1 ht
   | ret=>obtain ⟨t,e1,ht⟩:=hq; exact fin t e1 ht
   | exit i=>obtain ⟨t,e1,ht⟩:=hq; exact ht.elim
   | panic c=>
    obtain ⟨v,t,rfl,rfl,hv⟩:=hq;obtain ⟨H',γ',F',hX'⟩:=hR;exact ⟨hX'.df.1,.inr ⟨v,s1,rfl,hv,H',γ,F2,GJ h1 hX'.fr hX'.mem.agree⟩⟩
   | _=>exact hq.elim
  ·exact hcc.elim
end Go.Am
end

section
namespace Go.Am
def Nm.sw:Nm->Nm
 | .loc i=>.out i
 | .out i=>.loc i
 | .gh v=>.gh v
theorem Nm.sw_sw:∀ n:Nm,n.sw.sw=n
 | .loc _=>rfl
 | .out _=>rfl
 | .gh _=>rfl
theorem Nm.sw_inj {n n':Nm} (h:n.sw=n'.sw):n=n':=by rw [<- n.sw_sw,<- n'.sw_sw,h]
theorem Nm.sw_tyd:∀ n:Nm,n.sw.tyd=n.tyd
 | .loc _=>rfl
 | .out _=>rfl
 | .gh _=>rfl
def Pl.sw (p:Pl):Pl:=⟨p.root.sw,p.off,p.path⟩
def T.sw:T->T
 | .pl p=>.pl p.sw
 | .rf p=>.rf p.sw
 | t=>t
def AV1.sw:AV1->AV1
 | .c t=>.c t.sw
 | .agg ts=>.agg (ts.map T.sw)
def AV.sw:AV->AV
 | .one x=>.one x.sw
 | .tup xs=>.tup (xs.map AV1.sw)
 | .any=>.any
def Root.sw (r:Root):Root:=⟨r.blk,r.cells.map T.sw⟩
def swM (m:Mm):Mm:=m.map fun x=>(x.1.sw,x.2.sw)
def S.sw (s:S):S:=⟨s.t.map fun x=>(x.1,x.2.sw),swM s.m⟩
def Tt.sw:Tt->Tt
 | .pl p=>.pl p.sw
 | .rf p=>.rf p.sw
 | t=>t
def A1.sw:A1->A1
 | .c t=>.c t.sw
 | .agg ts=>.agg (ts.map Tt.sw)
def At.sw:At->At
 | .one x=>.one x.sw
 | .tup xs=>.tup (xs.map A1.sw)
 | .any=>.any
def Rt.sw (r:Rt):Rt:=⟨r.blk,r.cells.map Tt.sw,r.hole⟩
def St.sw (s:St):St:=⟨s.nx,s.t.map fun x=>(x.1,x.2.1,x.2.2.sw),s.m.map fun x=>(x.1.sw,x.2.1,x.2.2.sw)⟩
theorem Tt.sw_toT:∀ t:Tt,t.sw.toT=t.toT.sw
 | .d _=>rfl
 | .nil=>rfl
 | .ow _ _ _=>rfl
 | .el _ _=>rfl
 | .ga _ _ _=>rfl
 | .pl _=>rfl
 | .rf _=>rfl
 | .any=>rfl
theorem Ui (ts:List Tt):(ts.map Tt.sw).map Tt.toT=(ts.map Tt.toT).map T.sw:=by
 rw [adV,adV];exact adU fun t _=>Tt.sw_toT t
theorem A1.sw_toV:∀ x:A1,x.sw.toV=x.toV.sw
 | .c t=>congrArg AV1.c t.sw_toT
 | .agg ts=>congrArg AV1.agg (Ui ts)
theorem At.sw_toV:∀ x:At,x.sw.toV=x.toV.sw
 | .one x=>congrArg AV.one x.sw_toV
 | .tup xs=>congrArg AV.tup (by
  rw [adV,adV];exact adU fun t _=>A1.sw_toV t)
 | .any=>rfl
theorem UI (ts:List T) (h:Option (Nat×Step×List Step)):holed (ts.map T.sw) h=(holed ts h).map T.sw:=by
 cases h with
 | none=>rfl
 | some x=>
  obtain ⟨off,st,q⟩:=x;simp only [holed,adG];cases ts[off]? with
  | none=>rfl
  | some t=>
   cases t with
   | ow sub l=>simp only [Option.map_some,T.sw,aeP]
   | _=>rfl
theorem Rt.sw_toR (r:Rt):r.sw.toR=r.toR.sw:=by
 unfold Rt.toR Rt.sw Root.sw;dsimp only;rw [Ui,UI]
theorem St.sw_toS (s:St):s.sw.toS=s.toS.sw:=by
 unfold St.toS St.sw S.sw swM;simp only [adV]
 congr 1
 ·exact adU fun x _=>by simp only [Function.comp,At.sw_toV]
 ·exact adU fun x _=>by simp only [Function.comp,Rt.sw_toR]
theorem XA (t:List (Nat×AV)) (i:Nat):aK (t.map fun x=>(x.1,x.2.sw)) i=(aK t i).sw:=by
 induction t with
 | nil=>rfl
 | cons x r ih=>
  obtain ⟨k,v⟩:=x;simp only [List.map_cons,aK];split
  ·rfl
  ·exact ih
theorem QD (m:Mm) (n:Nm):ae (swM m) n.sw=(ae m n).map Root.sw:=by
 induction m with
 | nil=>rfl
 | cons x r ih=>
  obtain ⟨k,v⟩:=x;simp only [swM,List.map_cons,ae];by_cases hk:k=n
  ·subst hk; rw [if_pos rfl,if_pos rfl]; rfl
  ·rw [if_neg hk,if_neg (fun e=>hk (Nm.sw_inj e))]; exact ih
theorem Gc {cells:List T} {o:Nat} {sub:List Sh} {l:List (List D)}:(cells.map T.sw)[o]? = some (.ow sub l) ↔ cells[o]? = some (.ow sub l):=by
 rw [adG];cases cells[o]? with
 | none=>simp
 | some t=>cases t <;> simp [T.sw]
theorem W1 {m:Mm} {p:Pl} (h:bU m p):bU (swM m) p.sw:=by
 unfold bU at h ⊢;simp only [Pl.sw,QD];cases hr:ae m p.root with
 | none=>simp [hr] at h
 | some r=>
  simp only [hr,Option.map_some] at h ⊢;split
  ·rename_i hp; simp only [hp] at h; simpa [Root.sw] using h
  ·rename_i st q hp;simp only [hp] at h;split at h
   ·rename_i sub l hc;rw [show (Root.sw r).cells[p.off]? = some (.ow sub l) from Gc.2 hc];exact h
   ·exact h.elim
theorem YL {m:Mm} {p:Pl} (h:gF m p):gF (swM m) p.sw:=by
 unfold gF at h ⊢;simp only [Pl.sw,QD];cases hr:ae m p.root with
 | none=>simp [hr] at h
 | some r=>
  simp only [hr,Option.map_some] at h ⊢;split at h
  ·rename_i sub l hc hp;rw [show (Root.sw r).cells[p.off]? = some (.ow sub l) from Gc.2 hc,hp];trivial
  ·rename_i sub l st q hc hp;rw [show (Root.sw r).cells[p.off]? = some (.ow sub l) from Gc.2 hc];simpa [hp] using h
  ·exact h.elim
section
variable {w:World} {H:FH} {γ:Gam} {m:Mm} {F:Nm->Fp}
def swG (γ:Gam):Gam:=fun n=>γ n.sw
theorem WA (n:Nm):swG γ n.sw=γ n:=by rw [swG,Nm.sw_sw]
theorem Z5 (p:Pl):plA w (swG γ) p.sw=plA w γ p:=by
 unfold plA;simp only [Pl.sw,WA]
theorem ZN (p:Pl):plV w (swG γ) p.sw=plV w γ p:=by
 unfold plV;simp only [Pl.sw,WA]
theorem US {t:T} {f:Fp} {y:Value} (h:TR w H γ m t f y):TR w H (swG γ) (swM m) t.sw f y:=by
 cases t with
 | pl p=>
  obtain ⟨h1,h2,a,h3,h4⟩:=h;exact ⟨h1,W1 h2,a,(Z5 p).trans h3,h4⟩
 | rf p=>
  obtain ⟨h1,h2,h3⟩:=h;exact ⟨h1,YL h2,(ZN p).trans h3⟩
 | _=>exact h
theorem Zp {ts:List T} {f:Fp} {vs:List Value} (h:Ts (TR w H γ m) ts f vs):Ts (TR w H (swG γ) (swM m)) (ts.map T.sw) f vs:=by
 unfold Ts at h ⊢;rw [adE];have key:∀ (ss:List Unit) (xs:List T) (f:Fp) (vs:List Value),Cs (fun _ t=>TR w H γ m t) ss xs f vs->Cs (fun _ t=>TR w H (swG γ) (swM m) t) ss (xs.map T.sw) f vs:=by
  intro ss xs;induction xs generalizing ss with
  | nil=>intro f vs h; cases ss <;> exact h
  | cons x xs ih=>
   intro f vs h;cases ss with
   | nil=>exact h.elim
   | cons u ss=>
    obtain ⟨v,r,f1,f2,hv,hf,k1,k2⟩:=h;exact ⟨v,r,f1,f2,hv,hf,US k1,ih ss f2 r k2⟩
 exact key _ _ _ _ h
theorem T4 {n:Nm} {r:Root} {f:Fp} (h:bm w H γ m n r f):bm w H (swG γ) (swM m) n.sw r.sw f:=by
 unfold bm at h ⊢;by_cases hb:r.blk=true
 ·rw [if_pos hb] at h;rw [if_pos (show r.sw.blk=true from hb)];obtain ⟨b,cs,ty,fz,g,h1,h2,h3,h4,h5,h6⟩:=h;exact ⟨b,cs,ty,fz,g,by rw [swG,Nm.sw_sw]; exact h1,h2,⟨h3.1,fun t ht=>h3.2 t (by rw [<- n.sw_tyd]; exact ht)⟩,by simpa [Root.sw] using h4,Zp h5,h6⟩
 ·rw [if_neg hb] at h;rw [if_neg (show ¬ r.sw.blk=true from hb)];obtain ⟨v,t,h1,h2,h3⟩:=h;exact ⟨v,t.sw,by rw [swG,Nm.sw_sw]; exact h1,by simp [Root.sw,h2],US h3⟩
theorem FU (m:Mm):tot (fun n=>F n.sw) (swM m)=tot F m:=by
 funext b
 induction m with
 | nil=>rfl
 | cons x r ih=>
  simp only [swM,List.map_cons,tot,Nm.sw_sw] at ih ⊢;rw [ih]
theorem aaI (h:Mem w H γ m F):Mem w H (swG γ) (swM m) (fun n=>F n.sw):=by
 refine ⟨h.agree,fun x hx=>?_,?_,fun b=>by rw [FU]; exact h.le1 b,fun b hb=>h.lt b (by rwa [FU] at hb),fun b hb=>h.nofz b (by rwa [FU] at hb)⟩
 ·simp only [swM,ad0] at hx;obtain ⟨y,hy,rfl⟩:=hx;dsimp only;rw [Nm.sw_sw];exact T4 (h.roots y hy)
 ·have:(swM m).map (·.1)=(m.map (·.1)).map Nm.sw:=by simp only [swM,adV]; rfl
  rw [this,List.nodup_iff_pairwise_ne,List.pairwise_map];exact (List.nodup_iff_pairwise_ne.1 h.keys).imp (fun hne e=>hne (Nm.sw_inj e))
theorem TH {x:AV1} {y:Value} (h:AR1 w H γ m x y):AR1 w H (swG γ) (swM m) x.sw y:=by
 cases x with
 | c t=>exact US h
 | agg ts=>
  obtain ⟨cs,h1,h2,h3⟩:=h;exact ⟨cs,h1,by simpa using h2,Zp h3⟩
theorem U6:∀ {xs:List AV1} {ys:List Value},ARs w H γ m xs ys->ARs w H (swG γ) (swM m) (xs.map AV1.sw) ys
 | [],[],_=>trivial
 | _::_,_::_,h=>⟨TH h.1,U6 h.2⟩
 | [],_::_,h=>h.elim
 | _::_,[],h=>h.elim
theorem acS {x:AV} {y:Value} (h:AR w H γ m x y):AR w H (swG γ) (swM m) x.sw y:=by
 cases x with
 | one x=>exact TH h
 | tup xs=>obtain ⟨l,h1,h2⟩:=h; exact ⟨l,h1,U6 h2⟩
 | any=>trivial
def pm (γ:Gam):Nat->Option Nat:=fun i=>match γ (.loc i) with
 | .blk b=>some b
 | .gh _=>none
theorem acP {g:G} {s:St} {a a':Act} (h:RX g s.toS a w H γ F) {ds:List Deferred} (h1:a'.tmps=a.tmps) (h2:a'.defers=ds):RX ⟨g.nt,g.w0,g.H0,g.own0,pm γ,g.ex,ds⟩ s.sw.toS a' w H (swG γ) (fun n=>F n.sw):=by
 rw [St.sw_toS];refine ⟨aaI h.mem,?_,by rw [h1]; exact h.nt,⟨h2,fun j b hb=>?_,h.df.2.2⟩,fun i=>?_⟩
 ·show Fr g.w0 g.H0 g.own0 w H (tot (fun n=>F n.sw) (swM s.toS.m))
  rw [FU]; exact h.fr
 ·show γ (.loc j)=.blk b
  dsimp only [pm] at hb;split at hb
  ·rename_i b' hb'; rw [hb']; simp only [ac8] at hb; rw [hb]
  ·cases hb
 ·show AR w H (swG γ) (swM s.toS.m) (aK (s.toS.t.map fun x=>(x.1,x.2.sw)) i) _
  rw [XA];have e:G.tv ⟨g.nt,g.w0,g.H0,g.own0,pm γ,g.ex,ds⟩ a' i=g.tv a i:=by
   unfold G.tv;rw [h1]
  rw [e];exact acS (h.t i)
end
end Go.Am
end

section
namespace Go.Am
open Go Go.RowKit Go.Proofs
section
variable {P:Program}
theorem Rh {f:Nat} {φ:List AV->(AV->Prop)->Prop} (hrun:∀ args w,(callFunc f args).run P w=.ok (.enter f args) w)
  (hbody:∀ (avs:List AV) (K:AV->Prop) (args:List Value) (w:World) (H:FH) (γ:Gam),φ avs K->args.length=avs.length->(∀ (i:Nat) v,avs[i]? = some v->∃ y,args[i]? = some y/\AR w H γ [] v y)->Globs H ->
   (∀ b o y,H b o=some y->w.cell? ⟨b,o,none⟩=some y) ->
   Calls P f args.toArray w (fun e w'=>∃ r av H2,e=.returned r/\K av/\Below w.heap.size w w'/\(∀ b o y,H b o=some y->H2 b o=some y)/\(∀ b o,H2 b o≠none->H b o=none->w.heap.size<=b) /\
    (∀ b o y,H2 b o=some y->w'.cell? ⟨b,o,none⟩=some y)/\av.isFz=true/\AR w' H2 γ [] av r)):Con P f (rL φ):=by
 refine ⟨hrun,fun g s a w H γ F ops k hX hops hK=>?_⟩;unfold rL at hK;dsimp only at hK;obtain ⟨H1,F1,h1⟩:=ky (ops.map (ev s)) s H F hX;generalize jt s (ops.map (ev s))=s1 at hK h1;obtain ⟨hfz,hφ⟩:=hK;refine (hbody _ _ (ops.map a.eval) w H1 γ hφ (by simp) (fun i v hi=>?_) (dJ h1) h1.mem.agree).mono ?_
 ·rw [adG] at hi;obtain ⟨x,hx0,rfl⟩:=aeG.1 hi;have hx:=br h1 (adI.1 hops x (ad7 hx0))
  have hz:(ev s1 x).isFz=true:=adI.1 hfz (ev s1 x) (aeH (ad7 hx0))
  exact ⟨a.eval x,by rw [adG,hx0]; rfl,fE cU (lf (fun _ _ _ h=>h) hz hx)⟩
 ·rintro e w' ⟨r,av,H2,rfl,hk,hb,hh,hn,hag,hz,har⟩
  have hold:∀ b,b<w.heap.size->w'.heap[b]? = w.heap[b]? := hb.block
  have hnew:∀ b,b<w.heap.size->H1 b=H2 b:=by
   intro b hb
   funext o
   cases hc:H1 b o with
   | some y=>rw [hh b o y hc]
   | none=>
    cases hc2:H2 b o with
    | none=>rfl
    | some y=>have:=hn b o (by rw [hc2]; simp) hc; omega
  have hsame:∀ b,tot F1 s1.m b≠0->w'.heap[b]? = w.heap[b]? := fun b hb=>hold b (h1.mem.lt b hb)
  have hKp:=dn (w':=w') h1.mem hsame
  have hmem:Mem w' H2 γ s1.m F1:=by
   refine ⟨hag,fun x hx=>aX hKp hh rfl (fun b hb=>hsame b (by have:=bX (F:=F1) hx b; omega)) (h1.mem.roots x hx),h1.mem.keys,h1.mem.le1,fun b hb'=>by have:=h1.mem.lt b hb'; have:=hb.size; omega,fun b hb o=>?_⟩;rw [<- hnew b (h1.mem.lt b hb)]; exact h1.mem.nofz b hb o
  have hFr:Fr w H1 (tot F1 s1.m) w' H2 (tot F1 s1.m):=
   ⟨hb.size,hb.os,hb.tape,hb.output,fun b hb _=>hold b hb,hh,fun b o h2 h3=>.inr (hn b o h2 h3),fun b hb=>.inl hb⟩
  exact ⟨r,s1,av,H2,γ,F1,rfl,hk,lf (fun _ _ _ h=>h) hz har,iM h1 hmem hFr (fun i=>dv hKp hh (h1.t i)) (fun _=>rfl)⟩
theorem ol {f:Nat} {ps rs:List U} {pre:Fl ps->Prop} {F:Fl ps->Fl rs} (hrun:∀ args w,(callFunc f args).run P w=.ok (.enter f args) w)
  (hbody:∀ (x:Fl ps) (args:List Value) (w:World) (H:FH) (γ:Gam),pre x->args.length=(iP ps x).length->(∀ (i:Nat) v,(iP ps x)[i]? = some v->∃ y,args[i]? = some y/\AR w H γ [] v y)->Globs H ->
   (∀ b o y,H b o=some y->w.cell? ⟨b,o,none⟩=some y) ->
   Calls P f args.toArray w (fun e w'=>∃ r H2,e=.returned r/\Below w.heap.size w w'/\(∀ b o y,H b o=some y->H2 b o=some y)/\(∀ b o,H2 b o≠none->H b o=none->w.heap.size<=b) /\
    (∀ b o y,H2 b o=some y->w'.cell? ⟨b,o,none⟩=some y)/\AR w' H2 γ [] (fh rs (F x)).toV r)):Cont P f (eK ps rs pre F):=
 lB (φ:=fun avs K=>∃ x:Fl ps,avs=iP ps x/\pre x/\K (fh rs (F x)).toV) (fun x K hp hk=>⟨x,rfl,hp,hk⟩)
  (Rh hrun (fun avs K args w H γ ⟨x,hx,hp,hk⟩ hl ha hg hag=>by
   subst hx;refine (hbody x args w H γ hp hl ha hg hag).mono ?_;rintro e w' ⟨r,H2,h1,h2,h3,h4,h5,h6⟩
   exact ⟨r,_,H2,h1,hk,h2,h3,h4,h5,Qq rs (F x),h6⟩))
theorem kX {f:Nat} {fn:Func} (hf:P.funcs[f]? = some fn) (hname:(fn.name == "runtime.NumGoroutine")=false) (hb:fn.body.isSome=true) (args:Array Value) (w:World):(callFunc f args).run P w=.ok (.enter f args) w:=by
 have h1:fn.name ≠ "runtime.NumGoroutine" := by simpa using hname
 cases hc:fn.body with
 | none=>rw [hc] at hb; cases hb
 | some c=>simp [callFunc,hf,h1,hc]
theorem lr {w:World} {H:FH} {γ:Gam} {l:List UInt8} {y:Value} (h:AR w H γ [] (.one (.c (.d (.str l)))) y):y=.string ⟨l.toArray⟩/\l.length<=BIG:=by
 obtain ⟨_,m,h⟩:=h;cases m <;> exact h
theorem qy (l:List UInt8):(⟨l.toArray⟩:ByteArray).data.toList=l:=by simp
theorem vG (l:List UInt8):(⟨l.toArray⟩:ByteArray).size=l.length:=by simp [ByteArray.size]
theorem Qf {args:List Value} {x y:AV} {w:World} {H:FH} {γ:Gam} (hl:args.length=2) (ha:∀ (i:Nat) v,[x,y][i]? = some v->∃ y,args[i]? = some y/\AR w H γ [] v y):∃ u v,args=[u,v]/\AR w H γ [] x u/\AR w H γ [] y v:=by
 match args,hl with
 | [u,v],_=>
  obtain ⟨u',h1,h2⟩:=ha 0 x rfl;obtain ⟨v',h3,h4⟩:=ha 1 y rfl;simp only [aeN,aeU,ac8] at h1 h3;subst h1; subst h3;exact ⟨u,v,rfl,h2,h4⟩
theorem IY (B:Nat) (w:World) (n:Nat):Below B w (w.drewN n):=⟨rfl,rfl,rfl,adH _,fun _ _=>rfl⟩
theorem E0 {w:World} {H:FH} (hg:Globs H) (hag:∀ b o y,H b o=some y->w.cell? ⟨b,o,none⟩=some y) {k:Nat} (hk:Xd=some k):∃ n,w.cell? ⟨k,0,none⟩=some (.int .i64 n):=by
 obtain ⟨n,m,h⟩:=hg.2 k hk;obtain ⟨y,h1,h2⟩:=h 0 (by simp);have h2:FD H m (.int .i64 n) y:=h2
 have:y=.int .i64 n:=by cases m <;> exact h2.1
 subst this;exact ⟨n,hag k 0 _ h1⟩
end
end Go.Am
end

section
namespace Go.Am
open Go Go.RowKit Go.Proofs
theorem II (n:Int) (w:World):Calls Tryz.prog 76 #[.int .i64 n] w fun e w'=>e=.panicked (chn (Lt.flt n))/\w'=w:=by
 go_enter Tryz.func76,Tryz.ntmps76
 go_wp2
 exact ⟨rfl,rfl,rfl⟩
theorem Z3 {v:At} {x:Int} (h:cF [.i .i64] [v]=some x):v.toV.map T.canon=.one (.c (.d (.int .i64 x))):=by
 obtain ⟨h1,h2,h3⟩:=f7 h;have:[v.toV.map T.canon]=[AV.one (.c (.d (.int .i64 x)))]:=h3
 simpa using this
theorem Vp:Cont Tryz.prog 76 (aa2 Lt.flt):=by
 refine ⟨kX (fn:=Tryz.f76) (by kernel_rfl) (by kernel_rfl) (by kernel_rfl),fun pk s ops k k' hk hc=>hc,fun g pk s a w H γ F1 ops k hX hops hc=>?_⟩;unfold aa2 at hc;split at hc
 ·rename_i x hx
  match ops,hx with
  | [],hx=>simp [cF] at hx
  | [o],hx=>
   have hop:bh o=true:=by simpa using hops
   have hv:=br hX hop
   rw [aF hop] at hv;have hv2:=fE cU hv
   rw [Z3 hx] at hv2;obtain ⟨_,m,e1⟩:=hv2;show Calls _ _ #[a.eval o] w _
   have e1:a.eval o=.int .i64 x:=by cases m <;> exact e1.1
   rw [e1];refine (II x w).mono ?_;rintro e w' ⟨rfl,rfl⟩
   exact .inr ⟨_,s,rfl,hc,H,γ,F1,hX⟩
  | _::_::_,hx=>simp [cF] at hx
 ·exact hc.elim
end Go.Am
end
