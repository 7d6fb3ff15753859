/-
  Part 14: AmE3m · AmE3n · AmE5 · AmE6 · AmE7 · AmE8 · AmE9 · AmE10 · AmE11 · AmOwnCon · AmE12.
-/
import Derived.Test.YtjccmeppajblpaaGreatDoorSn13
import Derived.Deep.OwnRows
set_option linter.unusedSimpArgs false
set_option linter.unusedVariables false
set_option linter.unusedSectionVars false
set_option linter.unnecessarySimpa false
section
namespace Go.Am
open Go.MapKept
theorem wT {P:Program} {d:TypeDesc} {k e:TypeId} (h:fw P d=.mp k e):d=.map k e:=by cases d <;> simp [fw] at h; obtain ⟨rfl,rfl⟩:=h; rfl
def wg {β:Type} (ku:U) (g:β->Sh×D) (x:El ku×β):D×Sh×D:=((am ku x.1).toD,g x.2)
abbrev DP (ku vu:U):El ku×El vu->D×Sh×D:=wg ku fun v=>(.fr,(am vu v).toD)
abbrev nj (u:U) (l:List (El u)):Sh×D:=(.ow (List.replicate (nc u) .fr),.li (l.map (ai u)))
theorem mw {P:Program} {t:TypeId} {ku:U} (h:gI P t ku=true) (a b:El ku):jh (am ku a).toD (am ku b).toD=lm ku a b:=by
 cases ku with
 | i k=>show (decide (k=k)&&decide (a=b))=decide (a=b); simp
 | bo=>rfl
 | s=>rfl
 | _=>cases h
theorem iM {P:Program} {t:TypeId} {ku:U} (h:gI P t ku=true) (a:El ku):iD (ty P t).k (am ku a).toD=true:=by
 cases ku with
 | i k=>
  have h:decide ((ty P t).k=.int k)=true:=h
  rw [of_decide_eq_true h]; show decide (k=k)=true; simp
 | bo=>
  have h:decide ((ty P t).k=.bool)=true:=h
  rw [of_decide_eq_true h]; rfl
 | s=>
  have h:decide ((ty P t).k=.str)=true:=h
  rw [of_decide_eq_true h]; rfl
 | _=>cases h
theorem lJ {P:Program} {t:TypeId} {ku:U} (h:gI P t ku=true):(ty P t).k≠.ot:=by
 intro e;cases ku <;> first | (unfold gI at h; rw [e] at h; simp at h; done) | cases h
theorem mA {β:Type} {P:Program} {t:TypeId} {ku:U} (h:gI P t ku=true) (g:β->Sh×D) (l:List (El ku×β)):((l.map (wg ku g)).all fun x=>iD (ty P t).k x.1)=true:=by
 rw [UG];exact SQ.2 fun x _=>iM h x.1
theorem uq {β:Type} {P:Program} {t:TypeId} {ku:U} (h:gI P t ku=true) (g:β->Sh×D) (k:El ku):∀ l:List (El ku×β),ll (l.map (wg ku g)) (am ku k).toD=(aU ku l k).map g
 | []=>rfl
 | x::l=>by
  simp only [List.map_cons,ll,aU,wg,mw h];cases lm ku x.1 k with
  | true=>rfl
  | false=>exact uq h g k l
theorem zR {β:Type} {P:Program} {t:TypeId} {ku:U} (h:gI P t ku=true) (g:β->Sh×D) (k:El ku) (v:β):∀ l:List (El ku×β),gF (l.map (wg ku g)) (am ku k).toD (g v)=(eh ku l k v).map (wg ku g)
 | []=>rfl
 | x::l=>by
  have ih:=zR h g k v l
  simp only [List.map_cons,gF,eh,wg,mw h];cases lm ku x.1 k with
  | true=>rfl
  | false=>simp only [List.map_cons]; rw [<- ih]; rfl
theorem FK {β:Type} {P:Program} {t:TypeId} {ku:U} (h:gI P t ku=true) (g:β->Sh×D) (k:El ku):∀ l:List (El ku×β),yy (l.map (wg ku g)) (am ku k).toD=(mX ku l k).map (wg ku g)
 | []=>rfl
 | x::l=>by
  have ih:=FK h g k l
  simp only [List.map_cons,yy,mX,wg,mw h];cases lm ku x.1 k with
  | true=>rfl
  | false=>simp only [List.map_cons]; rw [<- ih]; rfl
theorem G9 {k:D} (hk:jh k k=true) (a b:Sh×D):∀ l:List (D×Sh×D),gF (gF l k a) k b=gF l k b
 | []=>by simp only [gF,hk]
 | x::l=>by
  simp only [gF];cases h:jh x.1 k with
  | true=>simp only [gF,hk]
  | false=>simp only [gF,h,G9 hk a b l]
theorem N2 {k:D} (hk:jh k k=true) (b:Sh×D) (l:List (D×Sh×D)):gF (sy l k) k b=gF l k b:=by
 unfold sy;split
 ·exact G9 hk _ _ _
 ·rfl
theorem F7 {κ:TK} {k:D} (hk:iD κ k=true) (v:Sh×D):∀ {l:List (D×Sh×D)},(l.all fun x=>iD κ x.1)=true->((gF l k v).all fun x=>iD κ x.1)=true
 | [],_=>by simp [gF,hk]
 | x::l,h=>by
  simp only [S6,SL] at h;simp only [gF];split
  ·simp only [S6,hk,h.2,Up]
  ·simp only [S6,h.1,F7 hk v h.2,Up]
theorem Oz {κ:TK} {k:D} (hk:iD κ k=true) {l:List (D×Sh×D)} (h:(l.all fun x=>iD κ x.1)=true):((sy l k).all fun x=>iD κ x.1)=true:=by
 unfold sy;split
 ·exact F7 hk _ h
 ·exact h
theorem EC {P:Program} {t:TypeId} {u:U} (h:zOK P t u=true):∃ z it,P.info? t=some it/\it.zero=some z/\z.cells=#[z]/\(∀ w,(zeroValue t).run P w=.ok z w)/\(∀ H,FDx H (am u (dflt u)).toD z)/\(∀ v,u=.sl v->z=.slice none 0 0)/\leaf u=true:=by
 unfold zOK at h;have run:∀ {z:Value},(P.info? t).bind (·.zero)=some z->∃ it,P.info? t=some it/\it.zero=some z/\∀ w,(zeroValue t).run P w=.ok z w:=by
  intro z hz;obtain ⟨it,h1,h2⟩:=Tn.1 hz;exact ⟨it,h1,h2,fun w=>by simp [zeroValue,typeInfo,h1,h2]⟩
 split at h
 ·rename_i k n k' hz;obtain ⟨it,h1,h2,h3⟩:=run hz;simp only [SL,decide_eq_true_eq] at h;obtain ⟨⟨rfl,rfl⟩,_⟩:=h;exact ⟨_,it,h1,h2,rfl,h3,fun H=>⟨0,rfl,by cases k <;> decide⟩,(fun _ e=>by cases e),rfl⟩
 ·rename_i b hz;obtain ⟨it,h1,h2,h3⟩:=run hz;cases b with
  | true=>cases h
  | false=>exact ⟨_,it,h1,h2,rfl,h3,fun H=>⟨0,rfl⟩,(fun _ e=>by cases e),rfl⟩
 ·rename_i str hz;obtain ⟨it,h1,h2,h3⟩:=run hz;refine ⟨_,it,h1,h2,rfl,h3,fun H=>⟨0,?_,Tf _⟩,(fun _ e=>by cases e),rfl⟩;obtain ⟨⟨l⟩⟩:=str;cases l with
  | nil=>rfl
  | cons x l=>simp at h
 ·rename_i u hz;obtain ⟨it,h1,h2,h3⟩:=run hz;exact ⟨_,it,h1,h2,rfl,h3,fun H=>ig,fun _ _=>rfl,rfl⟩
 ·cases h
section
variable {P:Program} {g:G} {a:Act} {w:World} {H:FH} {γ:Gam} {F:Nm->Fp} {s:St} {k k':St->Prop}
theorem pm {E:Ut} {own:Bool} {t:TypeId} {d:Tmp} (hk:∀ s',Ext s s'->k s'->k' s') (h:en P E own s t d k):en P E own s t d k':=by
 unfold en at h ⊢
 (repeat' split at h) <;> first | exact h.elim | exact hk _ (((bx _ _).trans (ce _ _ _)).trans (aI _ _ _)) h
theorem zo {m:List (Nm×Nat×Rt)} {t:TypeId} {x key:At} {ok:Bool} {k k':At->Prop} (hk:∀ v,k v->k' v) (h:jr P m t x key ok k):jr P m t x key ok k':=by
 unfold jr at h ⊢
 (repeat' split at h) <;> first | exact h.elim | exact hk _ h
theorem Df {t:TypeId} {x key v:At} (hk:∀ s',Ext s s'->k s'->k' s') (h:jj P s t x key v k):jj P s t x key v k':=by
 unfold jj at h ⊢
 (repeat' split at h) <;> first | exact h.elim | exact hk _ ⟨TE _,fun _ _ _ h _=>h,cF _ _ (SN _) _⟩ h
theorem Bi {t:TypeId} {x key:At} (hk:∀ s',Ext s s'->k s'->k' s') (h:jN P s t x key k):jN P s t x key k':=by
 unfold jN at h ⊢
 (repeat' split at h) <;> first | exact h.elim | exact hk _ ⟨TE _,fun _ _ _ h _=>h,cF _ _ (SN _) _⟩ h
theorem vF (s:St) (n:Nm) (r:Rt):Ext s ⟨s.nx+1,s.t,cO s.m n s.nx r⟩:=⟨TE _,fun _ _ _ h _=>h,cF _ _ (SN _) _⟩
theorem zJ {t:TypeId} {x key:Operand} {d:Tmp} (hk:∀ s',Ext s s'->k s'->k' s') (h:jZ P s t x key d k):jZ P s t x key d k':=by
 unfold jZ at h ⊢;dsimp only at h ⊢
 (repeat' split at h) <;> first | exact h.elim | exact hk _ ((((bx _ _).trans (vF _ _ _)).trans (ce _ _ _)).trans (aI _ _ _)) h
theorem Cj {t:TypeId} {x key v:At} (hk:∀ s',Ext s s'->k s'->k' s') (h:mO P s t x key v k):mO P s t x key v k':=by
 unfold mO at h ⊢;dsimp only at h ⊢
 (repeat' split at h) <;> first | exact h.elim | exact ⟨h.1,hk _ ((oH _ _).trans (vF _ _ _)) h.2⟩
theorem BO {x:Operand} {d:Tmp} (hk:∀ s',Ext s s'->k s'->k' s') (h:mR s x d k):mR s x d k':=by
 unfold mR at h ⊢
 (repeat' split at h) <;> first | exact h.elim | exact hk _ ((vF _ _ _).trans (aI _ _ _)) h
theorem tj {e:En} {t:TypeId} {n c:At} {b:Bool} {d:Tmp} (hk:∀ s',Ext s s'->k s'->k' s') (h:dE e s t n c b d k):dE e s t n c b d k':=by
 unfold dE at h ⊢
 (repeat' split at h) <;> first | exact h.elim | exact ⟨h.1,hk _ (((bx _ _).trans (ce _ _ _)).trans (aI _ _ _)) h.2⟩
theorem Cx {E:Ut} {own:Bool} {t:TypeId} {d:Tmp} (hX:RX g s.toS a w H γ F) (hd:okD g.nt (some d)=true) (h:en P E own s t d k) {r:Option Value} (hr:∀ v,r=some v->∃ κ n,v=.int κ n) :
  ∃ t' y w' γ' F',(Instr.makeMap t r).run P w=.ok y w'/\k t'/\RX g t'.toS (a.put (some d) y) w' H γ' F':=by
 have go:∀ {kt et:TypeId} {c:Tt},(ty P t).k=.mp kt et->c.toT=.mp []->k (((s.fresh (.gh d)).root (.gh d) ⟨false,[c],none⟩).put (some d) (.one (.c (.rf ⟨.gh d,0,[]⟩))))->∃ t' y w' γ' F',(Instr.makeMap t r).run P w=.ok y w'/\k t'/\RX g t'.toS (a.put (some d) y) w' H γ' F':=by
  intro kt et c ht hc hk;obtain ⟨_,td,_,hu,htd,_⟩:=aO ht (by simp);obtain rfl:=wT htd;have hn:=fd hX
  have h1:=bU hX (.gh d)
  obtain ⟨γ',F',h2,hγ⟩:=JP h1 (n:=.gh d) rfl (bA hX (.gh d));have hrun:(Instr.makeMap t r).run P w=.ok (.map (some w.heap.size)) (w.alloc (.map #[] 0)):=by
   cases r with
   | none=>rfl
   | some v=>
    obtain ⟨κ,n,rfl⟩:=hr v rfl;simp [Instr.makeMap,run_underlying hu,asInt,asIntOf,Result.andThen]
  refine ⟨_,_,_,γ',F',hrun,hk,?_⟩;have e:((s.fresh (.gh d)).root (.gh d) ⟨false,[c],none⟩).toS=⟨(s.toS.fresh (.gh d)).t,(.gh d,⟨false,[.mp []]⟩)::(s.toS.fresh (.gh d)).m⟩:=by
   rw [<- bk hn];show (⟨_,(Nm.gh d,(⟨false,[c.toT]⟩:Root))::_⟩:S)=_
   rw [hc]; rfl
  rw [<- e] at h2;refine bE (ba _ (some d) (.one (.c (.rf ⟨.gh d,0,[]⟩)))) (h2.put hd ?_);exact xb (l:=[]) (by rw [e]; simp [aa]) hγ
 unfold en at h;split at h
 ·rename_i kt et ht;split at h
  ·exact go ht rfl h
  ·exact go ht rfl h
  ·exact h.elim
 ·exact h.elim
theorem qE {p:Pl} {ku vu:U} {l:List (El ku×El vu)} (h:lE s.m p=some ⟨ku,vu,l⟩):∃ n,p=⟨n,0,[]⟩/\aa s.toS.m n=some ⟨false,[.mp (l.map (DP ku vu))]⟩:=by
 unfold lE at h;split at h
 ·rename_i n;split at h
  ·rename_i hr;cases h;exact ⟨n,rfl,aT hr⟩
  ·cases h
 ·cases h
theorem qq {n:Nm} {ku u:U} {l:List (El ku×List (El u))} {o:Option (El ku)} (h:qM s.m n=some ⟨ku,u,l,o⟩):aa s.toS.m n=some ⟨false,[.mp (moD ku u l o)]⟩:=by
 unfold qM at h;split at h
 ·rename_i hr;cases h;exact aT hr
 ·cases h
theorem qc {n:Nm} {l:List (D×Sh×D)} (hX:RX g s.toS a w H γ F) (hr:aa s.toS.m n=some ⟨false,[.mp l]⟩) {y:Value} (hy:AR w H γ s.toS.m (.one (.c (.rf ⟨n,0,[]⟩))) y) :
  ∃ b es ck,∃ f:Fp,y=.map (some b)/\γ n=.gh (.map (some b))/\w.heap[b]? = some (.map es ck)/\Stamped es ck/\MpO w H l es.toList f/\(∀ c,F n c=f c+if c=b then 1 else 0)/\f b=0:=by
 obtain ⟨b,es,ck,f,c1,c2,c3,c4,c5,c6⟩:=Pv hX.mem hr;obtain ⟨_,_,hv⟩:=hy;refine ⟨b,es,ck,f,?_,c1,c2,c3,c4,c5,c6⟩;unfold plV at hv;dsimp only at hv;rw [c1] at hv;exact (Option.some.inj hv).symm
theorem E5 {t:TypeId} {x key:At} {ok:Bool} {k:At->Prop} (hX:RX g s.toS a w H γ F) {y kv:Value} (hy:AR w H γ s.toS.m x.toV y) (hkv:AR w H γ s.toS.m key.toV kv) (h:jr P s.m t x key ok k) :
  ∃ z v,(Instr.lookup t y kv ok).run P w=.ok z w/\AR w H γ s.toS.m v.toV z/\k v:=by
 unfold jr at h;split at h
 ·rename_i kt et ht;split at h
  ·rename_i p c;split at h
   ·rename_i ku vu l hm;split at h
    ·rename_i kx hc hk;simp only [SL] at hc;obtain ⟨_,td,_,hu,htd,_⟩:=aO ht (by simp);obtain rfl:=wT htd;obtain ⟨_,kd,_,hku,hkd,_⟩:=aO rfl (lJ hc.1);obtain ⟨n,rfl,hr⟩:=qE hm;obtain ⟨b,es,ck,f,rfl,_,c2,c3,c4,_⟩:=qc hX hr hy;obtain ⟨z,_,_,_,_,zr,zf,_,zl⟩:=EC hc.2;have hkey:FDx H (am ku kx).toD kv:=by rw [cU hk] at hkv; exact hkv.2
     obtain ⟨v,e1,e2⟩:=s8 (P:=P) hu hku c2 c4 (by rw [hkd]; exact mA hc.1 _ l) (by rw [hkd]; exact iM hc.1 kx) hkey (zr w) ok;rw [uq hc.1] at e1 e2;have hv:FDx H (am vu ((aU ku l kx).getD (dflt vu))).toD v:=by
      cases hl:aU ku l kx with
      | none=>rw [hl] at e2; rw [show v=z from e2.1]; exact zf H
      | some x=>
       rw [hl] at e2;obtain ⟨_,_,_,q,_⟩:=e2;exact (cw.1 q).2
     refine ⟨_,_,e1,?_,h⟩;unfold Qn;cases ok with
     | true=>exact ⟨_,rfl,⟨fun _=>rfl,hv⟩,⟨fun _=>rfl,0,by rw [Option.isSome_map]; rfl⟩,trivial⟩
     | false=>exact ⟨fun _=>rfl,hv⟩
    ·exact h.elim
   ·exact h.elim
  ·exact h.elim
 ·exact h.elim
theorem Ju {vu:U} {tv:Tt} {vx:El vu} (hl:leaf vu=true) (h:gi vu [tv]=some vx) {m:Mm} {y:Value} (hy:TR w H γ m tv.toT (fun _=>0) y):FDx H (am vu vx).toD y:=by
 have h1:wa vu tv=some vx:=by cases vu <;> first | exact h | cases hl
 unfold wa at h1;split at h1
 ·rw [cU h1] at hy; exact hy.2
 ·split at h1
  ·simp only [SJ] at h1; subst h1;obtain ⟨_,rfl⟩:=hy;exact ig
  ·cases h1
 ·cases h1
theorem ky {s:St} {n:Nm} {c:Tt} {l:List (D×Sh×D)} (hc:c.toT=.mp l):(⟨s.nx+1,s.t,cO s.m n s.nx ⟨false,[c],none⟩⟩:St).toS=⟨s.toS.t,bD s.toS.m n ⟨false,[.mp l]⟩⟩:=by
 refine aZ.S_ext rfl ?_;show toM (cO s.m n s.nx _)=_
 rw [eD]
 congr 1
 show (⟨false,[c.toT]⟩:Root)=_
 rw [hc]
theorem Dl {t:TypeId} {x key v:At} (hX:RX g s.toS a w H γ F) {y kv vv:Value} (hy:AR w H γ s.toS.m x.toV y) (hkv:AR w H γ s.toS.m key.toV kv) (hvv:AR w H γ s.toS.m v.toV vv) (h:jj P s t x key v k) :
  ∃ t' w' F',(Instr.mapUpdate t y kv vv).run P w=.ok () w'/\k t'/\RX g t'.toS a w' H γ F':=by
 unfold jj at h;split at h
 ·rename_i kt et ht;split at h
  ·rename_i p c tv;split at h
   ·rename_i ku vu l hm;split at h
    ·rename_i kx vx hc hk hcv;simp only [SL] at hc;obtain ⟨_,td,_,hu,htd,_⟩:=aO ht (by simp);obtain rfl:=wT htd;obtain ⟨_,kd,_,hku,hkd,_⟩:=aO rfl (lJ hc.1);obtain ⟨n,rfl,hr⟩:=qE hm;obtain ⟨b,es,ck,f,rfl,c1,c2,c3,c4,c5,c6⟩:=qc hX hr hy;have hkey:FDx H (am ku kx).toD kv:=by rw [cU hk] at hkv; exact hkv.2
     have hval:FDx H (am vu vx).toD vv:=Ju hc.2 hcv hvv
     obtain ⟨es',ck',f2,e1,e2,e3,e4⟩:=u9 (P:=P) hu hku c2 c3 c4 c6 (by rw [hkd]; exact mA hc.1 _ l) (by rw [hkd]; exact iM hc.1 kx) hkey (v:=(.fr,(am vu vx).toD)) (n:=0) (fv:=fun _=>0) rfl (cw.2 ⟨fun _=>rfl,hval⟩);rw [zR hc.1 (fun v=>(.fr,(am vu v).toD))] at e4;have hge:∀ c,F n c<=tot F s.toS.m c:=fun c=>aQ (F:=F) (ab hr) c
     have:=qZ hX hr c1 c2 c5 e2 e4 (fun c=>by have:=e3 c; have:=hX.mem.le1 c; omega) (fun c hc=>by
      have h3:tot F s.toS.m c≠0:=by have:=e3 c; have:=c5 c; have:=hge c; omega
      exact ⟨hX.mem.lt c h3,hX.mem.nofz c h3,hX.fr.tt c h3⟩)
     rw [<- ky (s:=s) (c:=.mp ku vu (eh ku l kx vx)) (l:=(eh ku l kx vx).map (DP ku vu)) rfl] at this;exact ⟨_,_,_,e1,h,this⟩
    ·exact h.elim
   ·exact h.elim
  ·exact h.elim
 ·exact h.elim
theorem Fm {t tt:TypeId} {ts:List TypeId} {x key:At} (hX:RX g s.toS a w H γ F) {y kv:Value} (hy:AR w H γ s.toS.m x.toV y) (hkv:AR w H γ s.toS.m key.toV kv) (h:jN P s t x key k) :
  ∃ t' w' F',(Builtin.delete_ (t::ts).toArray tt #[y,kv]).run P w=.ok (.tuple #[]) w'/\k t'/\RX g t'.toS a w' H γ F':=by
 unfold jN at h;split at h
 ·rename_i kt et ht;split at h
  ·rename_i p c;split at h
   ·rename_i ku vu l hm;split at h
    ·rename_i kx hc hk;obtain ⟨_,td,_,hu,htd,_⟩:=aO ht (by simp);obtain rfl:=wT htd;obtain ⟨_,kd,_,hku,hkd,_⟩:=aO rfl (lJ hc);obtain ⟨n,rfl,hr⟩:=qE hm;obtain ⟨b,es,ck,f,rfl,c1,c2,c3,c4,c5,c6⟩:=qc hX hr hy;have hkey:FDx H (am ku kx).toD kv:=by rw [cU hk] at hkv; exact hkv.2
     obtain ⟨es',f2,e1,e2,e3,e4⟩:=ER (P:=P) (ty:=tt) hu hku c2 c3 c4 c6 (by rw [hkd]; exact mA hc _ l) (by rw [hkd]; exact iM hc kx) hkey (t::ts).toArray (by simp);rw [FK hc] at e4;have hge:∀ c,F n c<=tot F s.toS.m c:=fun c=>aQ (F:=F) (ab hr) c
     have:=qZ hX hr c1 c2 c5 e2 e4 (fun c=>by have:=e3 c; have:=hX.mem.le1 c; omega) (fun c hc=>by
      have h3:tot F s.toS.m c≠0:=by have:=e3 c; have:=c5 c; have:=hge c; omega
      exact ⟨hX.mem.lt c h3,hX.mem.nofz c h3,hX.fr.tt c h3⟩)
     rw [<- ky (s:=s) (c:=.mp ku vu (mX ku l kx)) (l:=(mX ku l kx).map (DP ku vu)) rfl] at this;exact ⟨_,_,_,e1,h,this⟩
    ·exact h.elim
   ·exact h.elim
  ·exact h.elim
 ·exact h.elim
theorem Dw {P:Program} {t:TypeId} {ku:U} (h:gI P t ku=true) (k:El ku):jh (am ku k).toD (am ku k).toD=true:=by
 rw [mw h];cases ku with
 | i _=>show decide (k=k)=true; simp
 | bo=>cases (k:Bool) <;> rfl
 | s=>show decide (k=k)=true; simp
 | _=>cases h
theorem Dc {t:TypeId} {x key:Operand} {d:Tmp} (hX:RX g s.toS a w H γ F) (hd:okD g.nt (some d)=true) (hx:ay x=true) (hkx:ay key=true) (h:jZ P s t x key d k) :
  ∃ t' y γ' F',(Instr.lookup t (a.eval x) (a.eval key) false).run P w=.ok y w/\k t'/\RX g t'.toS (a.put (some d) y) w H γ' F':=by
 unfold jZ at h;split at h
 ·rename_i kt et ht;dsimp only at h;have hX1:RX g (s.fresh (.gh d)).toS a w H γ F:=by rw [bk (fd hX)]; exact bU hX _
  have hn0:aa (s.fresh (.gh d)).toS.m (.gh d)=none:=by rw [bk (fd hX)]; exact bA hX _
  generalize s.fresh (.gh d)=s1 at h hX1 hn0;split at h
  ·rename_i n c hxe hke;split at h
   ·rename_i ku u l hm;split at h
    ·rename_i kx hc hk;simp only [SL] at hc;obtain ⟨_,td,_,hu,htd,_⟩:=aO ht (by simp);obtain rfl:=wT htd;obtain ⟨_,kd,_,hku,hkd,_⟩:=aO rfl (lJ hc.1);have hr:=qq hm
     have hy:=aD hX1 hx
     have hkv:=aD hX1 hkx
     rw [af hx,hxe] at hy;rw [af hkx,hke] at hkv;obtain ⟨b,es,ck,f,hyv,c1,c2,c3,c4,c5,c6⟩:=qc hX1 hr hy;obtain ⟨z,_,_,_,_,zr,_,zs,_⟩:=EC hc.2;have hkey:FDx H (am ku kx).toD (a.eval key):=by rw [cU hk] at hkv; exact hkv.2
     have hall:((moD ku u l none).all fun x=>iD (ty P kt).k x.1)=true:=mA hc.1 (nj u) l
     obtain ⟨v,e1,e2⟩:=s8 (P:=P) hu hku c2 c4 (by rw [hkd]; exact hall) (by rw [hkd]; exact iM hc.1 kx) hkey (zr w) false;have hlook:ll (moD ku u l none) (am ku kx).toD=(aU ku l kx).map (nj u):=uq hc.1 (nj u) kx l
     have fin:∀ (f1 f2:Fp) (n':Nat),(∀ c,f c=f1 c+f2 c)->OD w H n' (.ow (List.replicate (nc u) .fr)) (.li (((aU ku l kx).getD []).map (ai u))) f1 v->MpO w H (sy (moD ku u l none) (am ku kx).toD) es.toList f2 ->
       ∃ t' y γ' F',(Instr.lookup t (a.eval x) (a.eval key) false).run P w=.ok y w/\k t'/\RX g t'.toS (a.put (some d) y) w H γ' F':=by
      intro f1 f2 n' hf hod hmp;obtain ⟨γ',F',q1,q2⟩:=Jw hX1 hr c1 c2 c3 c5 hf hmp (n2:=.gh d) rfl hn0 hod;refine ⟨_,v,γ',F',by rw [hyv]; exact e1,h,?_⟩;have e3:((⟨s1.nx+1,s1.t,cO s1.m n s1.nx ⟨false,[.mo ku u l (some kx)],none⟩⟩:St).root (.gh d) ⟨false,[.ow (List.replicate (nc u) .fr) u ((aU ku l kx).getD [])],none⟩).toS=⟨s1.toS.t,(.gh d,⟨false,[.ow (List.replicate (nc u) .fr) (((aU ku l kx).getD []).map (ai u))]⟩)::bD s1.toS.m n ⟨false,[.mp (sy (moD ku u l none) (am ku kx).toD)]⟩⟩:=by
       have:=ky (s:=s1) (n:=n) (c:=.mo ku u l (some kx)) (l:=sy (moD ku u l none) (am ku kx).toD) rfl
       have h2:=congrArg S.m this
       have h1:=congrArg S.t this
       exact aZ.S_ext h1 (congrArg (List.cons _) h2)
      rw [<- e3] at q1;refine bE (ba _ (some d) (.one (.c (.rf ⟨.gh d,0,[]⟩)))) (q1.put hd (dD (sub:=List.replicate (nc u) .fr) (l:=((aU ku l kx).getD []).map (ai u)) ?_ q2));rw [e3]; simp [aa]
     rw [hlook] at e2;cases hl:aU ku l kx with
     | none=>
      rw [hl] at e2;refine fin (fun _=>0) f 1 (fun c=>(TJ _).symm) ?_ ?_
      ·rw [hl,e2.1,zs _ rfl];show OD w H 1 _ (.li []) _ _
       rw [cM]; exact .inl ⟨rfl,rfl,fun _=>rfl⟩
      ·have:sy (moD ku u l none) (am ku kx).toD=moD ku u l none:=by unfold sy; rw [hlook,hl]; rfl
       rw [this]; exact e2.2
     | some rows=>
      rw [hl] at e2;obtain ⟨n',f1,f2,q1,q2,q3⟩:=e2;refine fin f1 f2 n' q2 (by rw [hl]; exact q1) ?_;have:sy (moD ku u l none) (am ku kx).toD=gF (moD ku u l none) (am ku kx).toD ((nj u rows).1,.any):=by unfold sy; rw [hlook,hl]; rfl
      rw [this]; exact q3
    ·exact h.elim
   ·exact h.elim
  ·exact h.elim
 ·exact h.elim
theorem Dz {t:TypeId} {x key v:At} (hX:RX g s.toS a w H γ F) {y kv vv:Value} (hy:AR w H γ s.toS.m x.toV y) (hkv:AR w H γ s.toS.m key.toV kv) (hvv:AR w H γ s.toS.m v.toV vv) (h:mO P s t x key v k) :
  ∃ t' w' F',(Instr.mapUpdate t y kv vv).run P w=.ok () w'/\k t'/\RX g t'.toS a w' H γ F':=by
 unfold mO at h;split at h
 ·rename_i kt et ht;split at h
  ·rename_i n c q;split at h
   ·rename_i ku u l o sub u' rows hm hq;split at h
    ·rename_i kx rows' hc hk hcast;simp only [SL,TM,decide_eq_false_iff_not] at hc;obtain ⟨hc1,hc2,hc3⟩:=hc;obtain ⟨eu,rfl⟩:=iE hcast;subst eu;obtain rfl:=ip hc2;obtain ⟨h0,h⟩:=h;dsimp only at h;obtain ⟨_,td,_,hu,htd,_⟩:=aO ht (by simp);obtain rfl:=wT htd;obtain ⟨_,kd,_,hku,hkd,_⟩:=aO rfl (lJ hc1);have hr:=qq hm
     have hq2:aa s.toS.m q=some ⟨false,[.ow (List.replicate (nc u') .fr) (rows.map (ai u'))]⟩:=aT hq
     have hR:=hX.mem.roots _ (ab hq2)
     unfold aV at hR;dsimp only at hR;rw [if_neg (by simp)] at hR;obtain ⟨vq,tq,hγq,hcells,hTq⟩:=hR;obtain rfl:tq=.ow (List.replicate (nc u') .fr) (rows.map (ai u')):=by simpa using hcells.symm
     obtain ⟨nq,hod⟩:=hTq;have hvq:vv=vq:=by
      obtain ⟨_,_,hv⟩:=hvv;unfold plV at hv;dsimp only at hv;rw [hγq] at hv;exact (Option.some.inj hv).symm
     subst hvq;have hge:∀ c,F q c<=tot F s.toS.m c:=fun c=>aQ (F:=F) (ab hq2) c
     have hge2:∀ c,F n c+F q c<=tot F s.toS.m c:=fun c=>oo (F:=F) (ab hr) (ab hq2) (fun e=>hc3 e.symm) c
     have hXd:=lb hX q
     have ed:(s.drop q).toS=s.toS.drop q:=aZ (fd hX)
     have htd2:∀ c,tot F (s.toS.drop q).m c+F q c=tot F s.toS.m c:=fun c=>by
      show tot F (au _ _) c+_=_
      rw [aM]; exact fi hq2 c
     have hrd:aa (s.toS.drop q).m n=some ⟨false,[.mp (moD ku u' l o)]⟩:=by
      show aa (au (bv q) (aW s.toS.m q)) n=_
      rw [fZ,fh (fun e=>hc3 e.symm),hr]; rfl
     obtain ⟨b,es,ck,f,hyv,c1,c2,c3,c4,c5,c6⟩:=qc hX hr hy;subst hyv;have hkey:FDx H (am ku kx).toD kv:=by rw [cU hk] at hkv; exact hkv.2
     have hkk:=Dw hc1 kx
     have hall:((moD ku u' l o).all fun x=>iD (ty P kt).k x.1)=true:=by
      cases o with
      | none=>exact mA hc1 (nj u') l
      | some k0=>exact Oz (iM hc1 k0) (mA hc1 (nj u') l)
     have hins:gF (moD ku u' l o) (am ku kx).toD (nj u' rows)=moD ku u' (eh ku l kx rows) none:=by
      have e0:gF (l.map (Kq ku u')) (am ku kx).toD (nj u' rows)=(eh ku l kx rows).map (Kq ku u'):=zR hc1 (nj u') kx rows l
      cases o with
      | none=>exact e0
      | some k0=>
       have h0:kx=k0:=h0
       subst h0;exact (N2 hkk _ _).trans e0
     have hqb:F q b=0:=by have:=hge2 b; have:=hX.mem.le1 b; have:=c5 b; rw [if_pos rfl] at this; omega
     obtain ⟨es',ck',f2,e1,e2,e3,e4⟩:=u9 (P:=P) hu hku c2 c3 c4 c6 (by rw [hkd]; exact hall) (by rw [hkd]; exact iM hc1 kx) hkey (v:=nj u' rows) (n:=nq) (fv:=F q) hqb hod;rw [hins] at e4;have:=qZ hXd hrd c1 c2 c5 e2 e4 (fun c=>by have:=e3 c; have:=htd2 c; have:=hX.mem.le1 c; have:=hge2 c; omega) (fun c hc=>by
      have h3:tot F s.toS.m c≠0:=by have:=e3 c; have:=c5 c; have:=hge2 c; omega
      exact ⟨hX.mem.lt c h3,hX.mem.nofz c h3,hX.fr.tt c h3⟩)
     rw [<- ed,<- ky (s:=s.drop q) (c:=.mo ku u' (eh ku l kx rows) none) (l:=moD ku u' (eh ku l kx rows) none) rfl] at this;exact ⟨_,_,_,e1,h,this⟩
    ·exact h.elim
   ·exact h.elim
  ·exact h.elim
 ·exact h.elim
theorem ED {x:Operand} {d:Tmp} (hX:RX g s.toS a w H γ F) (hd:okD g.nt (some d)=true) (hx:ay x=true) (h:mR s x d k) :
  ∃ t' H' F',k t'/\RX g t'.toS (a.put (some d) (a.eval x)) w H' γ F':=by
 unfold mR at h;split at h
 ·rename_i n hxe;split at h
  ·rename_i ku u l hm;have hr:=qq hm
   have hy:=aD hX hx
   rw [af hx,hxe] at hy;obtain ⟨b,es,ck,f,hyv,c1,_⟩:=qc hX hr hy;obtain ⟨H',F',h2⟩:=Nh hX hr;have hfz:QQ (moD ku u l none)=l.map (DP ku (.sl u)):=by
    show (l.map (Kq ku u)).map _=_
    rw [SX]; rfl
   rw [hfz,<- ky (s:=s) (c:=.mp ku (.sl u) l) (l:=l.map (DP ku (.sl u))) rfl] at h2;refine ⟨_,H',F',h,bE (ba _ (some d) (.one (.c (.rf ⟨n,0,[]⟩)))) (h2.put hd ?_)⟩;rw [hyv];refine xb (l:=l.map (DP ku (.sl u))) ?_ c1;rw [ky (s:=s) (c:=.mp ku (.sl u) l) (l:=l.map (DP ku (.sl u))) rfl];show aa (bD s.toS.m n _) n=_
   rw [dQ hr,if_pos rfl]
  ·exact h.elim
 ·exact h.elim
theorem I7 (z:Value) (n:Nat):(madeCells #[z] n).toList=List.replicate n z:=by
 unfold madeCells;apply List.ext_getElem
 ·simp
 ·intro i h1 h2;simp [Nat.mod_one]
theorem vY {e:En} {t:TypeId} {n c:Operand} {d:Tmp} (hX:RX g s.toS a w H γ F) (hd:okD g.nt (some d)=true) (hno:ay n=true) (h:dE e s t (evA s n) (evA s c) (vr n c) d k) :
  ∃ t' y w' γ' F',(Instr.makeSlice t (a.eval n) (a.eval c)).run e.P w=.ok y w'/\k t'/\RX g t'.toS (a.put (some d) y) w' H γ' F':=by
 have hsame:vr n c=true->a.eval c=a.eval n:=by
  intro hs;unfold vr at hs;split at hs
  ·rw [SO hs]
  ·cases hs
 have hv:=aD hX hno
 rw [af hno] at hv;unfold dE at h;split at h
 ·rename_i el ht hs;split at h
  ·rename_i i he;rw [he] at hv;obtain ⟨hi,hw⟩:=kI hv;split at h
   ·rename_i u hu;split at h
    ·rename_i hc;simp only [SL] at hc;obtain ⟨⟨h0,h1,h2⟩,h⟩:=h;obtain ⟨_,td,_,hud,htd,_⟩:=aO ht (by simp);obtain rfl:=je htd;obtain ⟨z,it,z1,z2,z3,_,z5,z6,z7⟩:=EC hc.1.1;have hok:(ty e.P el).ok=true:=by
      cases hb:(ty e.P el).ok with
      | true=>rfl
      | false=>
       have:=SO hc.1.2
       unfold ty at hb this;rw [z1] at hb this;cases hud2:e.P.underlying el with
       | none=>rw [hud2] at this; simp at this
       | some d2=>rw [hud2] at hb; simp at hb
     obtain ⟨it',_,i1,_,_,i4,i5,_⟩:=cV hok;rw [z1] at i1;obtain rfl:=Option.some.inj i1;have hs1:it.size=1:=by rw [<- i4]; exact SO hc.1.2
     rw [i5] at h2;have hrun:=run_make_row (P:=e.P) t el it z hud z1 z2 hs1 z3 .i64 .i64 i.toNat h2 (by omega) w
     rw [Int.toNat_of_nonneg h0] at hrun;have h3:=bU hX (.gh d)
     have hn:=fd hX
     have hrow:∀ k,Cs (OD w H (k+1)) (List.replicate i.toNat ((dY e.sh el).getD [.fr])).flatten (List.replicate i.toNat [(am u (dflt u)).toD]).flatten (fun _=>0) (madeCells #[z] i.toNat).toList:=by
      intro k;rw [I7];generalize i.toNat=N;induction N with
      | zero=>exact fun _=>rfl
      | succ N ih=>
       rw [TX,TX,TX,T8,T8];have hr:=hc.2
       generalize (dY e.sh el).getD [.fr]=sub at hr ih;unfold Gp at hr;split at hr
       ·exact ⟨z,_,fun _=>0,fun _=>0,rfl,fun _=>rfl,cw.2 ⟨fun _=>rfl,z5 H⟩,ih⟩
       ·rename_i sub' u';refine ⟨z,_,fun _=>0,fun _=>0,rfl,fun _=>rfl,?_,ih⟩;show OD w H (k+1) (.ow sub') (.li []) _ z
        rw [cM];exact .inl ⟨rfl,z6 _ rfl,fun _=>rfl⟩
       ·cases hr
     have hlen1:((dY e.sh el).getD [.fr]).length=1:=by
      have hr:=hc.2
      generalize (dY e.sh el).getD [.fr]=sub at hr;unfold Gp at hr;split at hr
      ·rfl
      ·rfl
      ·cases hr
     obtain ⟨γ',F',hX2,hγ⟩:=tD h3 (n:=.gh d) rfl (bA hX (.gh d)) (cs:=madeCells #[z] i.toNat) (ty':=el) (len:=i.toNat) (cap:=i.toNat) (sub:=(dY e.sh el).getD [.fr]) (l:=List.replicate i.toNat [(am u (dflt u)).toD]) (by simp) (SN _) (by show i.toNat<=2 ^ 62; omega)
      (fun x hx=>by rw [(List.mem_replicate.1 hx).2,hlen1]; rfl) (by rw [hlen1,size_madeCells]; omega) hrow
     refine ⟨_,_,_,γ',F',by rw [hsame hs,hi]; exact hrun,h,?_⟩;have em:(List.replicate i.toNat (dflt u)).map (ai u)=List.replicate i.toNat [(am u (dflt u)).toD]:=by
      rw [List.map_replicate]
      congr 1
      rw [<- bp,iy z7]; rfl
     have e2:((s.fresh (.gh d)).root (.gh d) ⟨false,[.ow ((dY e.sh el).getD [.fr]) u (List.replicate i.toNat (dflt u))],none⟩).toS=(s.toS.fresh (.gh d)).root (.gh d) ⟨false,[.ow ((dY e.sh el).getD [.fr]) (List.replicate i.toNat [(am u (dflt u)).toD])]⟩:=by
      rw [<- em,<- bk hn]; rfl
     rw [<- e2] at hX2;refine bE (ba _ (some d) (.one (.c (.rf ⟨.gh d,0,[]⟩)))) (RX.put hX2 hd (dD (sub:=(dY e.sh el).getD [.fr]) (l:=List.replicate i.toNat [(am u (dflt u)).toD]) ?_ hγ));rw [e2];simp [S.root,aa]
    ·exact h.elim
   ·exact h.elim
  ·exact h.elim
 ·exact h.elim
end
end Go.Am
end

section
namespace Go.Am
section
variable {P:Program} {g:G} {s:S} {a:Act} {w:World} {H:FH} {γ:Gam} {F:Nm->Fp}
theorem Eg (h:RX g s a w H γ F) {n:Nm} (hno:n.isOut=false) (hn:aa s.m n=none) {cs:Array Value} {ty':TypeId} {sub:List Sh} {row:List D} {k:Nat} {f:Fp} (hx:row.length=sub.length) (hsz:cs.size=sub.length)
  (hcs:Cs (OD w H k) sub row f cs.toList) (hd:∀ b,tot F s.m b+f b<=1) (hl:∀ b,f b≠0->b<w.heap.size/\(∀ o,H b o=none)/\(g.own0 b≠0\/g.w0.heap.size<=b)) :
  ∃ γ' F',RX g (s.root n ⟨false,[.ow sub [row]]⟩) a (w.alloc (.cells cs ty')) H γ' F'/\γ' n=.gh (.slice (some ⟨w.heap.size,0,none⟩) 1 1):=by
 obtain ⟨hm,hf,hK,hH⟩:=mN h.mem cs ty' false;simp only [SV,false_and,if_false] at hm hf hK hH;have hX:RX g s a (w.alloc (.cells cs ty')) H γ F:=dP h hm hf (fun i=>bu hK (fun _ _ _ h=>h) (h.t i)) (fun _=>rfl)
 have hz:tot F s.m w.heap.size=0:=by
  rcases S7 (tot F s.m w.heap.size) with h' | h'
  ·exact h'
  ·have:=h.mem.lt w.heap.size (by omega); omega
 have hfz:f w.heap.size=0:=by
  rcases S7 (f w.heap.size) with h' | h'
  ·exact h'
  ·have:=(hl w.heap.size (by omega)).1; omega
 have hHz:∀ o,H w.heap.size o=none:=by
  intro o;cases hc:H w.heap.size o with
  | none=>rfl
  | some y=>have:=World.block_lt_of_cell? _ _ (h.mem.agree _ _ _ hc); simp at this
 have hcs':Cs (OD (w.alloc (.cells cs ty')) H k) sub row f cs.toList:=
  fJ _ _ _ _ (fun s x g v hg hod=>be (fun _ _ _ h=>h) k k _ _ _ _ (SN _) (fun b hb=>cp (hl b (by have:=hg b; omega)).1) hod) hcs
 have hod:TR (w.alloc (.cells cs ty')) H γ s.m (.ow sub [row]) (fun b=>f b+if b=w.heap.size then 1 else 0) (.slice (some ⟨w.heap.size,0,none⟩) 1 1):=by
  refine ⟨k+1,qy (l:=[row]) (c:=1) (br) rfl (by rw [hsz]; simp) (SN _) (by show 1<=4611686018427387904; omega) (fun x hx'=>by obtain rfl:=SY.1 hx'; exact hx) ?_⟩;simpa using hcs'
 have hsize:(w.alloc (.cells cs ty')).heap.size=w.heap.size+1:=by show (w.heap.push _).size=_; simp
 refine di hX hno hn hod (fun b=>?_) (fun b hb=>?_) (fun b hb=>?_)
 ·by_cases hb:b=w.heap.size
  ·subst hb; rw [hz,hfz]; simp
  ·rw [if_neg hb]; have:=hd b; omega
 ·by_cases hb':b=w.heap.size
  ·subst hb'; exact ⟨by omega,hHz⟩
  ·rw [if_neg hb'] at hb;have:=hl b (by omega)
   exact ⟨by omega,this.2.1⟩
 ·by_cases hb':b=w.heap.size
  ·subst hb'; right; exact h.fr.size
  ·rw [if_neg hb'] at hb;exact (hl b (by omega)).2.2
end
theorem wI:∀ {ts:List Tt} {i j:Nat} {q:Pl},tH ts i=some (j,q)->i<=j/\ts[j-i]? = some (.rf q)
 | [],_,_,_,h=>by cases h
 | t::r,i,j,q,h=>by
  have next:tH r (i+1)=some (j,q)->i<=j/\(t::r)[j-i]? = some (.rf q):=fun h=>by
   obtain ⟨h1,h2⟩:=wI h;refine ⟨by omega,?_⟩;rw [show j-i=(j - (i+1))+1 from by omega,TG];exact h2
  cases t with
  | rf q'=>
   simp only [tH,SJ,Prod.mk.injEq] at h;obtain ⟨rfl,rfl⟩:=h;exact ⟨SN _,by simp⟩
  | _=>exact next h
theorem B9 {n:Nat} {us z:Array Value} (hu:us.size=n) (hz:z.size=1*n):Instr.fill (fun i=>some (i*n,n)) z [(0,.agg us)]=some us:=by
 have hc:(Value.agg us).cells=us:=rfl
 simp only [Instr.fill,hc];rw [if_neg (by simp [hu,hz])]
 congr 1
 have key:∀ (k:Nat) (l:List Value) (z:Array Value),k+l.length<=z.size->((l.zipIdx k).foldl (fun cs (x:Value×Nat)=>cs.setIfInBounds (0*n+x.2) x.1) z).toList=z.toList.take k++l++z.toList.drop (k+l.length):=by
  intro k l;induction l generalizing k with
  | nil=>intro z _; simp
  | cons x l ih=>
   intro z hk;simp only [SU] at hk;simp only [List.zipIdx_cons,List.foldl_cons];rw [ih (k+1) _ (by simp; omega)];simp only [Nat.zero_mul,TJ,Array.toList_setIfInBounds];rw [List.take_set,List.drop_set_of_lt (by omega)];have h1:(z.toList.take (k+1)).set k x=z.toList.take k++[x]:=by
    rw [List.take_add_one,List.set_append_right _ _ (by simp; omega)];have:z.toList[k]? = some (z.toList[k]'(by simp; omega)):=SK _
    have hmin:k-min k z.size=0:=by omega
    rw [this];simp [hmin]
   rw [h1];simp only [SU,TL,TY,Tz,TZ];rw [show k+1+l.length=k+(l.length+1) from by omega]
 apply Array.ext'
 have e:us.zipIdx.foldl (fun cs (x:Value×Nat)=>cs.setIfInBounds (0*n+x.2) x.1) z=(us.toList.zipIdx 0).foldl (fun cs (x:Value×Nat)=>cs.setIfInBounds (0*n+x.2) x.1) z:=by
  rw [<- Array.foldl_toList,Array.toList_zipIdx]
 rw [e,key 0 us.toList z (by simp; omega)];simp;omega
section
variable {P:Program} {g:G} {s:St} {a:Act} {w:World} {H:FH} {γ:Gam} {F:Nm->Fp} {k:St->Prop}
theorem se {E:Ut} {sub:List Sh} {t:TypeId} {len:Nat} {ps:Array (Nat×Operand)} {d:Tmp} (hX:RX g s.toS a w H γ F) (hd:okD g.nt (some d)=true) (hps:(ps.toList.all fun x=>ay x.2)=true) (h:cG P E sub s t len ps d k) :
  ∃ t' y w' γ' F',(Instr.buildSlice t len (ps.map fun (i,x)=>(i,a.eval x))).run P w=.ok y w'/\k t'/\RX g t'.toS (a.put (some d) y) w' H γ' F':=by
 unfold cG at h;split at h
 ·rename_i e ht;split at h
  ·rename_i u z ts he hz hp;split at h
   ·rename_i j q hj;split at h
    ·rename_i sub' sh2 u' l2 hsj hsl;split at h
     ·rename_i s1 sub3 l' hb;split at h
      ·rename_i l hc hl;simp only [SL] at hc;obtain ⟨⟨⟨⟨⟨⟨c1,c2⟩,c3⟩,c4⟩,c5⟩,c6⟩,c7,c8,c9⟩:=hc;have hsz:=SO c2
       obtain rfl:=SO c4;have hsl5:=SO c5
       have htl:=SO c6
       obtain rfl:=ip c7;obtain ⟨pl⟩:=ps;have hp1:pl.map (fun x=>(x.1,evA s x.2))=[(0,.one (.agg ts))]:=hp
       match pl,hp1,hps with
       | [],hp1,_=>cases hp1
       | _::_::_,hp1,_=>simp at hp1
       | [(i,x)],hp1,hps=>
       simp only [List.map_cons,List.map_nil,List.cons.injEq,Prod.mk.injEq,and_true] at hp1;obtain ⟨rfl,hx⟩:=hp1;have hop:ay x=true:=by simpa using hps
       have hv:=aD hX hop
       rw [af hop,hx] at hv;obtain ⟨cs,hcs1,hcs2,hcs3⟩:=hv;have hcs2:cs.size=ts.length:=by simpa using hcs2
       obtain ⟨_,hjj⟩:=wI hj;rw [Ux] at hjj;have hjl:j<ts.length:=(Tl.1 hjj).1
       have hjT:(ts.map Tt.toT)[j]? = some (.rf q):=by rw [SM,hjj]; rfl
       obtain ⟨_,v,gv,_,hv1,hv2,hv3⟩:=lr hcs3 hjT;have hvr:AR w H γ s.toS.m (.one (.c (.rf q))) v:=⟨fun _=>rfl,hv2.2⟩
       have hnd:=fd hX
       obtain ⟨b1,b2,_⟩:=iL (size:=nc u') rfl hnd (fun q' hq'=>by
        cases hq';exact kD hv2.2.1) hb
       obtain ⟨kb,f,F1,k1,k2,k3,k4,k5⟩:=iB hX hvr b1;have hfz:=pD c9
       obtain ⟨_,_,_,fk,fr,_,_,_,a4,_,a6,_⟩:=bW _ _ _ _ j hcs3 (by simpa using hjl);have hT2:Ts (TR w H γ s.toS.m) ((ts.set j .nil).map Tt.toT) (fun _=>0) (cs.toList.set j (.slice none 0 0)):=by
        have:=a6 (fun _=>TR w H γ s.toS.m) .nil (.slice none 0 0) (fun _=>0) (fun _ _ _ _ _ h=>h) ⟨fun _=>rfl,rfl⟩
        unfold Ts;rw [List.length_map,S3];rw [List.length_map] at this;rw [Tv];exact kf (fun b=>by have:=a4 b; omega) this
       have hC:=yY (k:=kb) (fun _=>rfl) hfz hT2
       obtain ⟨sj,_,_,fk2,fr2,d1,_,_,d4,_,d6,_⟩:=bW _ _ _ _ j hC (by simpa using hjl);rw [hsj] at d1;obtain rfl:=Option.some.inj d1;have hC2:=d6 (OD w H (kb+1)) (.li (l'.map (ai u'))) v f (fun _ _ _ _ _ h=>h) (be (fun _ _ _ h=>h) kb (kb+1) _ _ _ _ (TE _) (fun _ _=>rfl) k1)
       rw [TU,show cs.toList.set j v=cs.toList from kp hv1] at hC2;have hrow:=kP hl
       simp only [List.map_cons,List.map_nil] at hrow
       match l,hl,hrow,h with
       | [],_,hrow,_=>cases hrow
       | _::_::_,_,hrow,_=>simp at hrow
       | [y],hl,hrow,h=>
       simp only [List.map_cons,List.map_nil,List.cons.injEq,and_true] at hrow;have e1:((ts.set j .nil).map fun t=>t.toT.fz).set j (.li (l'.map (ai u')))=ai u y:=by
        rw [<- hrow,Tv,TU,Tv];rfl
       rw [e1] at hC2;have hn2:=bU k2 (.gh d)
       have hts:∀ b,tot F1 (s1.toS.fresh (.gh d)).m b<=tot F1 s1.toS.m b:=by
        intro b;unfold S.fresh;split
        ·exact SN _
        ·show tot F1 (au _ _) b<=_
         rw [aM]; exact dh
       obtain ⟨_,td,_,hud,htd,_⟩:=aO ht (by simp);obtain rfl:=je htd;obtain ⟨ie,de,hie,_,_,hsize,_,_⟩:=cV c1;obtain ⟨it',z0,hi',hz0,_,_⟩:=f7 hz;rw [hie] at hi';obtain rfl:ie=it':=by simpa using hi'
       have hnc:ie.size=nc u:=by rw [<- hsize,<- hsz]
       obtain ⟨us,cs',r1,r2,r3⟩:=eE (P:=P) (w:=w) (t:=t) (len:=1) (vs:=#[(0,a.eval x)]) (cells:=#[]) hud hie hz0 (by rw [hnc]; have:=SP c3; omega) (fun us hus=>by
        refine ⟨cs,?_,by rw [hcs2,htl,hnc]; omega,.inr trivial⟩;rw [hcs1];exact B9 (by rw [hcs2,htl,hnc]) hus)
       have hfill:Instr.fill (fun i=>some (i*ie.size,ie.size)) us #[(0,a.eval x)].toList=some cs:=by
        rw [hcs1];exact B9 (by rw [hcs2,htl,hnc]) r1
       rw [hfill] at r2;obtain rfl:=Option.some.inj r2;obtain ⟨γ',F',hX4,hγ⟩:=Eg (ty':=e) hn2 (n:=.gh d) rfl (bA k2 (.gh d)) (by rw [gJ,hsl5]) (by rw [hcs2,htl,hsl5]) (kf (f:=fun b=>f b+fr2 b) (g:=f) (fun b=>by have:=d4 b; omega) hC2)
        (fun b=>by have h1:=hts b; have h2:=k4 b; have h3:=hX.mem.le1 b; omega) k5
       have e2:((s1.fresh (.gh d)).root (.gh d) ⟨false,[.ow sub u [y]],none⟩).toS=(s1.toS.fresh (.gh d)).root (.gh d) ⟨false,[.ow sub [ai u y]]⟩:=by
        rw [<- bk b2]; rfl
       rw [<- e2] at hX4;refine ⟨_,_,_,γ',F',by rw [show (Array.map (fun (x:Nat×Operand)=>(x.1,a.eval x.2)) ⟨[(0,x)]⟩)=#[(0,a.eval x)] from by simp]; exact r3,h,?_⟩;refine bE (ba _ (some d) (.one (.c (.rf ⟨.gh d,0,[]⟩)))) (RX.put hX4 hd (dD (sub:=sub) (l:=[ai u y]) ?_ hγ));rw [e2];simp [S.root,aa]
      ·exact h.elim
     ·exact h.elim
    ·exact h.elim
   ·exact h.elim
  ·exact h.elim
 ·exact h.elim
theorem w9 {α β:Type} {R:α->β->Fp->Value->Prop}:∀ (a:List α) (c:List β) {b:List α} {d:List β} {f:Fp} {vs:List Value},a.length=c.length->Cs R (a++b) (c++d) f vs->∃ f':Fp,Cs R a c f' vs/\∀ x,f' x<=f x
 | [],[],_,_,_,_,_,_=>⟨fun _=>0,fun _=>rfl,fun _=>Tf _⟩
 | x::a,y::c,b,d,f,vs,hl,h=>by
  obtain ⟨v,r,f1,f2,h1,h2,h3,h4⟩:=h;obtain ⟨f',k1,k2⟩:=w9 a c (by simpa using hl) h4;exact ⟨fun q=>f1 q+f' q,⟨v,r,f1,f',h1,fun _=>rfl,h3,k1⟩,fun q=>by have:=h2 q; have:=k2 q; dsimp only; omega⟩
 | [],_::_,_,_,_,_,hl,_=>by simp at hl
 | _::_,[],_,_,_,_,hl,_=>by simp at hl
theorem Oj {k:Nat} {sub:List Sh} {l:List (List D)} {f:Fp} {v:Value} {m:Nat} (hm:m<=l.length) (h:OD w H k (.ow sub) (.li l) f v) :
  ∃ ad c,v=.slice ad l.length c/\l.length<=c/\(∀ b,ad=some b->b=⟨b.block,0,none⟩)/\∃ f':Fp,OD w H k (.ow sub) (.li (l.take m)) f' (.slice ad m c)/\∀ x,f' x<=f x:=by
 cases k with
 | zero=>simp [OD] at h
 | succ k=>
 rw [cM] at h;rcases h with ⟨rfl,rfl,h0⟩ | ⟨b,c,cs,ty,fr,g',h1,h2,h3,h4,h5,h6,h7,h8,h9⟩
 ·obtain rfl:m=0:=by simpa using hm
  exact ⟨none,0,rfl,SN _,(fun b hb=>by cases hb),f,cM.2 (.inl ⟨rfl,rfl,h0⟩),fun _=>SN _⟩
 ·subst h1;have e1:(List.replicate l.length sub).flatten=(List.replicate m sub).flatten++(List.replicate (l.length-m) sub).flatten:=by
   rw [<- List.flatten_append,List.replicate_append_replicate,Nat.add_sub_cancel' hm]
  have e2:l.flatten=(l.take m).flatten++(l.drop m).flatten:=by rw [<- List.flatten_append,List.take_append_drop]
  have hlen:(l.take m).length=m:=by rw [TF]; omega
  have h7':∀ x∈l.take m,x.length=sub.length:=fun x hx=>h7 x (List.mem_of_mem_take hx)
  rw [e1,e2] at h8;obtain ⟨f',k1,k2⟩:=w9 _ _ (by rw [bI _ _ h7',hlen]; simp) h8;refine ⟨_,c,rfl,h5,fun b' hb=>by cases hb; rfl,fun x=>f' x+if x=b then 1 else 0,cM.2 (.inr ⟨b,c,cs,ty,fr,f',by rw [hlen],h2,h3,h4,by omega,by omega,h7',by rw [hlen]; exact k1,fun _=>rfl⟩),fun x=>by have:=h9 x; have:=k2 x; dsimp only; omega⟩
theorem BK {e:En} {t:TypeId} {x hi:Operand} {d:Tmp} (hX:RX g s.toS a w H γ F) (hd:okD g.nt (some d)=true) (hx:ay x=true) (hhi:ay hi=true) (h:kw e s t x hi d k) :
  ∃ t' y γ' F',(∀ w:World,(Instr.sliceAt t (a.eval x) none (some (a.eval hi)) none).run e.P w=.ok y w)/\k t'/\RX g t'.toS (a.put (some d) y) w H γ' F':=by
 unfold kw at h;split at h
 ·rename_i el ht;split at h
  ·rename_i q n hxe hne;split at h
   ·rename_i u0 l0 _;split at h
    ·rename_i s1 sub l hok hb;obtain ⟨⟨n0,n1⟩,h⟩:=h;have hy:=aD hX hx
     have hn:=aD hX hhi
     rw [af hx,hxe] at hy;rw [af hhi,hne] at hn;obtain ⟨b1,b2,_⟩:=iL (size:=nc u0) rfl (fd hX) (fun q' hq'=>by
      cases hq';exact kD hy.2.1) hb
     obtain ⟨kb,f,F1,k1,k2,k3,k4,k5⟩:=iB hX hy b1;obtain ⟨ad,c,hv,hc,had,f',q1,q2⟩:=Oj (m:=n.toNat) (by rw [List.length_map]; exact n1) k1;rw [List.length_map] at hv hc;obtain ⟨_,td,_,hud,htd,_⟩:=aO ht (by simp);obtain rfl:=je htd;obtain ⟨i,de,hi',_⟩:=cV hok;obtain ⟨a',b',⟨rfl,rfl,_⟩,hbr⟩:=iW (P:=e.P) (isS:=true) (len:=l.length) (cap:=c) (vlo:=none) (lo:=none) (k:=fun a b=>a=0/\b=n.toNat/\b<=l.length) trivial (show Kd w H γ s.toS.m (some (At.one (.c (.d (.i .i64 n)))).toV) (some (a.eval hi)) from hn) hc (show fA none 0 _ from ⟨n0,rfl,rfl,n1⟩) (fun a b h=>by omega);have hrun:∀ w:World,(Instr.sliceAt t (a.eval x) none (some (a.eval hi)) none).run e.P w=.ok (.slice ad n.toNat c) w:=by
      intro w;rw [hv];simp only [Instr.sliceAt,Sem.run_bind,run_underlying hud,Result.andThen_ok];simp only [Instr.slice,Sem.run_bind,run_underlying hud,Result.andThen_ok,hbr,bc hi',Sem.run_pure]
      congr 2
      cases ad with
      | none=>simp
      | some ad=>
       rw [had ad rfl];simp [bO]
     have hn2:=bU k2 (.gh d)
     have hts:∀ b,tot F1 (s1.toS.fresh (.gh d)).m b<=tot F1 s1.toS.m b:=by
      intro b;unfold S.fresh;split
      ·exact SN _
      ·show tot F1 (au _ _) b<=_
       rw [aM]; exact dh
     obtain ⟨γ',F',hX4,hγ⟩:=di hn2 (n:=.gh d) rfl (bA k2 (.gh d)) (v:=.slice ad n.toNat c) (t:=.ow sub ((l.take n.toNat).map (ai u0))) (f:=f') ⟨kb,by rw [Ug]; exact q1⟩
      (fun b=>by have h1:=hts b; have h2:=k4 b; have h3:=hX.mem.le1 b; have:=q2 b; omega) (fun b hb=>by have:=q2 b; exact ⟨(k5 b (by omega)).1,(k5 b (by omega)).2.1⟩) (fun b hb=>(k5 b (by have:=q2 b; omega)).2.2)
     have e2:((s1.fresh (.gh d)).root (.gh d) ⟨false,[.ow sub u0 (l.take n.toNat)],none⟩).toS=⟨(s1.toS.fresh (.gh d)).t,(.gh d,⟨false,[.ow sub ((l.take n.toNat).map (ai u0))]⟩)::(s1.toS.fresh (.gh d)).m⟩:=by
      rw [<- bk b2]; rfl
     rw [<- e2] at hX4;refine ⟨_,_,γ',F',hrun,h,?_⟩;refine bE (ba _ (some d) (.one (.c (.rf ⟨.gh d,0,[]⟩)))) (RX.put hX4 hd (dD (sub:=sub) (l:=(l.take n.toNat).map (ai u0)) ?_ hγ));rw [e2];simp [aa]
    ·exact h.elim
   ·exact h.elim
  ·exact h.elim
 ·exact h.elim
end
end Go.Am
end

section
namespace Go.Am
abbrev chn (v:Value):List PanicEntry:=[{ v,recovered:=false }]
def gr (g:G) (a:Act) (pk:PKt) (k:St->At->Prop) (e:Ending) (w':World):Prop:=
 (∃ r s' av H' γ' F',e=.returned r/\k s' av/\AR w' H' γ' (toM s'.m) av.toV r/\RX g s'.toS a w' H' γ' F') \/
 ∃ v s',e=.panicked (chn v)/\pk v s'/\R g s'.toS a w'
structure Cont (P:Program) (f:Nat) (C:CKt):Prop where
 run:∀ args w,(callFunc f args).run P w=.ok (.enter f args) w
 ext:∀ (pk:PKt) (s:St) (ops:List Operand) (k k':St->At->Prop),(∀ s' v,Ext s s'->k s' v->k' s' v)->C pk s ops k->C pk s ops k'
 call:∀ (g:G) (pk:PKt) (s:St) (a:Act) (w:World) (H:FH) (γ:Gam) (F:Nm->Fp) (ops:List Operand) (k:St->At->Prop),RX g s.toS a w H γ F->ops.all ay=true->C pk s ops k ->
  Calls P f (ops.map a.eval).toArray w (gr g a pk k)
def En.ok (e:En):Prop:=∀ x∈e.cs,Cont e.P x.1 x.2
theorem En.ok_get {e:En} (h:e.ok) {f:Nat} {C:CKt} (hg:e.cs.get f=some C):Cont e.P f C:=by
 have:∀ cs:CTt,(∀ x∈cs,Cont e.P x.1 x.2)->cs.get f=some C->Cont e.P f C:=by
  intro cs;induction cs with
  | nil=>intro _ h; cases h
  | cons x cs ih=>
   obtain ⟨f',C'⟩:=x;intro h hg2;simp only [CTt.get] at hg2;split at hg2
   ·rename_i hb;have:=SO hb
    subst this;have hg':C'=C:=by simpa using hg2
    subst hg';exact h (f',C') (by simp)
   ·exact ih (fun y hy=>h y (S4 _ hy)) hg2
 exact this e.cs h hg
section
variable {k k':At->Prop}
theorem Ey {c x y:At} (hk:∀ v,k v->k' v) (h:rk c x y k):rk c x y k':=by
 unfold rk at h ⊢
 (repeat' split at h) <;> first | exact h.elim | exact hk _ h | exact ⟨h.1,hk _ h.2⟩ | (simp_all; done)
theorem IF {op:BinOp} {κ:IntKind} {a b:Int} {K K':C->Prop} (hk:∀ v,K v->K' v) (h:Ep op κ a b K):Ep op κ a b K':=by
 unfold Ep at h ⊢;cases op <;> first | exact hk _ h | exact ⟨h.1,hk _ h.2⟩
theorem JR {op:BinOp} {x y:C} {K K':C->Prop} (hk:∀ v,K v->K' v) (h:Dg op x y K):Dg op x y K':=by
 unfold Dg at h ⊢;split at h
 ·split at h <;> first | exact h.elim | exact hk _ h | exact ⟨h.1,hk _ h.2⟩
 ·split at h
  ·split at h
   ·rename_i hc; rw [if_pos hc]; exact IF hk h
   ·exact h.elim
  ·exact h.elim
theorem Jl {P:Program} {op:BinOp} {t:TypeId} {x y:At} (hk:∀ v,k v->k' v) (h:C7 P op t x y k):C7 P op t x y k':=by
 unfold C7 at h ⊢
 (repeat' split at h) <;> first | exact h.elim | exact hk _ h | exact ⟨h.1,hk _ h.2⟩ | exact JR (fun v hv=>hk _ hv) h | (simp_all; done)
theorem Lm {op:UnOp} {x:At} (hk:∀ v,k v->k' v) (h:unT op x k):unT op x k':=by
 unfold unT at h ⊢
 (repeat' split at h) <;> first | exact h.elim | exact hk _ h | exact ⟨h.1,hk _ h.2⟩ | (simp_all; done)
theorem wl {x:At} {i:Nat} (hk:∀ v,k v->k' v) (h:gN x i k):gN x i k':=by
 unfold gN at h ⊢
 (repeat' split at h) <;> first | exact h.elim | exact hk _ h | exact ⟨h.1,hk _ h.2⟩ | (simp_all; done)
theorem Bx {x i:At} (hk:∀ v,k v->k' v) (h:lN x i k):lN x i k':=by
 unfold lN at h ⊢
 (repeat' split at h) <;> first | exact h.elim | exact hk _ h | exact ⟨h.1,hk _ h.2⟩ | (simp_all; done)
theorem fj {y:Option At} {d:Nat} {k1 k2:Nat->Prop} (hk:∀ n,k1 n->k2 n) (hb:dZ y d k1):dZ y d k2:=by
 unfold dZ at hb ⊢;split at hb
 ·exact hk _ hb
 ·exact ⟨hb.1,hk _ hb.2⟩
 ·exact hb.elim
theorem Ba {P:Program} {t:TypeId} {x:At} {lo hi:Option At} (hk:∀ v,k v->k' v) (h:lQ P t x lo hi k):lQ P t x lo hi k':=by
 unfold lQ at h ⊢;split at h
 ·split at h
  ·exact fj (fun a ha=>fj (fun b hb=>⟨hb.1,hk _ hb.2⟩) ha) h
  ·exact h.elim
 ·split at h
  ·skip
   split at h
   ·exact fj (fun a ha=>fj (fun b hb=>⟨hb.1,hk _ hb.2⟩) ha) h
   ·exact h.elim
  ·exact h.elim
 ·split at h
  ·skip
   split at h
   ·exact fj (fun a ha=>fj (fun b hb=>⟨hb.1,hb.2.1,hk _ hb.2.2⟩) ha) h
   ·exact h.elim
  ·exact h.elim
 ·exact h.elim
theorem sb {P:Program} {m:List (Nm×Nat×Rt)} {t:TypeId} {x:At} {i:Nat} (hk:∀ v,k v->k' v) (h:dL P m t x i k):dL P m t x i k':=by
 unfold dL at h ⊢;split at h
 ·skip
  split at h
  ·skip
   split at h
   ·split at h
    ·exact hk _ h
    ·exact h.elim
   ·exact hk _ h
   ·exact h.elim
  ·exact h.elim
 ·exact h.elim
theorem sg {P:Program} {m:List (Nm×Nat×Rt)} {t:TypeId} {x i:At} (hk:∀ v,k v->k' v) (h:dH P m t x i k):dH P m t x i k':=by
 unfold dH at h ⊢;split at h
 ·split at h
  ·skip
   split at h
   ·split at h
    ·exact ⟨h.1,hk _ h.2⟩
    ·exact h.elim
   ·split at h
    ·skip
     split at h
     ·skip
      split at h
      ·exact ⟨h.1,hk _ h.2⟩
      ·exact h.elim
     ·exact h.elim
    ·exact h.elim
   ·exact h.elim
  ·skip
   split at h
   ·split at h
    ·exact ⟨h.1,hk _ h.2⟩
    ·exact h.elim
   ·split at h
    ·exact ⟨h.1,hk _ h.2⟩
    ·exact h.elim
   ·exact h.elim
  ·exact h.elim
 ·exact h.elim
theorem Ds {P:Program} {m:List (Nm×Nat×Rt)} {t:TypeId} {x:At} (hk:∀ v,k v->k' v) (h:jH P m t x k):jH P m t x k':=by
 unfold jH at h ⊢;split at h
 ·skip
  split at h
  ·split at h
   ·skip
    split at h
    ·exact hk _ h
    ·exact h.elim
   ·skip
    split at h
    ·exact hk _ h
    ·exact h.elim
  ·split at h
   ·exact ⟨h.1,hk _ h.2⟩
   ·exact h.elim
  ·split at h
   ·skip
    split at h
    ·exact hk _ h
    ·exact h.elim
   ·skip
    split at h
    ·exact hk _ h
    ·exact h.elim
  ·exact h.elim
 ·exact h.elim
theorem Au {P:Program} {t:TypeId} {x:At} {i:Nat} (hk:∀ v,k v->k' v) (h:lV P t x i k):lV P t x i k':=by
 unfold lV at h ⊢;split at h
 ·skip
  split at h
  ·skip
   split at h
   ·exact hk _ h
   ·exact h.elim
  ·skip
   split at h
   ·exact hk _ h
   ·exact h.elim
  ·exact h.elim
 ·exact h.elim
theorem uk {x:At} (hk:∀ v,k v->k' v) (h:fg x k):fg x k':=by
 unfold fg at h ⊢;split at h
 ·exact hk _ h
 ·exact hk _ h
 ·exact hk _ h
 ·exact h.elim
theorem By {P:Program} {t:TypeId} {ps:List (Nat×At)} (hk:∀ v,k v->k' v) (h:mv P t ps k):mv P t ps k':=by
 unfold mv at h ⊢;split at h
 ·skip
  split at h
  ·exact hk _ h
  ·exact h.elim
 ·exact h.elim
theorem DC {P:Program} {su du:TypeId} {x:At} (hk:∀ v,k v->k' v) (h:ro P su du x k):ro P su du x k':=by
 unfold ro at h ⊢;split at h
 ·skip
  split at h
  ·split at h
   ·exact hk _ h
   ·exact h.elim
  ·exact h.elim
 ·skip
  split at h
  ·skip
   split at h
   ·exact hk _ h
   ·exact hk _ h
   ·exact h.elim
  ·exact h.elim
 ·exact h.elim
theorem yq {e:En} {o:Oper} {s:St} (hk:∀ v,k v->k' v) (h:qT e o s k):qT e o s k':=by
 unfold qT at h ⊢;cases ho:o.op with
 | move x=>rw [ho] at h; exact hk _ h
 | assign x=>rw [ho] at h; exact hk _ h
 | pick c x y=>rw [ho] at h; exact Ey hk h
 | binOp op t x y z=>rw [ho] at h; exact Jl hk h
 | unOp op t x=>rw [ho] at h; exact Lm hk h
 | load t x=>rw [ho] at h; exact Ds hk h
 | field t x i=>rw [ho] at h; exact Au hk h
 | fieldAddr t x i=>rw [ho] at h; exact sb hk h
 | indexAddr t x i=>rw [ho] at h; exact sg hk h
 | index t x i=>
  rw [ho] at h;dsimp only at h ⊢;split at h
  ·exact Bx hk h
  ·exact h.elim
 | extract x i=>rw [ho] at h; exact wl hk h
 | convert su du x=>rw [ho] at h; exact DC hk h
 | slice t x lo hi mx=>
  rw [ho] at h;cases mx with
  | some _=>exact h.elim
  | none=>exact Ba hk h
 | nilCheck x=>rw [ho] at h; exact uk hk h
 | build t ps=>rw [ho] at h; exact By hk h
 | call c=>
  rw [ho] at h;dsimp only at h ⊢;split at h
  ·skip
   split at h
   ·exact wO (fun n hn=>hk _ hn) h
   ·exact h.elim
  ·exact h.elim
 | _=>rw [ho] at h; exact h.elim
end
section
variable {k k':St->Prop} {s:St}
theorem Dn {P:Program} {t:TypeId} {d:Tmp} (hk:∀ s',Ext s s'->k s'->k' s') (h:mb P s t d k):mb P s t d k':=by
 unfold mb at h ⊢;split at h
 ·skip
  split at h
  ·exact hk _ (((bx _ _).trans (ce _ _ _)).trans (aI _ _ _)) h
  ·exact h.elim
 ·exact h.elim
theorem Lg {x:Operand} {d:Tmp} (hk:∀ s',Ext s s'->k s'->k' s') (h:Bg s x d k):Bg s x d k':=by
 unfold Bg at h ⊢;split at h
 ·skip
  split at h
  ·exact hk _ (((bx _ _).trans (ce _ _ _)).trans (aI _ _ _)) h
  ·exact h.elim
 ·exact h.elim
theorem sA {P:Program} {E:Ut} {t:TypeId} {n:Nat} {ps:Array (Nat×Operand)} {d:Tmp} (hk:∀ s',Ext s s'->k s'->k' s') (h:cW P E s t n ps d k):cW P E s t n ps d k':=by
 unfold cW at h ⊢;split at h
 ·skip
  split at h
  ·skip
   split at h
   ·skip
    dsimp only at h ⊢;split at h
    ·skip
     split at h
     ·skip
      exact hk _ ((((bG _ _).trans (bx _ _)).trans (ce _ _ _)).trans (aI _ _ _)) h
     ·exact h.elim
    ·exact h.elim
   ·exact h.elim
  ·exact h.elim
 ·exact h.elim
theorem uu {p:Pl} {t:Tt} (hk:∀ s',Ext s s'->k s'->k' s') (h:vW s p t k):vW s p t k':=by
 unfold vW at h ⊢;split at h
 ·exact h.elim
 ·skip
  split at h
  ·skip
   split at h
   ·exact hk _ ⟨TE _,fun _ _ _ h _=>h,cF _ _ (SN _) _⟩ h
   ·exact h.elim
  ·skip
   split at h
   ·exact mD (hk _ ⟨TE _,fun _ _ _ h _=>h,cF _ _ (SN _) _⟩) h
   ·exact h.elim
  ·skip
   split at h
   ·skip
    split at h
    ·exact mD (rM (hk _ ⟨TE _,fun _ _ _ h _=>h,cF _ _ (SN _) _⟩)) h
    ·exact h.elim
   ·exact h.elim
  ·exact h.elim
theorem ju:∀ {ts:List Tt} {s:St} {p:Pl},(∀ s',Ext s s'->k s'->k' s')->fQ s p ts k->fQ s p ts k'
 | [],s,p,hk,h=>hk _ (Ext.refl s) h
 | t::ts,s,p,hk,h=>by
  cases t with
  | rf q=>
   simp only [fQ] at h ⊢;split at h
   ·skip
    split at h
    ·skip
     exact uu (fun s' he hs'=>ju (fun s'' he'=>hk s'' (((oH _ _).trans he).trans he')) hs') h
    ·exact h.elim
   ·exact h.elim
  | any=>exact h.elim
  | d c=>cases c with
   | any=>exact h.elim
   | _=>exact uu (fun s' he hs'=>ju (fun s'' he'=>hk s'' (he.trans he')) hs') h
  | _=>exact uu (fun s' he hs'=>ju (fun s'' he'=>hk s'' (he.trans he')) hs') h
theorem Ai {p:Pl} {ts:List Tt} (hk:∀ s',Ext s s'->k s'->k' s') (h:jt s p ts k):jt s p ts k':=by
 unfold jt at h ⊢;split at h
 ·exact h.elim
 ·skip
  split at h
  ·skip
   split at h
   ·exact mD (hk _ ⟨TE _,fun _ _ _ h _=>h,cF _ _ (SN _) _⟩) h
   ·exact h.elim
  ·exact h.elim
theorem E2 {P:Program} {t:TypeId} {x v:At} (hk:∀ s',Ext s s'->k s'->k' s') (h:lA P s t x v k):lA P s t x v k':=by
 unfold lA at h ⊢;split at h
 ·skip
  split at h
  ·skip
   split at h
   ·exact Ai hk h
   ·exact ju hk h
  ·exact h.elim
 ·exact h.elim
theorem fW {u:U} {v:At} {s':St} {sub:List Sh} {l:List (El u)} (h:gZ s u v=some (s',sub,l)):Ext s s':=by
 unfold gZ at h;split at h
 ·simp only [SJ,Prod.mk.injEq] at h;obtain ⟨rfl,_⟩:=h; exact Ext.refl _
 ·split at h
  ·split at h
   ·rename_i htake;simp only [SJ,Prod.mk.injEq] at h;obtain ⟨rfl,_⟩:=h;unfold KS at htake;split at htake
    ·cases htake
    ·split at htake
     ·simp only [SJ] at htake;rw [<- htake];exact ⟨TE _,fq (SN _),(cF _ _ (SN _) s.m).trans (dS (SN _))⟩
     ·simp only [SJ] at htake;rw [<- htake];exact ⟨TE _,fq (SN _),(cF _ _ (SN _) s.m).trans (dS (SN _))⟩
     ·cases htake
   ·cases h
  ·cases h
 ·cases h
theorem Ct {P:Program} {E:Ut} {t u:TypeId} {x y:Operand} {d:Tmp} (hk:∀ s',Ext s s'->k s'->k' s') (h:jE P E s t u x y d k):jE P E s t u x y d k':=by
 unfold jE at h ⊢;dsimp only at h ⊢;split at h
 ·skip
  split at h
  ·skip
   split at h
   ·skip
    split at h
    ·rename_i h3 h4;split at h
     ·skip
      exact ⟨h.1,hk _ (((((iq _ _).trans (fW h4)).trans (bx _ _)).trans (ce _ _ _)).trans (aI _ _ _)) h.2⟩
     ·exact h.elim
    ·exact h.elim
   ·exact h.elim
  ·exact h.elim
 ·exact h.elim
theorem qh {P:Program} {E:Ut} {sub:List Sh} {t:TypeId} {n:Nat} {ps:Array (Nat×Operand)} {d:Tmp} (hk:∀ s',Ext s s'->k s'->k' s') (h:cx P E sub s t n ps d k):cx P E sub s t n ps d k':=by
 unfold cx at h ⊢;split at h
 ·skip
  split at h
  ·skip
   split at h
   ·skip
    dsimp only at h ⊢;split at h
    ·skip
     split at h
     ·skip
      exact hk _ ((((bG _ _).trans (bx _ _)).trans (ce _ _ _)).trans (aI _ _ _)) h
     ·exact h.elim
    ·exact h.elim
   ·exact h.elim
  ·exact h.elim
 ·exact h.elim
theorem q0 {P:Program} {E:Ut} {sub:List Sh} {t:TypeId} {n:Nat} {ps:Array (Nat×Operand)} {d:Tmp} (hk:∀ s',Ext s s'->k s'->k' s') (h:cG P E sub s t n ps d k):cG P E sub s t n ps d k':=by
 unfold cG at h ⊢
 (repeat' split at h) <;> first | exact h.elim | skip
 exact hk _ ((((fW (by assumption)).trans (bx _ _)).trans (ce _ _ _)).trans (aI _ _ _)) h
theorem zH {P:Program} {E:Ut} {t u:TypeId} {x y:Operand} {d:Tmp} (hk:∀ s',Ext s s'->k s'->k' s') (h:gG P E s t u x y d k):gG P E s t u x y d k':=by
 unfold gG at h ⊢;split at h
 ·skip
  split at h
  ·skip
   split at h
   ·skip
    split at h
    ·rename_i h3;split at h
     ·rename_i h4;split at h
      ·skip
       exact ⟨h.1,hk _ (((((fW h3).trans (fW h4)).trans (bx _ _)).trans (ce _ _ _)).trans (aI _ _ _)) h.2⟩
      ·exact h.elim
     ·exact h.elim
    ·exact h.elim
   ·exact h.elim
  ·exact h.elim
 ·exact h.elim
theorem ja (tm:Nat):∀ (sh:List Sh) (j:Nat) (s:St),Ext s (ug tm sh j s)
 | [],_,s=>Ext.refl s
 | .fr::r,j,s=>ja tm r (j+1) s
 | .ow _::r,j,s=>by
  simp only [ug];split
  ·split
   ·split
    ·split
     ·rename_i h _;split
      ·exact ((((fW (by assumption)).trans (bx _ _)).trans (ce _ _ _)).trans (aI _ _ _)).trans (ja tm r (j+1) _)
      ·exact (((fW (by assumption)).trans (bx _ _)).trans (ce _ _ _)).trans (ja tm r (j+1) _)
     ·exact ja tm r (j+1) s
    ·exact ja tm r (j+1) s
   ·exact ja tm r (j+1) s
  ·exact Ext.refl s
theorem Mt (sh:List (TypeId×List Sh)) (s:St) (t:TypeId) (v:Operand):Ext s (Cc sh s t v):=by
 unfold Cc;split
 ·exact ja _ _ _ _
 ·exact Ext.refl s
theorem yI {e:En} {t:TypeId} {x hi:Operand} {d:Tmp} (hk:∀ s',Ext s s'->k s'->k' s') (h:kw e s t x hi d k):kw e s t x hi d k':=by
 unfold kw at h ⊢;split at h
 ·split at h
  ·split at h
   ·split at h
    ·rename_i hb;exact ⟨h.1,hk _ ((((fW hb).trans (bx _ _)).trans (ce _ _ _)).trans (aI _ _ _)) h.2⟩
    ·exact h.elim
   ·exact h.elim
  ·exact h.elim
 ·exact h.elim
theorem Jr {e:En} {o:Oper} (hk:∀ s',Ext s s'->k s'->k' s') (h:Cw e o s k):Cw e o s k':=by
 unfold Cw at h ⊢;split at h
 ·exact yI hk h
 ·exact BO hk h
 ·exact h.elim
theorem Qo {e:En} (he:e.ok) {o:Oper} (hk:∀ s',Ext s s'->k s'->k' s') (h:lT e o s k):lT e o s k':=by
 unfold lT at h ⊢;cases ho:o.op with
 | store t x v=>rw [ho] at h; exact E2 (fun s' he hs'=>hk _ ((((Mt _ _ _ _).trans (JX _ _ _)).trans he).trans (aI _ _ _)) hs') h
 | alloc t=>
  rw [ho] at h;cases hd:o.dst with
  | none=>rw [hd] at h; exact h.elim
  | some d=>rw [hd] at h; exact Dn hk h
 | box t x=>
  rw [ho] at h;cases hd:o.dst with
  | none=>rw [hd] at h; exact h.elim
  | some d=>rw [hd] at h; exact Lg hk h
 | buildSlice t n ps=>
  rw [ho] at h;cases hd:o.dst with
  | none=>rw [hd] at h; exact h.elim
  | some d=>
   rw [hd] at h;dsimp only at h ⊢;split at h
   ·exact sA hk h
   ·split at h
    ·exact q0 hk h
    ·exact qh hk h
 | call c=>
  rw [ho] at h;dsimp only at h ⊢;split at h
  ·skip
   cases hd:o.dst with
   | none=>rw [hd] at h; exact h.elim
   | some d=>
    rw [hd] at h;dsimp only at h ⊢;split at h
    ·exact Ct hk h
    ·exact zH hk h
  ·exact Bi (fun s' hE hs'=>hk _ (hE.trans (aI _ _ _)) hs') h
  ·skip
   split at h
   ·rename_i C hg;exact (En.ok_get he hg).ext _ _ _ _ _ (fun s' v hE hs'=>hk _ (hE.trans (aI _ _ _)) hs') h
   ·exact h.elim
  ·skip
   split at h
   ·skip
    split at h
    ·rename_i C hg;exact (En.ok_get he hg).ext _ _ _ _ _ (fun s' v hE hs'=>hk _ (hE.trans (aI _ _ _)) hs') h
    ·exact h.elim
   ·exact h.elim
  ·exact h.elim
 | makeMap t r=>
  rw [ho] at h;dsimp only at h ⊢;split at h
  ·exact pm hk h
  ·split at h
   ·exact pm hk h
   ·exact h.elim
  ·exact h.elim
 | lookup t x i ok=>
  rw [ho] at h;dsimp only at h ⊢;split at h
  ·exact zJ hk h
  ·exact zo (fun v hv=>hk _ (aI _ _ _) hv) h
 | mapUpdate t m i v=>
  rw [ho] at h;dsimp only at h ⊢;split at h
  ·exact Cj (fun s' hE hs'=>hk _ (hE.trans (aI _ _ _)) hs') h
  ·exact Df (fun s' hE hs'=>hk _ (((iq _ _).trans hE).trans (aI _ _ _)) hs') h
 | makeSlice t n c=>
  rw [ho] at h;cases hd:o.dst with
  | none=>rw [hd] at h; exact h.elim
  | some d=>rw [hd] at h; exact tj hk h
 | _=>rw [ho] at h; exact h.elim
theorem Bo {e:En} (he:e.ok) {o:Oper} (hk:∀ s',Ext s s'->k s'->k' s') (h:sR e o s k):sR e o s k':=by
 unfold sR at h ⊢;split at h
 ·rename_i hq;exact yq (fun v hv=>hk _ ((AY _ _).trans (aI _ _ _)) hv) h
 ·exact Qo he hk h
theorem No {e:En} (he:e.ok) {o:Oper} (hk:∀ s',Ext s s'->k s'->k' s') (h:opT e o s k):opT e o s k':=by
 unfold opT at h ⊢;split at h
 ·exact Jr hk h
 ·exact Bo he hk h
end
section
variable {P:Program} {g:G} {Q:Exit->S->Prop} {s:St}
def AOt (P:Program) (g:G) (o:Oper) (k:St->Prop) (Q:Exit->S->Prop) (s:St):Prop:=
 ∀ a w,R g s.toS a w->o.wp P a w (fun a' w'=>∃ s':St,k s'/\R g s'.toS a' w') (lift g Q)
def PQ (pk:PKt):Exit->S->Prop:=fun x s=>∃ v,∃ t:St,x=.panic (chn v)/\s=t.toS/\pk v t
section
variable {g:G} {a:Act} {w:World} {H:FH}
theorem fR {s:St} {i:Nat} {v:At} (h:gtA s.t i=v):aE s.toS.t i=v.toV:=by rw [<- h]; exact cm i s.t
theorem KZ {γ:Gam} {F:Nm->Fp} {s:St} (hX:RX g s.toS a w H γ F) {tm j:Nat} {ts:List Tt} {t:Tt} (hg:gtA s.t tm=.one (.agg ts)) (hj:ts[j]? = some t) :
  ∃ vs v,g.tv a tm=.agg vs/\vs.toList[j]? = some v/\TR w H γ s.toS.m t.toT (fun _=>0) v:=by
 have h:=hX.t tm
 rw [fR hg] at h;obtain ⟨vs,h1,_,h3⟩:=h;obtain ⟨_,v,g',_,h4,h5,h6⟩:=lr h3 (k:=j) (x:=t.toT) (by rw [SM,hj]; rfl);refine ⟨vs,v,h1,h4,?_⟩;have:g'=fun _=>0:=funext fun b=>by have:=h6 b; omega
 rw [<- this]; exact h5
theorem iQ (tm:Nat):∀ (sh:List Sh) (j:Nat) (s:St) (γ:Gam) (F:Nm->Fp),RX g s.toS a w H γ F->∃ γ' F',RX g (ug tm sh j s).toS a w H γ' F'
 | [],_,s,γ,F,hX=>⟨γ,F,hX⟩
 | .fr::r,j,s,γ,F,hX=>iQ tm r (j+1) s γ F hX
 | .ow _::r,j,s,γ,F,hX=>by
  simp only [ug];split
  ·rename_i ts hg;split
   ·rename_i q hj;split
    ·rename_i u l0 _ _ _;split
     ·rename_i s1 sub l hb;obtain ⟨vs,v,e1,e2,e3⟩:=KZ hX hg hj;have hy:AR w H γ s.toS.m (.one (.c (.rf q))) v:=e3
      obtain ⟨b1,b2,_⟩:=iL (size:=nc u) rfl (fd hX) (fun q' hq'=>by
       cases hq';exact kD e3.2.1) hb
      obtain ⟨kb,f,F1,k1,k2,k3,k4,k5⟩:=iB hX hy b1;have hn2:=bU k2 (.gh (700000+j))
      have hts:∀ b,tot F1 (s1.toS.fresh (.gh (700000+j))).m b<=tot F1 s1.toS.m b:=by
       intro b;unfold S.fresh;split
       ·exact SN _
       ·show tot F1 (au _ _) b<=_
        rw [aM]; exact dh
      obtain ⟨γ',F',hX4,hγ⟩:=di hn2 (n:=.gh (700000+j)) rfl (bA k2 (.gh (700000+j))) (v:=v) (t:=.ow sub (l.map (ai u))) (f:=f) ⟨kb,k1⟩
       (fun b=>by have h1:=hts b; have h2:=k4 b; have h3:=hX.mem.le1 b; omega) (fun b hb=>⟨(k5 b hb).1,(k5 b hb).2.1⟩) (fun b hb=>(k5 b hb).2.2)
      have e4:((s1.fresh (.gh (700000+j))).root (.gh (700000+j)) ⟨false,[.ow sub u l],none⟩).toS=⟨(s1.toS.fresh (.gh (700000+j))).t,(.gh (700000+j),⟨false,[.ow sub (l.map (ai u))]⟩)::(s1.toS.fresh (.gh (700000+j))).m⟩:=by
       rw [<- bk b2]; rfl
      rw [<- e4] at hX4;generalize hs2:(s1.fresh (.gh (700000+j))).root (.gh (700000+j)) ⟨false,[.ow sub u l],none⟩=s2 at hX4 e4;split
      ·rename_i ts2 hg2;refine iQ tm r (j+1) _ γ' F' ⟨hX4.mem,hX4.fr,hX4.nt,hX4.df,fun i=>?_⟩;show AR w H γ' s2.toS.m (aE ((tm,At.toV (.one (.agg (ts2.set j (.rf ⟨.gh (700000+j),0,[]⟩)))))::s2.toS.t) i) _
       simp only [aE];split
       ·rename_i hi;subst hi;have h:=hX4.t tm
        rw [fR hg2,e1] at h;obtain ⟨cs,h1,h2,h3⟩:=h;obtain rfl:=Value.agg.inj h1;rw [e1];refine ⟨vs,rfl,by simpa using h2,?_⟩;by_cases hjl:j<ts2.length
        ·obtain ⟨_,_,_,fk,fr,_,_,_,a4,_,a6,_⟩:=bW _ _ _ _ j h3 (by simpa using hjl);have hr:TR w H γ' s2.toS.m (.rf ⟨.gh (700000+j),0,[]⟩) (fun _=>0) v:=(dD (H:=H) (w:=w) (sub:=sub) (l:=l.map (ai u)) (by rw [e4]; simp [aa]) hγ:AR w H γ' s2.toS.m (.one (.c (.rf ⟨.gh (700000+j),0,[]⟩))) v)
         have:=a6 (fun _=>TR w H γ' s2.toS.m) (.rf ⟨.gh (700000+j),0,[]⟩) v (fun _=>0) (fun _ _ _ _ _ h=>h) hr
         rw [kp e2] at this;unfold Ts;rw [List.length_map] at this ⊢;rw [S3,Tv];exact kf (fun b=>by have:=a4 b; omega) this
        ·rw [List.set_eq_of_length_le (by omega)];exact h3
       ·exact hX4.t i
      ·exact iQ tm r (j+1) _ γ' F' hX4
     ·exact iQ tm r (j+1) s γ F hX
    ·exact iQ tm r (j+1) s γ F hX
   ·exact iQ tm r (j+1) s γ F hX
  ·exact ⟨γ,F,hX⟩
theorem Mi (sh:List (TypeId×List Sh)) {s:St} {γ:Gam} {F:Nm->Fp} (t:TypeId) (v:Operand) (hX:RX g s.toS a w H γ F):∃ γ' F',RX g (Cc sh s t v).toS a w H γ' F':=by
 unfold Cc;split
 ·exact iQ _ _ _ _ _ _ hX
 ·exact ⟨γ,F,hX⟩
end
theorem P3 {e:En} (he:e.ok) (hpk:∀ x s,PQ e.pk x s->Q x s) {o:Oper} {k:St->Prop} (hc:opC g.nt o=true) (hq:isQ o=false) (h:lT e o s k):AOt e.P g o k Q s:=by
 intro a w hR;obtain ⟨H,γ,F,hX⟩:=hR;have hn:=fd hX
 have base:∀ {s1:St},(∃ H' F',RX g s1.toS a w H' γ F')->opK e.P [] o s1.toS (upS k)->o.wp e.P a w (fun a' w'=>∃ s':St,k s'/\R g s'.toS a' w') (lift g Q):=by
  intro s1 ⟨H',F',hX1⟩ hop;exact bt (fun a' w' ⟨s',⟨t,e,hk⟩,hR'⟩=>⟨t,hk,ya e hR'⟩) (fun _ _ _ h=>h) (vz (Q:=Q) CT.ok0 hc hop a w ⟨H',γ,F',hX1⟩)
 have hcc:=hc
 unfold opC at hcc;rw [SL] at hcc;obtain ⟨hd,hcc⟩:=hcc;unfold lT at h;cases ho:o.op with
 | store t x v=>
  rw [ho] at h hcc;simp only [SL] at hcc;obtain ⟨γ0,F0,h0⟩:=Mi e.sh t v hX;obtain ⟨H1,F1,h1⟩:=Jz h0 (evA (Cc e.sh s t v) x) (evA (Cc e.sh s t v) v);refine bt (fun a' w' ⟨s',⟨t,e,hk⟩,hR'⟩=>⟨t,hk,ya e hR'⟩) (fun _ _ _ h=>h) (vz (Q:=Q) CT.ok0 hc (?_:opK e.P [] o _ (upS k)) a w ⟨H1,γ0,F1,h1⟩);unfold opK;rw [ho];dsimp only;rw [af hcc.1,af hcc.2];exact Jt (fun t' hk=>⟨_,ba t' o.dst .any,hk⟩) (fd h1) h
 | alloc t=>
  rw [ho] at h;cases hdd:o.dst with
  | none=>rw [hdd] at h; exact h.elim
  | some d=>
   rw [hdd] at h;refine base (s1:=s) ⟨H,F,hX⟩ ?_;unfold opK;rw [ho,hdd];exact Ix hn h
 | box t x=>
  rw [ho] at h hcc;cases hdd:o.dst with
  | none=>rw [hdd] at h; exact h.elim
  | some d=>
   rw [hdd] at h;refine base (s1:=s) ⟨H,F,hX⟩ ?_;unfold opK;rw [ho,hdd];exact OW hn hcc h
 | buildSlice t n ps=>
  rw [ho] at h hcc;cases hdd:o.dst with
  | none=>rw [hdd] at h; exact h.elim
  | some d=>
   rw [hdd] at h hd;have hX1:=bT (ps.toList.map fun x=>evA s x.2) s H F hX
   dsimp only at h;split at h
   ·refine base hX1 ?_;unfold opK;rw [ho,hdd];obtain ⟨H1,F1,h1⟩:=hX1;exact tV hcc (fd h1) h
   ·split at h
    ·obtain ⟨t',y,w',γ',F',e1,hk,e3⟩:=se hX hd hcc h;unfold Oper.wp;have:(execOp a.eval o).run e.P w=.ok (.value y) w':=by simp only [execOp,ho]; rw [Sem.run_bind,e1]; rfl
     rw [this];exact ⟨t',hk,_,γ',F',by rw [hdd]; exact e3⟩
    obtain ⟨H1,F1,h1⟩:=hX1;obtain ⟨s',y,w',H',γ',F',e1,⟨t',et,hk⟩,e3⟩:=sm (P:=e.P) h1 hd hcc (sv hcc (fd h1) h);unfold Oper.wp;have:(execOp a.eval o).run e.P w=.ok (.value y) w':=by simp only [execOp,ho]; rw [Sem.run_bind,e1]; rfl
    rw [this];exact ⟨t',hk,H',γ',F',bE et (by rw [hdd]; exact e3)⟩
 | call c=>
  rw [ho] at h hcc;obtain ⟨callee,args,argTypes⟩:=c;obtain ⟨args⟩:=args;obtain ⟨argTypes⟩:=argTypes;dsimp only at h hcc;cases callee with
  | builtin b=>
   cases b with
   | append=>
    match args,argTypes,h with
    | [x,y],[t,u],h=>
     have h1:ay x=true/\ay y=true:=by simpa using hcc
     cases hdd:o.dst with
     | none=>rw [hdd] at h; exact h.elim
     | some d=>
      rw [hdd] at h hd;dsimp only at h;split at h
      rotate_left
      ·obtain ⟨s',y',w',H',γ',F',e1,⟨t',et,hk⟩,e3⟩:=BX (P:=e.P) (tt:=o.type) hX hd h1.1 h1.2 (Ay h1.1 h1.2 hn (fun q hq=>by
         have h3:=aD hX h1.2
         rw [af h1.2,hq] at h3;obtain ⟨_,h4,_⟩:=h3;exact kD h4) (fun size s1 sub l q hn1 hb hq=>by
         have hy:=aD hX h1.2
         rw [af h1.2] at hy;obtain ⟨_,_,F1,_,hX1,_⟩:=iB hX hy hb;have h3:=aD hX1 h1.1
         rw [af h1.1,hq] at h3;obtain ⟨_,h4,_⟩:=h3;exact kD h4) h)
       unfold Oper.wp;have:(execOp a.eval o).run e.P w=.ok (.value y') w':=by
        simp only [execOp,ho,resolve,invoke,builtin,Sem.run_bind,Sem.run_pure,Result.andThen_ok,List.map_toArray,List.map_cons,List.map_nil];rw [e1]; rfl
       rw [this];exact ⟨t',hk,H',γ',F',bE et (by rw [hdd]; exact e3)⟩
      have hX1:=ir hX (evA s y)
      refine base hX1 ?_;unfold opK;rw [ho,hdd];obtain ⟨H1,F1,h2⟩:=hX1;exact DT h1.1 h1.2 (fd h2) (fun q hq=>by
       have h3:=aD h2 h1.1
       rw [af h1.1,hq] at h3;obtain ⟨_,h4,_⟩:=h3;exact kD h4) h
   | delete=>
    match args,argTypes,h with
    | [x,i],t::ts,h=>
     have h1:ay x=true/\ay i=true:=by simpa using hcc
     have h2:=aD hX h1.1
     have h3:=aD hX h1.2
     rw [af h1.1] at h2;rw [af h1.2] at h3;obtain ⟨t',w',F',e1,e2,e3⟩:=Fm (tt:=o.type) hX h2 h3 h;unfold Oper.wp;have:(execOp a.eval o).run e.P w=.ok (.value (.tuple #[])) w':=by
      simp only [execOp,ho,resolve,invoke,builtin,Sem.run_bind,Sem.run_pure,Result.andThen_ok,List.map_toArray,List.map_cons,List.map_nil];rw [e1]; rfl
     rw [this];exact ⟨_,e2,H,γ,F',bE (ba t' o.dst (.tup [])) (e3.put hd ⟨#[],rfl,trivial⟩)⟩
   | _=>exact h.elim
  | value v=>
   cases v with
   | func f=>
    dsimp only at h;cases hg:e.cs.get f with
    | none=>rw [hg] at h; exact h.elim
    | some C=>
     rw [hg] at h;have hC:=En.ok_get he hg
     have hr:(execOp a.eval o).run e.P w=.ok (.enter f (args.map a.eval).toArray) w:=by
      simp only [execOp,ho,resolve,Act.eval,Deferred.ofValue,Sem.run_bind,Sem.run_pure,Result.andThen_ok,invoke];rw [hC.run];simp
     unfold Oper.wp;rw [hr];refine Calls.mono (hC.call g e.pk s a w H γ F args _ hX hcc h) (fun e' w' hp=>?_);rcases hp with ⟨r,s',av,H',γ',F',k1,k2,k3,k4⟩ | ⟨v,s',k1,k2,k4⟩
     ·subst k1;exact ⟨_,k2,H',γ',F',bE (ba s' o.dst av) (k4.put hd k3)⟩
     ·subst k1;exact ⟨_,hpk _ _ ⟨v,s',rfl,rfl,k2⟩,k4⟩
   | tmp t=>
    dsimp only at h;split at h
    ·rename_i f hf ht;cases hg:e.cs.get f with
     | none=>rw [hg] at h; exact h.elim
     | some C=>
      rw [hg] at h;have hC:=En.ok_get he hg
      have hv:a.eval (.tmp t)=.func (.func f) #[] #[]:=by
       have h3:=hX.t t
       rw [G.tv_lo (show t<TB from SP ht)] at h3;unfold Qi at hf;split at hf
       ·rename_i f' x y hgt;split at hf
        ·rename_i hx0 hy0;simp only [SJ] at hf;subst hf;rw [show aE s.toS.t t=(gtA s.t t).toV from cm t s.t,hgt] at h3;obtain ⟨_,m,h3⟩:=h3;have e1:a.tmps.getD t undef=.func (.func f') x y:=by cases m <;> exact h3.1
         show a.tmps.getD t undef=_
         rw [e1];have ex:x=#[]:=Array.eq_empty_of_size_eq_zero hx0
         have ey:y=#[]:=Array.eq_empty_of_size_eq_zero hy0
         rw [ex,ey]
        ·cases hf
       ·cases hf
      have hr:(execOp a.eval o).run e.P w=.ok (.enter f (args.map a.eval).toArray) w:=by
       simp only [execOp,ho,resolve,hv,Deferred.ofValue,Sem.run_bind,Sem.run_pure,Result.andThen_ok,invoke];rw [hC.run];simp
      unfold Oper.wp;rw [hr];refine Calls.mono (hC.call g e.pk s a w H γ F args _ hX hcc h) (fun e' w' hp=>?_);rcases hp with ⟨r,s',av,H',γ',F',k1,k2,k3,k4⟩ | ⟨v,s',k1,k2,k4⟩
      ·subst k1;exact ⟨_,k2,H',γ',F',bE (ba s' o.dst av) (k4.put hd k3)⟩
      ·subst k1;exact ⟨_,hpk _ _ ⟨v,s',rfl,rfl,k2⟩,k4⟩
    ·exact h.elim
   | _=>exact h.elim
  | invoke r n=>exact h.elim
 | makeMap t r=>
  rw [ho] at h hcc;have key:∀ d,o.dst=some d->en e.P e.E (dY e.sh (4000000+t)).isSome s t d k->(∀ v,r.map a.eval=some v->∃ κ n,v=.int κ n)->o.wp e.P a w (fun a' w'=>∃ s':St,k s'/\R g s'.toS a' w') (lift g Q):=by
   intro d hdd h hr;rw [hdd] at hd;obtain ⟨t',y,w',γ',F',e1,e2,e3⟩:=Cx hX hd h hr;unfold Oper.wp;have:(execOp a.eval o).run e.P w=.ok (.value y) w':=by simp only [execOp,ho]; rw [Sem.run_bind,e1]; rfl
   rw [this];exact ⟨t',e2,H,γ',F',by rw [hdd]; exact e3⟩
  dsimp only at h;split at h
  ·rename_i d hdd;exact key d hdd h (fun v hv=>by cases hv)
  ·rename_i d x hdd;split at h
   ·rename_i κ n hx;refine key d hdd h (fun v hv=>?_);have h3:=aD hX (show ay x=true from hcc)
    rw [af hcc,hx] at h3;exact ⟨κ,n,by rw [<- Option.some.inj hv]; exact (kI h3).1⟩
   ·exact h.elim
  ·exact h.elim
 | lookup t x i ok=>
  rw [ho] at h hcc;have h1:ay x=true/\ay i=true:=by simpa using hcc
  have h2:=aD hX h1.1
  have h3:=aD hX h1.2
  rw [af h1.1] at h2;rw [af h1.2] at h3;dsimp only at h;split at h
  ·rename_i d _ hdd;rw [hdd] at hd;obtain ⟨t',y,γ',F',e1,e2,e3⟩:=Dc hX hd h1.1 h1.2 h;unfold Oper.wp;have:(execOp a.eval o).run e.P w=.ok (.value y) w:=by simp only [execOp,ho]; rw [Sem.run_bind,e1]; rfl
   rw [this];exact ⟨_,e2,H,γ',F',by rw [hdd]; exact e3⟩
  ·obtain ⟨z,v,e1,e2,e3⟩:=E5 hX h2 h3 h;unfold Oper.wp;have:(execOp a.eval o).run e.P w=.ok (.value z) w:=by simp only [execOp,ho]; rw [Sem.run_bind,e1]; rfl
   rw [this];exact ⟨_,e3,H,γ,F,bE (ba s o.dst v) (hX.put hd e2)⟩
 | mapUpdate t m i v=>
  rw [ho] at h hcc;have h1:(ay m=true/\ay i=true)/\ay v=true:=by simpa using hcc
  dsimp only at h;split at h
  ·have h2:=aD hX h1.1.1
   have h3:=aD hX h1.1.2
   have h4:=aD hX h1.2
   rw [af h1.1.1] at h2;rw [af h1.1.2] at h3;rw [af h1.2] at h4;obtain ⟨t',w',F',e1,e2,e3⟩:=Dz hX h2 h3 h4 h;unfold Oper.wp;have:(execOp a.eval o).run e.P w=.ok .skip w':=by simp only [execOp,ho]; rw [Sem.run_bind,e1]; rfl
   rw [this];exact ⟨_,e2,H,γ,F',bE (ba t' o.dst .any) (e3.put hd trivial)⟩
  obtain ⟨H1,F1,hX1⟩:=ir hX (evA s v);generalize fT s (evA s v)=s1 at h hX1;have h2:=aD hX1 h1.1.1
  have h3:=aD hX1 h1.1.2
  have h4:=aD hX1 h1.2
  rw [af h1.1.1] at h2;rw [af h1.1.2] at h3;rw [af h1.2] at h4;obtain ⟨t',w',F',e1,e2,e3⟩:=Dl hX1 h2 h3 h4 h;unfold Oper.wp;have:(execOp a.eval o).run e.P w=.ok .skip w':=by simp only [execOp,ho]; rw [Sem.run_bind,e1]; rfl
  rw [this];exact ⟨_,e2,H1,γ,F',bE (ba t' o.dst .any) (e3.put hd trivial)⟩
 | makeSlice t n c=>
  rw [ho] at h hcc;have h1:ay n=true/\ay c=true:=by simpa using hcc
  cases hdd:o.dst with
  | none=>rw [hdd] at h; exact h.elim
  | some d=>
   rw [hdd] at h hd;obtain ⟨t',y,w',γ',F',e1,e2,e3⟩:=vY hX hd h1.1 h;unfold Oper.wp;have:(execOp a.eval o).run e.P w=.ok (.value y) w':=by simp only [execOp,ho]; rw [Sem.run_bind,e1]; rfl
   rw [this];exact ⟨t',e2,H,γ',F',by rw [hdd]; exact e3⟩
 | _=>rw [ho] at h; exact h.elim
theorem AJ {e:En} (he:e.ok) (hpk:∀ x s,PQ e.pk x s->Q x s) {o:Oper} {k:St->Prop} (hc:opC g.nt o=true) (h:sR e o s k):AOt e.P g o k Q s:=by
 unfold sR at h;split at h
 ·rename_i hq;intro a w ⟨H,γ,F,hX⟩;obtain ⟨H1,F1,hX1⟩:=vd hX o;obtain ⟨z,d,B,_,e1,e2,e3⟩:=wV hX1 hc (KU hX1 hc h);obtain ⟨v',rfl,hk⟩:=e3;unfold Oper.wp;rw [e1 w (fun _ _=>rfl)];exact ⟨_,hk,H1,γ,F1,bE (ba _ _ _) (hX1.put (dv hc) e2)⟩
 ·rename_i hq;exact P3 he hpk hc hq h
theorem Oa {e:En} (he:e.ok) (hpk:∀ x s,PQ e.pk x s->Q x s) {o:Oper} {k:St->Prop} (hc:opC g.nt o=true) (h:opT e o s k):AOt e.P g o k Q s:=by
 unfold opT at h;split at h
 ·intro a w ⟨H,γ,F,hX⟩;unfold Cw at h;have hcc:=hc
  unfold opC at hcc;rw [SL] at hcc;obtain ⟨hd,hcc⟩:=hcc;split at h
  ·rename_i t x hi d ho hdd;rw [ho] at hcc;rw [hdd] at hd;simp only [SL,Option.all_none,Option.all_some,and_true] at hcc;obtain ⟨t',y,γ',F',e1,e2,e3⟩:=BK hX hd hcc.1 hcc.2 h;unfold Oper.wp;have:(execOp a.eval o).run e.P w=.ok (.value y) w:=by simp only [execOp,ho,T4,Option.map_some]; rw [Sem.run_bind,e1]; rfl
   rw [this];exact ⟨t',e2,H,γ',F',by rw [hdd]; exact e3⟩
  ·rename_i x d ho hdd;rw [ho] at hcc;rw [hdd] at hd;obtain ⟨t',H',F',e2,e3⟩:=ED hX hd hcc h;unfold Oper.wp;have:(execOp a.eval o).run e.P w=.ok (.value (a.eval x)) w:=by simp only [execOp,ho]; rfl
   rw [this];exact ⟨t',e2,H',γ,F',by rw [hdd]; exact e3⟩
  ·exact h.elim
 exact AJ he hpk hc h
theorem KQ {o:Oper} {K:S->Prop} {s s':S} (e:SEq s s') (h:AO P g o K Q s'):AO P g o K Q s:=fun a w hR=>h a w (ya e hR)
theorem EM {ops rest:List Oper} {s s':S} (e:SEq s s') (h:AL P g ops rest Q s'):AL P g ops rest Q s:=fun a w hR=>h a w (ya e hR)
theorem GK {o:Oper} {K:S->Prop} (h:AOt P g o (fun t=>K t.toS) Q s):AO P g o K Q s.toS:=fun a w hR=>
 bt (fun a' w' ⟨s',hk,hR'⟩=>⟨s'.toS,hk,hR'⟩) (fun _ _ _ h=>h) (h a w hR)
theorem ma (s:St) (d:Nat) (b:Bool):SEq (s.toS.put (some d) (.one (.c (.d (.bool b))))) (s.put (some d) (sct (.bo b))).toS:=ba s (some d) (sct (.bo b))
theorem oR (s:St) (d:Nat) (b:Bool) (o:Option Tmp):SEq ((s.toS.put (some d) (.one (.c (.d (.bool b))))).put o (.tup [])) ((s.put (some d) (sct (.bo b))).put o (.tup [])).toS:=by
 have h1:=ma s d b
 have h2:=ba (s.put (some d) (sct (.bo b))) o (.tup [])
 refine ⟨fun i=>?_,?_⟩
 ·rw [<- h2.1 i];cases o with
  | none=>exact h1.1 i
  | some o=>show aE (lq _ o _) i=aE (lq _ o _) i; rw [fU,fU,h1.1 i]; rfl
 ·rw [<- h2.2]; cases o <;> exact h1.2
theorem kY {e:En} (he:e.ok) (hpk:∀ x s,PQ e.pk x s->Q x s) {k:St->Prop} {all:List Oper}:∀ {rest:List Oper} {s:St},zc g.nt all rest=true->jg e all rest s k->(∀ t:St,k t->Q .normal t.toS)->AL e.P g all rest Q s.toS
 | [],s,_,h,hQ=>EV (hQ s h)
 | o::r,s,hc,h,hQ=>by
  simp only [zc,SL] at hc;obtain ⟨⟨hc1,hc2⟩,hc3⟩:=hc;simp only [jg] at h;have run:∀ {s:St},opT e o s (fun s'=>jg e all r s' k)->AO e.P g o (AL e.P g all r Q) Q s.toS:=fun {s} h=>
   GK (fun a w hR=>bt (fun a' w' ⟨s',hk,hR'⟩=>⟨s',kY he hpk hc3 hk hQ,hR'⟩) (fun _ _ _ h=>h) (Oa he hpk hc1 h a w hR))
  cases hg:o.guard with
  | none=>
   rw [hg] at h;exact yv hg (run h)
  | some q=>
   obtain ⟨j,want⟩:=q;rw [hg] at h hc2;dsimp only at h hc2;cases hj:(all[j]?).bind (·.dst) with
   | none=>rw [hj] at h; exact h.elim
   | some d=>
    rw [hj] at h hc2;dsimp only at h hc2;split at h
    ·rename_i c hcc;have hgt:aE s.toS.t d=.one (.c (.d (.bool c))):=fR hcc
     cases want with
     | true=>
      dsimp only at h;refine tw hg hj hgt hc2 (dv hc1) (fun hc=>?_) (fun hc=>?_)
      ·subst hc; rw [if_pos rfl] at h; exact KQ (ma s d true) (run h)
      ·subst hc; rw [if_neg (by simp)] at h; exact EM (oR s d _ _) (kY he hpk hc3 h hQ)
     | false=>
      dsimp only at h;refine tw hg hj hgt hc2 (dv hc1) (fun hc=>?_) (fun hc=>?_)
      ·subst hc; rw [if_neg (by simp)] at h; exact KQ (ma s d false) (run h)
      ·subst hc; rw [if_pos (by rfl)] at h; exact EM (oR s d _ _) (kY he hpk hc3 h hQ)
    ·rename_i hcc;exact uG hg hj (fR hcc) (dv hc1) (EM (ba s o.dst (.tup [])) (kY he hpk hc3 h hQ))
    ·exact h.elim
theorem tN {e:En} (he:e.ok) {all:List Oper} {k k':St->Prop}:∀ {rest:List Oper} {s:St},(∀ s',Ext s s'->k s'->k' s')->jg e all rest s k->jg e all rest s k'
 | [],s,hk,h=>hk s (Ext.refl s) h
 | o::r,s,hk,h=>by
  have run:∀ {s1:St},Ext s s1->opT e o s1 (fun s'=>jg e all r s' k)->opT e o s1 (fun s'=>jg e all r s' k'):=fun {s1} h1 h=>
   No he (fun s' h2 hs'=>tN he (fun s'' h3=>hk s'' ((h1.trans h2).trans h3)) hs') h
  have rest:∀ {s1:St},Ext s s1->jg e all r s1 k->jg e all r s1 k':=fun {s1} h1 h=>tN he (fun s'' h3=>hk s'' (h1.trans h3)) h
  simp only [jg] at h ⊢;split at h
  ·exact run (Ext.refl s) h
  ·rename_i j want hg;split at h
   ·rename_i d hj;split at h
    ·rename_i c hcc;cases want <;> cases c <;> simp only [SV,if_true,if_false] at h ⊢
     ·exact run (aI _ _ _) h
     ·exact rest ((aI _ _ _).trans (aI _ _ _)) h
     ·exact rest ((aI _ _ _).trans (aI _ _ _)) h
     ·exact run (aI _ _ _) h
    ·exact rest (aI _ _ _) h
    ·exact h.elim
   ·exact h.elim
end
end Go.Am
end

section
namespace Go.Am
section
variable {e:En} {g:G} {k:St->Prop} {Q:Exit->S->Prop}
theorem Iz {x:At} (h:Mf x=true):CH x.toV=true:=by
 unfold Mf at h;split at h
 ·rfl
 ·rfl
 ·cases h
theorem Fo {s:St} {o:Oper} (hc:opC g.nt o=true) (h:js s o=true):eO s.toS o:=by
 unfold js at h;unfold eO;unfold opC at hc;rw [SL] at hc;cases ho:o.op with
 | load t x=>
  rw [ho] at h hc;dsimp only at hc ⊢;rw [af hc.2];exact Iz h
 | _=>trivial
theorem PB {ops:List Oper} {o:Oper} {s:St} {f no:St->Prop} (h:gT ops o s f no):gK ops o s.toS (upS f) (upS no):=by
 unfold gT at h;unfold gK;cases hg:o.guard with
 | none=>rw [hg] at h; exact ⟨s,⟨fun _=>rfl,rfl⟩,h⟩
 | some q=>
  obtain ⟨j,want⟩:=q;rw [hg] at h;dsimp only at h ⊢;cases hj:(ops[j]?).bind (·.dst) with
  | none=>rw [hj] at h; exact h.elim
  | some d=>
   rw [hj] at h;dsimp only at h ⊢;split at h
   ·rename_i c hcc;rw [fR hcc];simp only [At.toV,A1.toV,Tt.toT,C.toD];cases want <;> cases c <;> simp only [SV,if_true,if_false] at h <;> simp only [gsel]
    ·exact ⟨_,ma s d false,h⟩
    ·exact ⟨_,oR s d _ _,h⟩
    ·exact ⟨_,oR s d _ _,h⟩
    ·exact ⟨_,ma s d true,h⟩
   ·rename_i hcc;rw [fR hcc];exact ⟨_,ba s o.dst (.tup []),h⟩
   ·exact h.elim
theorem D8 {ops:List Oper} {o:Oper} {s:St} {f f' no no':St->Prop} (hf:∀ s',Ext s s'->f s'->f' s') (hn:∀ s',Ext s s'->no s'->no' s') (h:gT ops o s f no):gT ops o s f' no':=by
 unfold gT at h ⊢;cases hg:o.guard with
 | none=>rw [hg] at h; exact hf _ (Ext.refl s) h
 | some q=>
  obtain ⟨j,want⟩:=q;rw [hg] at h;dsimp only at h ⊢;cases hj:(ops[j]?).bind (·.dst) with
  | none=>rw [hj] at h; exact h.elim
  | some d=>
   rw [hj] at h;dsimp only at h ⊢;split at h
   ·rename_i c _;cases want <;> cases c <;> simp only [SV,if_true,if_false] at h ⊢
    ·exact hf _ (aI _ _ _) h
    ·exact hn _ ((aI _ _ _).trans (aI _ _ _)) h
    ·exact hn _ ((aI _ _ _).trans (aI _ _ _)) h
    ·exact hf _ (aI _ _ _) h
   ·exact hn _ (aI _ _ _) h
   ·exact h.elim
theorem BW {ops:Array Oper} {K:S->Prop} {fuel:Nat} {listed:Array Bool} {i:Nat} {A:List Nat} {fz:Bool} {o:Oper} (hC:jx g.nt ops=true) (hs:Region.noSelect ops=true) (hi:ops[i]? = some o)
  (ht:pF ops listed i A fz=true) {s:St} {D:St->Prop} (hD:∀ s:St,D s->AD e.P g ops Q K fuel (listed.setIfInBounds i true) s.toS)
  (h:gT ops.toList o s (fun s=>(fz=true->js s o=true)/\qT e o s fun v=>D (s.put o.dst v)) D):AD e.P g ops Q K (fuel+1) listed s.toS:=by
 intro a w H γ F Pr hX hPr;simp only [pF,SL] at ht;obtain ⟨⟨⟨⟨t1,t2⟩,t3⟩,t4⟩,t5⟩:=ht;obtain ⟨c1,c2⟩:=gq hC hi;have hready:=Region.ready_mem_of_contains t2
 have hbeh:behind .any ops i (fun j=>A.contains j) listed:=by
  intro j hj hun;have:=SQ.1 t4 j (by simpa using hj)
  rw [cq.2 hun] at this;cases ho:ops[j]? with
  | none=>rw [ho] at this; simp at this
  | some oj=>
   rw [ho] at this;simp only [UO,TW] at this;obtain ⟨e,he,h1⟩:=Array.any_eq_true'.1 this;simp only [SL,T5,beq_iff_eq] at h1;exact ⟨oj,rfl,e,he,h1.1.1,cq.1 h1.1.2,h1.2⟩
 have hset:∀ j,(listed.setIfInBounds i true).getD j true=false->listed.getD j true=false:=fun j h=>(fV h).1
 rcases pI hX (PB h) (dv c1) c2 with ⟨hw,s0,⟨s',e0,hf,hq⟩,hX0⟩ | ⟨hw,s0,⟨s',e0,hno⟩,hX0⟩
 ·have hX':=bE e0 hX0
  obtain ⟨z,d,B,e0,e1,e2,v',e3,hk⟩:=wV hX' c1 (KU hX' c1 hq);subst e3;refine fG (oM g Q) (A:=fun j=>A.contains j) (B:=B) (v:=z) hi (Region.noSelect_spec hs) fuel listed Pr (fun j b=>Pr j b\/(A.contains j=false/\B b)) a w (fun j b h=>.inl h) (fun j b h1 h2=>.inr ⟨h1,h2⟩)
   (Region.free_spec hi t1) hbeh hready (.inl ⟨hw,fun w2 hs2=>e1 w2 hs2⟩) (hD _ hk (a.put o.dst z) w H γ F _ (bE (ba _ _ _) (hX'.put (dv c1) e2)) ?_)
  intro j oj hj hun;obtain ⟨hun1,hji⟩:=fV hun;rcases hPr j oj hj hun1 with hp | hp
  ·exact .inl hp
  cases hfz:fz with
  | true=>
   refine .inr fun b hb=>?_
   rcases hb with hb | ⟨_,hb⟩
   ·exact hp b hb
   ·exact e0 (Fo c1 (hf hfz)) b hb
  | false=>
   rw [hfz,TW] at t5;have:=SQ.1 t5 j (Tm.2 (T9.1 hj).1)
   rw [cq.2 hun1,hj] at this;simp only [UO,TW,T5,beq_iff_eq] at this;rcases this with (this | this) | this
   ·exact absurd this hji
   ·refine .inr fun b hb=>?_
    rcases hb with hb | ⟨hb,_⟩
    ·exact hp b hb
    ·rw [this] at hb; cases hb
   ·exact .inl this
 ·have hX':=bE e0 hX0
  refine fG (oM g Q) (A:=fun _=>false) (B:=fun _=>False) (v:=undef) hi (Region.noSelect_spec hs) fuel listed Pr Pr a w (fun j b h=>h) (fun j b _ h2=>h2.elim)
   (Region.free_spec hi t1) (fun j h=>by cases h) hready (.inr ⟨hw,rfl⟩) (hD _ hno (a.put o.dst undef) w H γ F _ hX' (hPr.mono hset (fun _ _ _ h=>h)))
theorem LG {ops:Array Oper} {K:S->Prop} {fuel:Nat} {listed:Array Bool} {i:Nat} {o:Oper} (he:e.ok) (hpk:∀ x s,PQ e.pk x s->Q x s) (hC:jx g.nt ops=true) (hun:listed.getD i true=false) (hi:ops[i]? = some o) {s:St}
  {D:St->Prop} (hD:∀ s:St,D s->AD e.P g ops Q K fuel (listed.setIfInBounds i true) s.toS) (h:gT ops.toList o s (fun s=>sR e.cl o s D) D) {a:Act} {w:World} {H:FH} {γ:Gam} {F:Nm->Fp} {Pr:Nat->Bs} (hX:RX g s.toS a w H γ F) (hPr:Iy ops listed H Pr) :
  lOp e.P ops (Zx g Q) Pr i (fun a' w'=>∃ Pr':Nat->Bs,(∀ j b,Pr j b->Pr' j b)/\dO e.P .any ops (Zx g Q) (fun a w=>∃ s',K s'/\R g s' a w) fuel (listed.setIfInBounds i true) Pr' a' w') a w:=by
 have hset:∀ j,(listed.setIfInBounds i true).getD j true=false->listed.getD j true=false:=fun j h=>(fV h).1
 unfold lOp;rw [hi];obtain ⟨c1,c2⟩:=gq hC hi;dsimp only;rcases pI hX (PB h) (dv c1) c2 with ⟨hw,s0,⟨s',e0,hop⟩,hX0⟩ | ⟨hw,s0,⟨s',e0,hno⟩,hX0⟩
 ·have hX':=bE e0 hX0
  rw [if_pos hw];by_cases hq:isQ o=true
  ·unfold sR at hop;rw [hq] at hop;dsimp only at hop;obtain ⟨H1,F1,hX1,hH1⟩:=CG hX' (fun g' H F hx=>vd hx o);obtain ⟨z,d,B,_,e1,e2,e3⟩:=wV hX1 c1 (KU hX1 c1 hop);obtain ⟨v',rfl,hk⟩:=e3;unfold Oper.wp;rw [e1 w (fun _ _=>rfl)];exact ⟨fun _ _=>rfl,Pr,fun _ _ h=>h,hD _ hk (a.put o.dst z) w H1 γ F1 Pr (bE (ba _ _ _) (hX1.put (dv c1) e2)) (hPr.mono hset hH1)⟩
  ·have hp:∀ b,Pr i b->∃ x y,H b x=some y:=by
    rcases hPr i o hi hun with h | h
    ·exact absurd h hq
    ·exact h
   let g':G:=⟨g.nt,w,H,tot F s'.toS.m,g.out,g.ex,g.dfs⟩
   have hX2:RX g' s'.toS a w H γ F:=⟨hX'.mem,Fr.refl' rfl rfl rfl rfl (fun _ h=>h),hX'.nt,⟨hX'.df.1,hX'.df.2.1,dc hX'⟩,hX'.t⟩
   refine bt ?_ (fun x a' w' h=>?_) (AJ (g:=g') (e:=e.cl) (Q:=PQ e.cl.pk) he (fun _ _ h=>h) c1 hop a w ⟨H,γ,F,hX2⟩)
   ·intro a' w' ⟨s2,hs2,H2,γ2,F2,hX3⟩;have hfr:=hX3.fr
    refine ⟨fun b hb=>?_,Pr,fun _ _ h=>h,?_⟩
    ·obtain ⟨x,y,hxy⟩:=hp b hb;have hc:=hX'.mem.agree b x y hxy
     refine hfr.block b ?_ ?_
     ·show b<w.heap.size
      rcases S0 b w.heap.size with h | h
      ·exact h
      ·simp [World.cell?,TS h] at hc
     ·show tot F s'.toS.m b=0
      rcases S7 (tot F s'.toS.m b) with h | h
      ·exact h
      ·have:=hX'.mem.nofz b (by omega) x
       rw [hxy] at this; cases this
    ·exact hD _ hs2 a' w' H2 γ2 F2 Pr ⟨hX3.mem,hX'.fr.trans hfr,hX3.nt,⟨hX3.df.1,hX3.df.2.1,hX'.df.2.2⟩,hX3.t⟩ (hPr.mono hset hfr.hold)
   ·obtain ⟨s2,⟨v,t,rfl,rfl,hv⟩,H2,γ2,F2,hX3⟩:=h;exact ⟨t.clr.toS,rfl,hpk _ _ ⟨v,t.clr,rfl,rfl,hv⟩,H2,γ2,F2,KW ⟨hX3.mem,hX'.fr.trans hX3.fr,hX3.nt,⟨hX3.df.1,hX3.df.2.1,hX'.df.2.2⟩,hX3.t⟩ rfl rfl⟩
 ·have hX':=bE e0 hX0
  rw [if_neg (by rw [hw]; simp)];exact ⟨Pr,fun _ _ h=>h,hD _ hno (a.put o.dst undef) w H γ F Pr hX' (hPr.mono hset (fun _ _ _ h=>h))⟩
theorem iS {ops:Array Oper} {listed:Array Bool} {s:St} {i:Nat} {A:List Nat} {fz:Bool}:∀ {rd:List Nat},rG ops listed s rd=some (i,A,fz) ->
  ∃ o,ops[i]? = some o/\pF ops listed i A fz=true/\(fz=true->js s o=true)/\isQ o=true
 | [],h=>by cases h
 | j::r,h=>by
  simp only [rG] at h;split at h
  ·exact iS h
  ·rename_i o ho;split at h
   ·exact iS h
   ·rename_i hq;split at h
    ·rename_i hf;split at h
     ·rename_i ht;simp only [SJ,Prod.mk.injEq] at h;obtain ⟨rfl,rfl,rfl⟩:=h;exact ⟨o,ho,ht,fun _=>hf,hq⟩
     ·exact iS h
    ·split at h
     ·rename_i ht;simp only [SJ,Prod.mk.injEq] at h;obtain ⟨rfl,rfl,rfl⟩:=h;exact ⟨o,ho,ht,fun h=>(by cases h),hq⟩
     ·exact iS h
theorem AE {f:Nat->Prop}:∀ {l:List Nat},Je f l->∀ i∈l,f i
 | [i],h,j,hj=>by simp only [SY] at hj; subst hj; exact h
 | i::i'::r,h,j,hj=>by
  simp only [SS] at hj;rcases hj with rfl | hj
  ·exact h.1
  ·exact AE h.2 j (by simpa using hj)
theorem IV {s:St} {o:Oper} {t:TypeId} {x:Operand} (h:o.op=.load t x):vX s o=s:=by unfold vX; rw [h]
theorem ou (he:e.ok) (hpk:∀ x s,PQ e.pk x s->Q x s) {ops:Array Oper} {K:S->Prop} (hC:jx g.nt ops=true) (hs:Region.noSelect ops=true) (hK:∀ t:St,k t->K t.toS) :
  ∀ (fuel:Nat) (listed:Array Bool) (s:St),e9 e ops fuel listed s k->AD e.P g ops Q K fuel listed s.toS
 | 0,listed,s,h=>by
  simp only [e9] at h;split at h
  ·rename_i hr; exact Kz hr (hK s h) 0
  ·exact h.elim
 | fuel+1,listed,s,h=>by
  simp only [e9] at h;split at h
  ·rename_i hr; exact Kz hr (hK s h) _
  ·rename_i i0 rd hr;split at h
   ·rename_i i A fz hp;obtain ⟨o,hi,ht,hf,hq⟩:=iS hp;rw [hi] at h;dsimp only at h;obtain ⟨c1,c2⟩:=gq hC hi;split at h
    ·rename_i hg;intro a w H γ F Pr hX hPr;obtain ⟨H1,F1,hX1,hH1⟩:=CG hX (fun g' H F hx=>vd hx o);refine BW (D:=fun s'=>e9 e ops fuel (listed.setIfInBounds i true) s' k) hC hs hi ht (fun s' hs'=>ou he hpk hC hs hK fuel _ _ hs') ?_ a w H1 γ F1 Pr hX1 (hPr.mono (fun _ h=>h) hH1);unfold gT;rw [hg];refine ⟨fun hfz=>?_,h⟩;have:=hf hfz
     cases hop:o.op with
     | load t x=>rw [IV hop]; exact this
     | _=>unfold js; rw [hop]
    ·rename_i q hg;refine BW (D:=fun s'=>e9 e ops fuel (listed.setIfInBounds i true) s' k) hC hs hi ht (fun s' hs'=>ou he hpk hC hs hK fuel _ _ hs') ?_;refine D8 (fun s' _ hs'=>?_) (fun _ _ h=>h) h;split at hs'
     ·rename_i hb;refine ⟨fun hfz=>?_,hs'⟩;rw [hfz] at hb;simpa using hb
     ·exact hs'.elim
   ·intro a w H γ F Pr hX hPr;refine ⟨fun h0=>absurd (hr ▸ h0) (by simp),fun i hi=>?_⟩;have hun:listed.getD i true=false:=(mem_ready.1 hi).1
    have hfi:=AE h i (hr ▸ hi)
    cases ho:ops[i]? with
    | none=>rw [ho] at hfi; exact hfi.elim
    | some o=>
     rw [ho] at hfi;exact LG he hpk hC hun ho (fun s hs'=>ou he hpk hC hs hK fuel _ s hs') hfi hX hPr
theorem Mh {id:Nat} {l:List Oper} (he:e.ok) (hpk:∀ x s,PQ e.pk x s->Q x s) (hm:e.P.follows .mixedOrders=true) (hC:jx g.nt l.toArray=true) (hs:Region.noSelect l.toArray=true) {s:St}
  (hQ:∀ t:St,k t->Q .normal t.toS) (h:e9 e l.toArray l.toArray.size (Array.replicate l.toArray.size false) s k):AW e.P g (.region id l.toArray true) Q s.toS:=by
 intro a w hR;refine wp_region_any hm (iV (Z:=Zx g Q) (Q:=fun a w=>∃ s',Q .normal s'/\R g s' a w) (fun a w h=>h) (fun e a w h=>Oo h) _ _ (fun _ _=>False) _ _ ?_);obtain ⟨H,γ,F,hX⟩:=hR;exact ou (Q:=Q) he hpk hC hs hQ _ _ s h a _ H γ F _ (Nb hX _ rfl rfl rfl rfl) (fun j o _ _=>.inr fun b hb=>hb.elim)
theorem B6 {f f':Nat->Prop} (h:∀ i,f i->f' i):∀ {l:List Nat},Je f l->Je f' l
 | [],_=>trivial
 | [i],hh=>h i hh
 | i::i'::r,hh=>⟨h i hh.1,B6 h (l:=i'::r) hh.2⟩
theorem io (he:e.ok) {ops:Array Oper} {k':St->Prop}:∀ {fuel:Nat} {listed:Array Bool} {s:St},(∀ s',Ext s s'->k s'->k' s')->e9 e ops fuel listed s k->e9 e ops fuel listed s k'
 | 0,listed,s,hk,h=>by
  simp only [e9] at h ⊢;split at h
  ·exact hk _ (Ext.refl s) h
  ·exact h.elim
 | fuel+1,listed,s,hk,h=>by
  simp only [e9] at h ⊢;split at h
  ·exact hk _ (Ext.refl s) h
  ·split at h
   ·split at h
    ·split at h
     ·exact yq (fun v hv=>io he (fun s' hE=>hk s' (((AY _ _).trans (aI _ _ _)).trans hE)) hv) h
     ·refine D8 (fun s1 h1 hs1=>?_) (fun s1 h1 hs1=>io he (fun s' hE=>hk s' (h1.trans hE)) hs1) h;split at hs1
      ·exact yq (fun v hv=>io he (fun s' hE=>hk s' ((h1.trans (aI _ _ _)).trans hE)) hv) hs1
      ·exact hs1.elim
    ·exact h.elim
   ·refine B6 (fun i hi=>?_) h;split at hi
    ·exact D8 (fun s1 h1 hs1=>Bo (e:=e.cl) he (fun s2 h2 hs2=>io he (fun s' hE=>hk s' ((h1.trans h2).trans hE)) hs2) hs1) (fun s1 h1 hs1=>io he (fun s' hE=>hk s' (h1.trans hE)) hs1) hi
    ·exact hi.elim
end
end Go.Am
end

section
namespace Go.Am
def mZ (N:List Nm):T->Prop
 | .pl p=>p.root∈N
 | .rf p=>p.root∈N
 | _=>True
def vm (N:List Nm):AV1->Prop
 | .c t=>mZ N t
 | .agg ts=>∀ t∈ts,mZ N t
def EG (N:List Nm):AV->Prop
 | .one x=>vm N x
 | .tup xs=>∀ x∈xs,vm N x
 | .any=>True
def fK (r:Root):Root:=⟨r.blk,r.cells.map T.canon⟩
def ln (r r':Root):Prop:=r'.blk=r.blk/\r'.cells.length=r.cells.length/\∀ (i:Nat) t t',r.cells[i]? = some t->r'.cells[i]? = some t'->t'=t\/t'=t.canon
theorem ln.refl (r:Root):ln r r:=⟨rfl,rfl,fun i t t' h1 h2=>.inl (by rw [h1] at h2; exact (Option.some.inj h2).symm)⟩
theorem ln.canon (r:Root):ln r (fK r):=⟨rfl,by simp [fK],fun i t t' h1 h2=>.inr (by simp only [fK,SM,h1,Option.map_some,SJ] at h2; exact h2.symm)⟩
theorem ln.of {r r':Root} (h:r'=r\/r'=fK r):ln r r':=by
 rcases h with rfl | rfl
 ·exact ln.refl _
 ·exact ln.canon _
theorem nX:∀ {m:Mm} {n:Nm} {r:Root},(m.map (·.1)).Nodup->(n,r)∈m->aa m n=some r
 | [],_,_,_,h=>by cases h
 | (k,x)::m,n,r,hn,h=>by
  simp only [List.map_cons,Ti] at hn;simp only [aa];rcases SS.1 h with h | h
  ·cases h; rw [if_pos rfl]
  ·rw [if_neg (fun e=>hn.1 (by subst e; exact Tc (f:=(·.1)) h)),nX hn.2 h]
theorem BP {F:Nm->Fp} {b:Nat}:∀ {m' m:Mm},(m'.map (·.1)).Nodup->(m.map (·.1)).Nodup->(∀ x∈m',∃ r,aa m x.1=some r)->tot F m' b<=tot F m b
 | [],_,_,_,_=>Tf _
 | x::m',m,h1,h2,h=>by
  simp only [List.map_cons,Ti] at h1;obtain ⟨r,hr⟩:=h x (by simp);have e:=fi (F:=F) hr b
  have ih:=BP (F:=F) (b:=b) (m':=m') (m:=aW m x.1) h1.2 (nG h2) (fun y hy=>by
   obtain ⟨r',hr'⟩:=h y (S4 _ hy);refine ⟨r',?_⟩;rw [fh (fun e=>h1.1 (by rw [<- e]; exact Tc (f:=(·.1)) hy))];exact hr')
  show F x.1 b+tot F m' b<=tot F m b
  omega
section
variable {g:G} {a:Act} {w:World} {H:FH} {γ:Gam} {F:Nm->Fp}
theorem DN {R R':T->Fp->Value->Prop}:∀ {ts:List T} {ts':List T} {f:Fp} {vs:List Value},ts'.length=ts.length->(∀ (i:Nat) t t' f v,ts[i]? = some t->ts'[i]? = some t'->R t f v->R' t' f v)->Ts R ts f vs->Ts R' ts' f vs
 | [],[],_,_,_,_,h=>h
 | t::ts,t'::ts',f,vs,hl,hi,h=>by
  obtain ⟨v,r,f1,f2,e1,e2,h1,h2⟩:=h;exact ⟨v,r,f1,f2,e1,e2,hi 0 t t' _ _ rfl rfl h1,DN (by simpa using hl) (fun i=>hi (i+1)) h2⟩
theorem L3 {s s':S} (hX:RX g s a w H γ F) (hnd:(s'.m.map (·.1)).Nodup)
  (hm:∀ x∈s'.m,∃ r,aa s.m x.1=some r/\ln r x.2/\∀ t∈r.cells,mZ (s'.m.map (·.1)) t)
  (ht:∀ i,aE s'.t i=.any\/((aE s'.t i=aE s.t i\/aE s'.t i=(aE s.t i).map T.canon)/\EG (s'.m.map (·.1)) (aE s.t i))):RX g s' a w H γ F:=by
 have hget:∀ n,n∈s'.m.map (·.1)->∃ r r',aa s.m n=some r/\aa s'.m n=some r'/\ln r r':=by
  intro n hn;obtain ⟨x,hx,rfl⟩:=S9.1 hn;obtain ⟨r,h1,h2,_⟩:=hm x hx;exact ⟨r,x.2,h1,nX hnd hx,h2⟩
 have cell:∀ {r r':Root},ln r r'->r'.cells.length=r.cells.length/\∀ (i:Nat) sub l,r.cells[i]? = some (.ow sub l)->r'.cells[i]? = some (.ow sub l):=by
  rintro r r' ⟨_,h2,h3⟩
  refine ⟨h2,fun i sub l h=>?_⟩;have hlt:i<r'.cells.length:=by rw [h2]; exact ae h
  rw [SK hlt];rcases h3 i _ _ h (SK hlt) with e | e
  ·rw [e]
  ·rw [e]; rfl
 have pl:∀ p,p.root∈s'.m.map (·.1)->bw s.m p->bw s'.m p:=by
  intro p hp h;obtain ⟨r,r',e1,e2,e3⟩:=hget _ hp;obtain ⟨c1,c2⟩:=cell e3;unfold bw at h ⊢;rw [e1] at h;rw [e2];dsimp only at h ⊢;cases hpath:p.path with
  | nil=>rw [hpath] at h; dsimp only at h ⊢; omega
  | cons st q=>
   rw [hpath] at h;dsimp only at h ⊢;split at h
   ·rename_i sub l hc; rw [c2 _ _ _ hc]; exact h
   ·exact h.elim
 have rf:∀ p,p.root∈s'.m.map (·.1)->fx s.m p->fx s'.m p:=by
  intro p hp h;obtain ⟨r,r',e1,e2,e3⟩:=hget _ hp;obtain ⟨c1,c2⟩:=cell e3;unfold fx at h ⊢;rw [e1] at h;rw [e2];dsimp only at h ⊢;split at h
  ·rename_i sub l hc hpath; rw [c2 _ _ _ hc,hpath]; trivial
  ·rename_i l hc hpath;have hlt:p.off<r'.cells.length:=by rw [c1]; exact ae hc
   have hc':r'.cells[p.off]? = some (.mp l):=by
    rw [SK hlt];rcases e3.2.2 p.off _ _ hc (SK hlt) with e | e
    ·rw [e]
    ·rw [e]; rfl
   rw [hc',hpath]; trivial
  ·rename_i sub l st q hc hpath; rw [c2 _ _ _ hc,hpath]; exact h
  ·exact h.elim
 have tr:∀ {t:T} {f:Fp} {v:Value},mZ (s'.m.map (·.1)) t->TR w H γ s.m t f v->TR w H γ s'.m t f v:=by
  intro t f v hin h;cases t with
  | pl p=>exact ⟨h.1,pl p hin h.2.1,h.2.2⟩
  | rf p=>exact ⟨h.1,rf p hin h.2.1,h.2.2⟩
  | _=>exact h
 have trc:∀ {t:T} {f:Fp} {v:Value},mZ (s'.m.map (·.1)) t->TR w H γ s.m t f v->TR w H γ s'.m t.canon f v:=by
  intro t f v hin h;have h':=tr hin h
  cases t with
  | nil=>exact ⟨h'.1,(bK (w:=w) (H:=H) (γ:=γ) (m:=s'.m) .nil v ⟨fun _=>rfl,h'.2⟩).2⟩
  | _=>exact h'
 have hsub:∀ b,tot F s'.m b<=tot F s.m b:=fun b=>BP hnd hX.mem.keys (fun x hx=>by obtain ⟨r,h,_⟩:=hm x hx; exact ⟨r,h⟩)
 refine ⟨⟨hX.mem.agree,fun x hx=>?_,hnd,fun b=>Th (hsub b) (hX.mem.le1 b),fun b hb=>hX.mem.lt b (by have:=hsub b; omega),fun b hb=>hX.mem.nofz b (by have:=hsub b; omega)⟩,
  ⟨hX.fr.size,hX.fr.os,hX.fr.tape,hX.fr.output,hX.fr.block,hX.fr.hold,hX.fr.hnew,fun b hb=>hX.fr.tt b (by have:=hsub b; omega),hX.fr.nz⟩,hX.nt,hX.df,fun i=>?_⟩
 ·obtain ⟨r,h1,h2,h3⟩:=hm x hx;have hR:=hX.mem.roots _ (ab h1)
  have hlen:=(cell h2).1
  have key:∀ (i:Nat) t t' f v,r.cells[i]? = some t->x.2.cells[i]? = some t'->TR w H γ s.m t f v->TR w H γ s'.m t' f v:=by
   intro i t t' f v e1 e2 h;have hin:=h3 t (Tb e1)
   rcases h2.2.2 i t t' e1 e2 with e | e
   ·rw [e]; exact tr hin h
   ·rw [e]; exact trc hin h
  have hblk:x.2.blk=r.blk:=h2.1
  unfold aV at hR ⊢;rw [hblk];split at hR
  ·rename_i hb;rw [if_pos hb];obtain ⟨b,cs,ty,fz,g',k1,k2,k3,k4,k5,k6⟩:=hR;exact ⟨b,cs,ty,fz,g',k1,k2,k3,by rw [hlen]; exact k4,DN hlen key k5,k6⟩
  ·rename_i hb;rw [if_neg hb];obtain ⟨v,t,k1,k2,k3⟩:=hR;dsimp only at k2;rw [k2] at hlen key
   match hc:x.2.cells,hlen with
   | [t'],_=>exact ⟨v,t',k1,rfl,key 0 t t' _ _ rfl (by rw [hc]; rfl) k3⟩
 ·rcases ht i with h | ⟨h,hin⟩
  ·rw [h]; trivial
  ·have hv:=hX.t i
   have one:∀ {x:AV1} {y:Value},vm (s'.m.map (·.1)) x->AR1 w H γ s.m x y->AR1 w H γ s'.m x y:=by
    intro x y hin h;cases x with
    | c t=>exact tr hin h
    | agg ts=>
     obtain ⟨cs,e1,e2,e3⟩:=h;refine ⟨cs,e1,e2,DN rfl (fun i t t' f v h1 h2 h=>?_) e3⟩;rw [h1] at h2; obtain rfl:=Option.some.inj h2;exact tr (hin t (Tb h1)) h
   have all:AR w H γ s'.m (aE s.t i) (g.tv a i):=by
    revert hv hin
    cases aE s.t i with
    | one x=>exact fun hin hv=>one hin hv
    | tup xs=>
     rintro hin ⟨l,e,hl⟩
     refine ⟨l,e,?_⟩;have:∀ (xs:List AV1) (ys:List Value),(∀ x∈xs,vm (s'.m.map (·.1)) x)->ARs w H γ s.m xs ys->ARs w H γ s'.m xs ys:=by
      intro xs;induction xs with
      | nil=>intro ys _ h; cases ys <;> exact h
      | cons x xs ih=>
       intro ys hin h;cases ys with
       | nil=>exact h.elim
       | cons y ys=>exact ⟨one (hin x (by simp)) h.1,ih ys (fun z hz=>hin z (S4 _ hz)) h.2⟩
     exact this xs _ hin hl
    | any=>exact fun _ _=>trivial
   rcases h with h | h
   ·rw [h]; exact all
   ·rw [h]; exact cZ bK all
end
end Go.Am
end

section
namespace Go.Am
section
variable {g:G} {a:Act} {w:World}
theorem Iv {s:S} {H:FH} {γ:Gam} {F:Nm->Fp} (h:RX g s a w H γ F):R g s a w:=⟨H,γ,F,h⟩
theorem vM (n:Nm):∀ m:List (Nm×Nat×Rt),bi (d9 m n) n=none
 | []=>rfl
 | (k,j,v)::m=>by
  simp only [d9];by_cases h:k=n
  ·rw [if_pos h]; exact vM n m
  ·rw [if_neg h]; simp only [bi]; rw [if_neg h]; exact vM n m
theorem Dx (s:St) (n:Nm):bi (s.fresh n).m n=none:=by
 unfold St.fresh;split
 ·assumption
 ·show bi (bN _ _ (d9 s.m n)) n=none
  rw [xT,vM]; rfl
theorem xO (s:St) (k:Nat) (sh:List Sh) (u:U):Ext s (xU s k sh u):=by
 unfold xU;split
 ·refine (bx s (ia k)).trans ⟨TE _,qG _ _ _ (SN _),il _ _ _ (SN _)⟩
 ·split
  ·refine ((oH s _).trans (bx _ (ia k))).trans ⟨TE _,qG _ _ _ (SN _),il _ _ _ (SN _)⟩
  ·exact Ext.refl s
 ·exact Ext.refl s
theorem GJ {s:St} (h:R g s.toS a w) (k:Nat) (sh:List Sh) (u:U):R g (xU s k sh u).toS a w:=by
 obtain ⟨H,γ,F,hX⟩:=h;have hn:=fd hX
 unfold xU;split
 ·rename_i hv;obtain ⟨γ',F',h'⟩:=yA hX k (ia k) sh;refine ya ?_ (Iv h');unfold Io;rw [fR hv];simp only [At.toV,A1.toV,Tt.toT];have e:aa (s.toS.fresh (ia k)).m (ia k)=none:=by
   rw [<- bk hn,show (s.fresh (ia k)).toS.m=toM (s.fresh (ia k)).m from rfl,oX,Dx]; rfl
  rw [e];show SEq ⟨lq (s.toS.fresh (ia k)).t k _,_⟩ _
  rw [<- bk hn];refine ⟨fun i=>?_,rfl⟩;show aE (lq _ k _) i=aE ((k,_)::_) i
  rw [fU]; rfl
 ·rename_i n hv;split
  ·rename_i sh' u' l' hne hr;obtain ⟨γ',F',h'⟩:=yA hX k (ia k) sh;refine ya ?_ (Iv h');unfold Io;rw [fR hv];simp only [At.toV,A1.toV,Tt.toT];rw [show aa s.toS.m n=some (⟨false,[.ow sh' u' l'],none⟩:Rt).toR from aT hr];show SEq ⟨lq ((s.toS.drop n).fresh (ia k)).t k _,_⟩ _
   rw [<- aZ hn,<- bk (Il hn)];refine ⟨fun i=>?_,rfl⟩;show aE (lq _ k _) i=aE ((k,_)::_) i
   rw [fU]; rfl
  ·exact ⟨H,γ,F,hX⟩
 ·exact ⟨H,γ,F,hX⟩
theorem cJ (n:Nm) (us:List U):∀ (sh:List Sh) (off:Nat) (s:St),Ext s (aR s n us sh off)
 | [],_,s=>Ext.refl s
 | .ow sub::r,off,s=>by
  simp only [aR];split
  ·split
   ·rename_i cells hr _ _ u hc hu;have h1:Ext s ⟨s.nx+1,s.t,cO s.m n s.nx ⟨true,cells.set off (.ow sub u []),none⟩⟩:=⟨TE _,fun _ _ _ h _=>h,cF _ _ (SN _) _⟩
    exact h1.trans (cJ n us r (off+1) _)
   ·exact cJ n us r (off+1) s
  ·exact Ext.refl s
 | .fr::r,off,s=>by
  simp only [aR];split
  ·split
   ·exact (q9 s _).trans (cJ n us r (off+1) _)
   ·exact cJ n us r (off+1) s
  ·exact Ext.refl s
theorem G6 {s:St} (h:R g s.toS a w) (q:Pl):R g (pN s q).toS a w:=by
 obtain ⟨H,γ,F,hX⟩:=h;obtain ⟨H',F',h'⟩:=qW hX q;exact ⟨H',γ,F',h'⟩
theorem Gk {s:St} (h:R g s.toS a w) (v:At):R g (fT s v).toS a w:=by
 obtain ⟨H,γ,F,hX⟩:=h;obtain ⟨H',F',h'⟩:=ir hX v;exact ⟨H',γ,F',h'⟩
theorem ca (n:Nm) (us:List U):∀ (sh:List Sh) (off:Nat) {s:St},R g s.toS a w->R g (aR s n us sh off).toS a w
 | [],_,_,h=>h
 | .ow sub::r,off,s,h=>by
  simp only [aR];split
  ·rename_i cells hr;split
   ·rename_i u hc hu;refine ca n us r (off+1) ?_;obtain ⟨H,γ,F,hX⟩:=h;have h':=Ij hX n off sub
    have e:s.toS.ownR n off sub=(⟨s.nx+1,s.t,cO s.m n s.nx ⟨true,cells.set off (.ow sub u []),none⟩⟩:St).toS:=by
     unfold S.ownR;rw [show aa s.toS.m n=some (⟨true,cells,none⟩:Rt).toR from aT hr];have ec:(⟨true,cells,none⟩:Rt).toR.cells[off]? = some .nil:=by
      show (cells.map Tt.toT)[off]? = _
      rw [SM,hc]; rfl
     show (match (⟨true,cells,none⟩:Rt).toR.cells[off]? with | some .nil=>_ | _=>_)=_
     rw [ec];refine aZ.S_ext rfl ?_;show _=toM (cO s.m n s.nx _)
     rw [eD]
     congr 1
     simp only [Rt.toR,holed,Tv,Tt.toT];rfl
    rw [<- e];exact Iv h'
   ·exact ca n us r (off+1) h
  ·exact h
 | .fr::r,off,s,h=>by
  simp only [aR];split
  ·split
   ·exact ca n us r (off+1) (G6 h _)
   ·exact ca n us r (off+1) h
  ·exact h
theorem jc:∀ (sp:List Sp) (s:St),Ext s (prep sp s)
 | [],s=>Ext.refl s
 | .sl k u::r,s=>(iq s _).trans (jc r _)
 | .ow k sh u::r,s=>(xO s k sh u).trans (jc r _)
 | .rt n sh u::r,s=>(cJ n _ (unmark sh) 0 s).trans (jc r _)
 | .mp _ _ _::r,s=>jc r s
 | .mo _ _ _::r,s=>jc r s
theorem nW:∀ (sp:List Sp) {s:St},R g s.toS a w->R g (prep sp s).toS a w
 | [],_,h=>h
 | .sl k u::r,_,h=>nW r (Gk h _)
 | .ow k sh u::r,_,h=>nW r (GJ h k sh u)
 | .rt n sh u::r,_,h=>nW r (ca n _ (unmark sh) 0 h)
 | .mp _ _ _::r,_,h=>nW r h
 | .mo _ _ _::r,_,h=>nW r h
mutual
theorem Pf:∀ {a b:Sh},Rg a b=true->a=b
 | .fr,.fr,_=>rfl
 | .ow a,.ow b,h=>by rw [gu (show lg a b=true from h)]
theorem gu:∀ {a b:List Sh},lg a b=true->a=b
 | [],[],_=>rfl
 | a::r,b::q,h=>by
  simp only [lg,SL] at h;rw [Pf h.1,gu h.2]
end
def CL:List Tt->List C->Prop
 | [],[]=>True
 | t::ts,c::cs=>(t=.d c\/(t=.nil/\∃ u',c=.li u' []))/\CL ts cs
 | _,_=>False
theorem FG {u:U} {t:Tt} {x:El u} (h:wa u t=some x):t=.d (am u x)\/(t=.nil/\∃ u',am u x=.li u' []):=by
 unfold wa at h;split at h
 ·rw [cU h]; exact .inl (by rw [<- cU h])
 ·split at h
  ·simp only [SJ] at h; subst h; exact .inr ⟨rfl,_,rfl⟩
  ·cases h
 ·cases h
theorem Ac:∀ {us:List U} {ts:List Tt} {x:Fl us},jp us ts=some x->CL ts (dz us x)
 | [],[],_,_=>trivial
 | u::r,c::cs,x,h=>by
  simp only [jp] at h;cases h1:wa u c with
  | none=>rw [h1] at h; cases h
  | some y=>
   cases h2:jp r cs with
   | none=>rw [h1,h2] at h; cases h
   | some z=>
    rw [h1,h2] at h;simp only [SJ] at h;subst h;rw [dz,oI,oq];exact ⟨FG h1,Ac h2⟩
 | [],_::_,_,h=>by simp [jp] at h
 | _::_,[],_,h=>by simp [jp] at h
theorem ii {u:U} {ts:List Tt} {x:El u} (h:gi u ts=some x):CL ts (flat u x):=by
 cases u with
 | st n=>
  simp only [gi] at h;cases h1:jp (sd n).fs ts with
  | none=>rw [h1] at h; cases h
  | some y=>
   rw [h1] at h;have:=Option.some.inj h
   subst this;show CL ts (dz (sd n).fs ((sd n).un ((sd n).mkF y)))
   rw [(sd n).l2]; exact Ac h1
 | _=>
  cases ts with
  | nil=>cases h
  | cons t r=>cases r with
   | nil=>rw [iy rfl]; exact ⟨FG h,trivial⟩
   | cons _ _=>cases h
theorem tG:∀ {ts:List Tt} {cs:List C},CL ts cs->(cs.map Tt.d).map Tt.toT=(ts.map Tt.toT).map T.canon/\∀ N,∀ t∈ts.map Tt.toT,mZ N t
 | [],[],_=>⟨rfl,fun _ _ h=>by simp at h⟩
 | t::ts,c::cs,h=>by
  obtain ⟨h1,h2⟩:=h;obtain ⟨k1,k2⟩:=tG h2;simp only [List.map_cons,k1];rcases h1 with rfl | ⟨rfl,u',rfl⟩
  ·exact ⟨rfl,fun N t ht=>by
    rcases SS.1 ht with rfl | ht
    ·trivial
    ·exact k2 N t ht⟩
  ·exact ⟨rfl,fun N t ht=>by
    rcases SS.1 ht with rfl | ht
    ·trivial
    ·exact k2 N t ht⟩
 | [],_::_,h=>h.elim
 | _::_,[],h=>h.elim
theorem uw {u:U} {v:At} {x:El u} (h:lH u v=some x):(sk u x).toV=v.toV.map T.canon/\∀ N,EG N v.toV:=by
 unfold lH at h;split at h
 ·rename_i y;unfold Ks at h;split at h
  ·rename_i t;split at h
   ·rename_i hl;have hc:=ii h
    rw [iy hl] at hc;obtain ⟨k1,k2⟩:=tG hc;have e:(sk u x)=sct (am u x):=by cases u <;> first | rfl | cases hl
    rw [e];refine ⟨?_,fun N=>k2 N t.toT (by simp)⟩;have:=congrArg (·[0]?) k1
    simp only [List.map_cons,List.map_nil,Tu,SJ] at this;simp only [At.toV,A1.toV,AV.map,AV1.map,this]
   ·cases h
  ·rename_i ts;split at h
   ·cases h
   ·rename_i hl;obtain ⟨k1,k2⟩:=tG (ii h);have e:(sk u x)=.one (.agg ((flat u x).map Tt.d)):=by cases u <;> first | rfl | cases hl
    rw [e];exact ⟨by simp only [At.toV,A1.toV,AV.map,AV1.map,k1],fun N=>k2 N⟩
 ·cases h
theorem mF:∀ {sh:List Sh} {cells ts:List Tt} {cs:List C},dq sh cells=some ts->CL ts cs->(ah sh cs).map Tt.toT=(cells.map Tt.toT).map T.canon/\∀ N,∀ t∈cells.map Tt.toT,mZ N t
 | [],[],ts,cs,h,hc=>by
  simp only [dq,SJ] at h;subst h;cases cs with
  | nil=>exact ⟨rfl,fun _ _ h=>by simp at h⟩
  | cons _ _=>exact hc.elim
 | .ow s::r,c::cells,ts,cs,h,hc=>by
  cases c with
  | ow s' u l=>
   simp only [dq] at h;split at h
   ·rename_i ts' hs hr;simp only [SJ] at h;subst h;cases cs with
    | nil=>exact hc.elim
    | cons c cs=>
     obtain ⟨h1,h2⟩:=hc;obtain ⟨k1,k2⟩:=mF hr h2;rcases h1 with h1 | ⟨h1,_⟩
     ·simp only [Tt.d.injEq] at h1;subst h1;rw [gu hs];simp only [ah,List.map_cons,k1];exact ⟨rfl,fun N t ht=>by
       rcases SS.1 ht with rfl | ht
       ·trivial
       ·exact k2 N t ht⟩
     ·cases h1
   ·cases h
  | _=>simp [dq] at h
 | .fr::r,c::cells,ts,cs,h,hc=>by
  have go:∀ {t:Tt} {ts':List Tt},c=t->dq r cells=some ts'->ts=t::ts'->(∃ x,t=.d x)\/t=.nil->(ah (.fr::r) cs).map Tt.toT=((c::cells).map Tt.toT).map T.canon/\∀ N,∀ t∈(c::cells).map Tt.toT,mZ N t:=by
   rintro t ts' rfl hr rfl hk
   cases cs with
   | nil=>exact hc.elim
   | cons c' cs=>
    obtain ⟨h1,h2⟩:=hc;obtain ⟨k1,k2⟩:=mF hr h2;have e:ah (.fr::r) (c'::cs)=.d c'::ah r cs:=by cases c' <;> rfl
    rw [e];simp only [List.map_cons,k1];rcases h1 with rfl | ⟨rfl,u',rfl⟩
    ·exact ⟨rfl,fun N t ht=>by
      rcases SS.1 ht with rfl | ht
      ·trivial
      ·exact k2 N t ht⟩
    ·exact ⟨rfl,fun N t ht=>by
      rcases SS.1 ht with rfl | ht
      ·trivial
      ·exact k2 N t ht⟩
  cases c with
  | d x=>
   simp only [dq] at h;split at h
   ·rename_i ts' hr; exact go rfl hr (Option.some.inj h).symm (.inl ⟨x,rfl⟩)
   ·cases h
  | nil=>
   simp only [dq] at h;split at h
   ·rename_i ts' hr; exact go rfl hr (Option.some.inj h).symm (.inr rfl)
   ·cases h
  | _=>simp [dq] at h
 | [],_::_,_,_,h,_=>by simp [dq] at h
 | .ow _::_,[],_,_,h,_=>by simp [dq] at h
 | .fr::_,[],_,_,h,_=>by simp [dq] at h
theorem MF:∀ {sh:List Sh} {cells ts:List Tt} {cs:List C},fF sh cells=some ts->CL ts cs ->
  (((cH sh cs).map Tt.toT).length=(cells.map Tt.toT).length/\∀ (i:Nat) t t',(cells.map Tt.toT)[i]? = some t->((cH sh cs).map Tt.toT)[i]? = some t'->t'=t\/t'=t.canon)/\∀ N,∀ t∈cells.map Tt.toT,mZ N t:=by
 intro sh;induction sh with
 | nil=>
  intro cells ts cs h hc;cases cells with
  | nil=>
   simp only [fF,SJ] at h;subst h;cases cs with
   | nil=>exact ⟨⟨rfl,fun i t t' h=>by simp at h⟩,fun _ _ h=>by simp at h⟩
   | cons _ _=>exact hc.elim
  | cons _ _=>simp [fF] at h
 | cons s r ih=>
  intro cells ts cs h hc;cases cells with
  | nil=>cases s with
   | fr=>simp [fF] at h
   | ow a=>cases a <;> simp [fF] at h
  | cons c cells=>
   have go:∀ {t0:Tt} {c':C} {cs':List C} {ts':List Tt},fF r cells=some ts'->CL ts' cs'->cH (s::r) (c'::cs')=t0::cH r cs'->(t0.toT=c.toT\/t0.toT=c.toT.canon)->(∀ N,mZ N c.toT) ->
     (((cH (s::r) (c'::cs')).map Tt.toT).length=((c::cells).map Tt.toT).length/\∀ (i:Nat) t t',((c::cells).map Tt.toT)[i]? = some t->((cH (s::r) (c'::cs')).map Tt.toT)[i]? = some t'->t'=t\/t'=t.canon)/\∀ N,∀ t∈(c::cells).map Tt.toT,mZ N t:=by
    intro t0 c' cs' ts' h1 h2 h3 h4 h5;obtain ⟨⟨k1,k2⟩,k3⟩:=ih h1 h2;rw [h3];refine ⟨⟨by simp only [List.map_cons,SU,k1],fun i t t' e1 e2=>?_⟩,fun N t ht=>?_⟩
    ·cases i with
     | zero=>
      simp only [List.map_cons,Tu,SJ] at e1 e2;rw [<- e1,<- e2]; exact h4
     | succ i=>
      simp only [List.map_cons,TG] at e1 e2;exact k2 i t t' e1 e2
    ·rcases SS.1 ht with rfl | ht
     ·exact h5 N
     ·exact k3 N t ht
   cases s with
   | fr=>
    have gofr:∀ {t:Tt} {ts':List Tt},c=t->fF r cells=some ts'->ts=t::ts'->(∃ x,t=.d x)\/t=.nil->(((cH (.fr::r) cs).map Tt.toT).length=((c::cells).map Tt.toT).length/\∀ (i:Nat) t t',((c::cells).map Tt.toT)[i]? = some t->((cH (.fr::r) cs).map Tt.toT)[i]? = some t'->t'=t\/t'=t.canon)/\∀ N,∀ t∈(c::cells).map Tt.toT,mZ N t:=by
     rintro t ts' rfl hr rfl hk
     cases cs with
     | nil=>exact hc.elim
     | cons c' cs=>
      have e:cH (.fr::r) (c'::cs)=.d c'::cH r cs:=by cases c' <;> rfl
      obtain ⟨h1,h2⟩:=hc;refine go hr h2 e ?_ ?_
      ·rcases h1 with h1 | ⟨h1,u',h1'⟩
       ·rw [h1]; exact .inl rfl
       ·rw [h1,h1']; exact .inr rfl
      ·intro N;rcases hk with ⟨x,hx⟩ | hx
       ·rw [hx]; trivial
       ·rw [hx]; trivial
    cases c with
    | d x=>
     simp only [fF] at h;split at h
     ·rename_i ts' hr; exact gofr rfl hr (Option.some.inj h).symm (.inl ⟨x,rfl⟩)
     ·cases h
    | nil=>
     simp only [fF] at h;split at h
     ·rename_i ts' hr; exact gofr rfl hr (Option.some.inj h).symm (.inr rfl)
     ·cases h
    | _=>simp [fF] at h
   | ow a=>
    cases a with
    | nil=>
     cases c with
     | nil=>
      simp only [fF] at h;split at h
      ·rename_i ts' hr;simp only [SJ] at h;subst h;cases cs with
       | nil=>exact hc.elim
       | cons c' cs=>exact go hr hc.2 rfl (.inl rfl) (fun N=>trivial)
      ·cases h
     | _=>simp [fF] at h
    | cons a b=>
     cases c with
     | ow s' u l=>
      simp only [fF] at h;split at h
      ·rename_i ts' hs hr;simp only [SJ] at h;subst h;cases cs with
       | nil=>exact hc.elim
       | cons c' cs=>
        obtain ⟨h1,h2⟩:=hc;rcases h1 with h1 | ⟨h1,_⟩
        ·simp only [Tt.d.injEq] at h1;subst h1;refine go hr h2 rfl (.inl ?_) (fun N=>trivial);simp only [Tt.toT];rw [gu hs]
        ·cases h1
      ·cases h
     | _=>simp [fF] at h
theorem iv (k:Nat):∀ t:List (Nat×Nat×At),gtA t k=match bF t k with | some (_,v)=>v | none=>.any
 | []=>rfl
 | (i,j,v)::t=>by
  simp only [gtA,bF];cases Nat.beq i k with
  | true=>rfl
  | false=>exact iv k t
theorem zn {rs:List Nm} {t:Tt} (h:t.inR rs=true):mZ rs t.toT:=by
 cases t with
 | pl p=>show p.root∈rs; simpa [Tt.inR] using h
 | rf p=>show p.root∈rs; simpa [Tt.inR] using h
 | _=>trivial
theorem LA {rs:List Nm} {x:A1} (h:x.inR rs=true):vm rs x.toV:=by
 cases x with
 | c t=>exact zn h
 | agg ts=>
  intro t ht;obtain ⟨t',h1,rfl⟩:=S9.1 ht;exact zn (SQ.1 h t' h1)
theorem P1 {rs:List Nm} {x:At} (h:x.inR rs=true):EG rs x.toV:=by
 cases x with
 | one x=>exact LA h
 | tup xs=>
  intro t ht;obtain ⟨t',h1,rfl⟩:=S9.1 ht;exact LA (SQ.1 h t' h1)
 | any=>trivial
theorem FN {p:Nat->At->Prop}:∀ {t:List (Nat×Nat×At)},(∀ x∈t,p x.1 x.2.2)->∀ i,gtA t i=.any\/p i (gtA t i)
 | [],_,_=>.inl rfl
 | (k,j,v)::t,h,i=>by
  simp only [gtA];cases hb:Nat.beq k i with
  | true=>have:=SO hb; subst this; exact .inr (h (k,j,v) (by simp))
  | false=>exact FN (fun x hx=>h x (S4 _ hx)) i
theorem mM {t:List (Nat×Nat×At)}:∀ {ks:List Nat} {x:Nat×Nat×At},x∈xp t ks->x.1∈ks/\bF t x.1=some x.2
 | [],x,h=>by simp [xp] at h
 | k::r,x,h=>by
  simp only [xp] at h;split at h
  ·rename_i j v hl;rcases SS.1 h with rfl | h
   ·exact ⟨by simp,hl⟩
   ·have:=mM h; exact ⟨S4 _ this.1,this.2⟩
  ·have:=mM h; exact ⟨S4 _ this.1,this.2⟩
theorem mz {t:List (Nm×Nat×Rt)}:∀ {ks:List Nm} {x:Nm×Nat×Rt},x∈lY t ks->x.1∈ks/\bV t x.1=some x.2
 | [],x,h=>by simp [lY] at h
 | k::r,x,h=>by
  simp only [lY] at h;split at h
  ·rename_i j v hl;rcases SS.1 h with rfl | h
   ·exact ⟨by simp,hl⟩
   ·have:=mz h; exact ⟨S4 _ this.1,this.2⟩
  ·have:=mz h; exact ⟨S4 _ this.1,this.2⟩
theorem BN {s0 s:St} {rs:List Nm}:∀ {ks:List Nat},Og s0 s rs ks=true->∀ k∈ks,∃ j v0 v,bF s0.t k=some (j,v0)/\bF s.t k=some (j,v)/\j<s0.nx/\v.inR rs=true
 | [],_,k,hk=>by simp at hk
 | i::r,h,k,hk=>by
  simp only [Og,SL] at h;rcases SS.1 hk with rfl | hk
  ·have h1:=h.1
   split at h1
   ·rename_i j v0 j' v e1 e2;simp only [SL] at h1;have:=SO h1.1.1
    subst this;exact ⟨_,_,_,e1,e2,SP h1.1.2,h1.2⟩
   ·cases h1
  ·exact BN h.2 k hk
theorem uh {s0 s:St} {rs:List Nm}:∀ {ks:List Nm},IP s0 s rs ks=true->∀ k∈ks,∃ j v0 v,bV s0.m k=some (j,v0)/\bV s.m k=some (j,v)/\j<s0.nx/\v.cells.all (·.inR rs)=true
 | [],_,k,hk=>by simp at hk
 | i::r,h,k,hk=>by
  simp only [IP,SL] at h;rcases SS.1 hk with rfl | hk
  ·have h1:=h.1
   split at h1
   ·rename_i j v0 j' v e1 e2;simp only [SL] at h1;have:=SO h1.1.1
    subst this;exact ⟨_,_,_,e1,e2,SP h1.1.2,h1.2⟩
   ·cases h1
  ·exact uh h.2 k hk
theorem CA {s:St} {rs:List Nm}:∀ {ps:List (Nat×Nm×Nat)},N6 s rs ps=true->∀ p∈ps,gtA s.t p.1=.one (.c (.pl ⟨p.2.1,p.2.2,[]⟩))/\p.2.1∈rs
 | [],_,p,hp=>by simp at hp
 | (k,n,o)::r,h,p,hp=>by
  simp only [N6,SL] at h;rcases SS.1 hp with rfl | hp
  ·have h1:=h.1
   split at h1
   ·rename_i n' o' hg;simp only [SL,decide_eq_true_eq] at h1;obtain ⟨⟨rfl,h2⟩,h3⟩:=h1;have:=SO h2
    subst this;exact ⟨hg,by simpa using h3⟩
   ·cases h1
  ·exact CA h.2 p hp
theorem vP {s0 s:St} {rs:List Nm}:∀ {ks:List Nm},IP s0 s rs ks=true->(lY s0.m ks).map (·.1)=ks
 | [],_=>rfl
 | k::r,h=>by
  have hh:=h
  simp only [IP,SL] at h;obtain ⟨j,v0,v,e1,_⟩:=uh hh k (by simp);simp only [lY,e1,List.map_cons,vP h.2]
theorem ix (nx:Nat):∀ (sp:List Sp) (x:FSp sp),(fS nx sp x).map (·.1)=sp.flatMap Sp.rn
 | [],_=>rfl
 | .sl k u::r,x=>by simp only [fS,Ty,Sp.rn,TZ]; exact ix nx r _
 | .ow k sh u::r,x=>by simp only [fS,Ty,Sp.rn,List.map_cons,TY]; rw [ix nx r]
 | .rt n sh u::r,x=>by simp only [fS,Ty,Sp.rn,List.map_cons,TY]; rw [ix nx r]
 | .mp n ku vu::r,x=>by simp only [fS,Ty,Sp.rn,List.map_cons,TY]; rw [ix nx r]
 | .mo n ku vu::r,x=>by simp only [fS,Ty,Sp.rn,List.map_cons,TY]; rw [ix nx r]
theorem wL:∀ {l:List Nm},yB l=true->l.Nodup
 | [],_=>List.nodup_nil
 | n::r,h=>by
  simp only [yB,SL,TM,List.contains_eq_mem,decide_eq_false_iff_not] at h;exact Ti.2 ⟨h.1,wL h.2⟩
theorem B4 {ku vu ku' vu':U} {l:List (El ku×El vu)} {x:List (El ku'×El vu')} (h:Ga ku vu ku' vu' l=some x):∃ (e1:ku=ku') (e2:vu=vu'),x=e1 ▸ e2 ▸ l:=by
 unfold Ga at h;split at h
 ·rename_i e;obtain ⟨rfl,rfl⟩:=e;exact ⟨rfl,rfl,(Option.some.inj h).symm⟩
 ·cases h
theorem MH {s:St} {nx:Nat}:∀ {sp:List Sp} {x:FSp sp},unS s sp=some x ->
  (∀ y∈lW nx sp x,(y.2.2.toV=(gtA s.t y.1).toV\/y.2.2.toV=(gtA s.t y.1).toV.map T.canon)/\∀ N,(∀ n∈sp.flatMap Sp.rn,n∈N)->EG N (gtA s.t y.1).toV) /\
  (∀ y∈fS nx sp x,∃ r,bi s.m y.1=some r/\ln r.toR y.2.2.toR/\∀ N,∀ t∈r.toR.cells,mZ N t)
 | [],_,_=>⟨fun y h=>by simp [lW] at h,fun y h=>by simp [fS] at h⟩
 | p::r,x,h=>by
  simp only [unS] at h;cases h1:IC s p with
  | none=>rw [h1] at h; cases h
  | some a=>
   cases h2:unS s r with
   | none=>rw [h1,h2] at h; cases h
   | some b=>
    rw [h1,h2] at h;simp only [SJ] at h;obtain ⟨i1,i2⟩:=MH (nx:=nx) h2;cases p with
    | sl k u=>
     have ha:FSp.hd (.sl k u) r x=a:=by rw [<- h]; exact uU _ _ _ _
     have hb:FSp.tl (.sl k u) r x=b:=by rw [<- h]; exact tb _ _ _ _
     refine ⟨fun y hy=>?_,fun y hy=>?_⟩
     ·simp only [lW,ha,hb,SS] at hy;rcases hy with rfl | hy
      ·obtain ⟨k1,k2⟩:=uw (v:=gtA s.t k) h1;exact ⟨.inr k1,fun N _=>k2 N⟩
      ·obtain ⟨k1,k2⟩:=i1 y hy;exact ⟨k1,fun N hN=>k2 N (fun n hn=>hN n (by simp only [Ty,Tj]; exact .inr hn))⟩
     ·simp only [fS,hb] at hy; exact i2 y hy
    | ow k sh u=>
     have ha:FSp.hd (.ow k sh u) r x=a:=by rw [<- h]; exact uU _ _ _ _
     have hb:FSp.tl (.ow k sh u) r x=b:=by rw [<- h]; exact tb _ _ _ _
     simp only [IC] at h1;split at h1
     ·rename_i n sh' u' l hv hr;cases hn:decide (n=ia k) <;> cases hsh:lg sh sh' <;> rw [hn,hsh] at h1
      ·cases h1
      ·cases h1
      ·cases h1
      ·have hn':n=ia k:=by simpa using hn
       subst hn';obtain ⟨e,rfl⟩:=iE h1;subst e;obtain rfl:=gu hsh;refine ⟨fun y hy=>?_,fun y hy=>?_⟩
       ·simp only [lW,hb,SS] at hy;rcases hy with rfl | hy
        ·refine ⟨.inl (by rw [hv]),fun N hN=>?_⟩;rw [hv];exact hN _ (by simp [Ty,Sp.rn])
        ·obtain ⟨k1,k2⟩:=i1 y hy;exact ⟨k1,fun N hN=>k2 N (fun n hn=>hN n (by simp only [Ty,Tj]; exact .inr hn))⟩
       ·simp only [fS,ha,hb,SS] at hy;rcases hy with rfl | hy
        ·exact ⟨_,hr,ln.refl _,fun N t ht=>by simp only [Rt.toR,holed,List.map_cons,List.map_nil,SY] at ht; subst ht; trivial⟩
        ·exact i2 y hy
     ·cases h1
    | mp n ku vu=>
     have ha:FSp.hd (.mp n ku vu) r x=a:=by rw [<- h]; exact uU _ _ _ _
     have hb:FSp.tl (.mp n ku vu) r x=b:=by rw [<- h]; exact tb _ _ _ _
     simp only [IC] at h1;split at h1
     ·rename_i ku' vu' l hr;obtain ⟨e1,e2,rfl⟩:=B4 h1;subst e1; subst e2;refine ⟨fun y hy=>?_,fun y hy=>?_⟩
      ·simp only [lW,hb] at hy;obtain ⟨k1,k2⟩:=i1 y hy;exact ⟨k1,fun N hN=>k2 N (fun n hn=>hN n (by simp only [Ty,Tj]; exact .inr hn))⟩
      ·simp only [fS,ha,hb,SS] at hy;rcases hy with rfl | hy
       ·exact ⟨_,hr,ln.refl _,fun N t ht=>by simp only [Rt.toR,holed,List.map_cons,List.map_nil,SY] at ht; subst ht; trivial⟩
       ·exact i2 y hy
     ·cases h1
    | mo n ku vu=>
     have ha:FSp.hd (.mo n ku vu) r x=a:=by rw [<- h]; exact uU _ _ _ _
     have hb:FSp.tl (.mo n ku vu) r x=b:=by rw [<- h]; exact tb _ _ _ _
     simp only [IC] at h1;split at h1
     ·rename_i ku' vu' l hr;obtain ⟨e1,e2,rfl⟩:=B4 h1;subst e1; cases e2;refine ⟨fun y hy=>?_,fun y hy=>?_⟩
      ·simp only [lW,hb] at hy;obtain ⟨k1,k2⟩:=i1 y hy;exact ⟨k1,fun N hN=>k2 N (fun n hn=>hN n (by simp only [Ty,Tj]; exact .inr hn))⟩
      ·simp only [fS,ha,hb,SS] at hy;rcases hy with rfl | hy
       ·exact ⟨_,hr,ln.refl _,fun N t ht=>by simp only [Rt.toR,holed,List.map_cons,List.map_nil,SY] at ht; subst ht; trivial⟩
       ·exact i2 y hy
     ·cases h1
    | rt n sh u=>
     have ha:FSp.hd (.rt n sh u) r x=a:=by rw [<- h]; exact uU _ _ _ _
     have hb:FSp.tl (.rt n sh u) r x=b:=by rw [<- h]; exact tb _ _ _ _
     simp only [IC] at h1;split at h1
     ·rename_i cells hr;split at h1
      ·rename_i ts hts;obtain ⟨k1,k2⟩:=MF hts (ii h1);refine ⟨fun y hy=>?_,fun y hy=>?_⟩
       ·simp only [lW,hb] at hy;obtain ⟨k1,k2⟩:=i1 y hy;exact ⟨k1,fun N hN=>k2 N (fun n hn=>hN n (by simp only [Ty,Tj]; exact .inr hn))⟩
       ·simp only [fS,ha,hb,SS] at hy;rcases hy with rfl | hy
        ·exact ⟨_,hr,⟨rfl,k1.1,k1.2⟩,fun N t ht=>k2 N t ht⟩
        ·exact i2 y hy
      ·cases h1
     ·cases h1
def jn1 (σ:Sg) (s0:St) (J:FSp σ.sp->Prop) (s:St):Prop:=σ.fit s0 s=true/\∃ x,unS s σ.sp=some x/\J x
theorem MO {σ:Sg} {s0 s1:St} {J:FSp σ.sp->Prop} (hE1:Ext s0 s1) (h:jn1 σ s0 J s1) (hR1:R g s1.toS a w):∃ v,J v/\R g (σ.st s0 v).toS a w:=by
   obtain ⟨hf,v,hv,h⟩:=h;refine ⟨v,h,?_⟩;obtain ⟨H,γ,F,hX⟩:=hR1;simp only [Sg.fit,SL] at hf;obtain ⟨⟨⟨f1,f2⟩,f3⟩,f4⟩:=hf;obtain ⟨l1,l2⟩:=MH (nx:=s0.nx) hv;have hkeys:(σ.st s0 v).toS.m.map (·.1)=σ.rn:=by
    show (toM (lY s0.m σ.kr++fS s0.nx σ.sp v)).map (·.1)=_
    simp only [toM,SX];show (lY s0.m σ.kr++fS s0.nx σ.sp v).map (·.1)=_
    rw [TP,vP f4,ix]; rfl
   refine ⟨H,γ,F,L3 hX (by rw [hkeys]; exact wL f1) (fun x hx=>?_) (fun i=>?_)⟩
   ·rw [hkeys];obtain ⟨y,hy,rfl⟩:=S9.1 (show x∈toM (lY s0.m σ.kr++fS s0.nx σ.sp v) from hx);rcases Tj.1 hy with hy | hy
    ·obtain ⟨hk,hl⟩:=mz hy;obtain ⟨j,v0,v1,e1,e2,e3,e4⟩:=uh f4 y.1 hk;have e5:=hE1.m _ _ _ e2 e3
     rw [hl] at e5;have e6:=Option.some.inj e5
     have eg:bi s1.m y.1=some y.2.2:=by rw [k9,e2]; simp [e6]
     refine ⟨y.2.2.toR,aT eg,ln.refl _,fun t ht=>?_⟩;have hv1:y.2.2=v1:=by rw [e6]
     rw [hv1] at ht;have hH:=vK v1.cells v1.hole
     obtain ⟨i,hi,hit⟩:=List.getElem_of_mem ht;have hlen:=hH.len
     have hi':i<v1.cells.length:=by
      have:(v1.toR.cells).length=v1.cells.length:=hlen
      omega
     rcases hH.nth i _ t (SK hi') (by rw [<- hit]; exact SK hi) with e | ⟨_,_,_,_,_,e,_⟩
     ·rw [e]; exact zn (SQ.1 e4 _ (Tk hi'))
     ·rw [e]; trivial
    ·obtain ⟨r,k1,k2,k3⟩:=l2 y hy;exact ⟨r.toR,aT k1,k2,k3 _⟩
   ·rw [hkeys];have key:∀ y∈(σ.st s0 v).t,(y.2.2.toV=(gtA s1.t y.1).toV\/y.2.2.toV=(gtA s1.t y.1).toV.map T.canon)/\EG σ.rn (gtA s1.t y.1).toV:=by
     intro y hy;rcases Tj.1 hy with hy | hy
     ·obtain ⟨hk,hl⟩:=mM hy;obtain ⟨j,v0,v1,e1,e2,e3,e4⟩:=BN f3 y.1 hk;have e5:=hE1.t _ _ _ e2 e3
      rw [hl] at e5;have e6:=Option.some.inj e5
      have eg:gtA s1.t y.1=v1:=by rw [iv,e2]
      rw [eg,e6];exact ⟨.inl rfl,P1 e4⟩
     ·rcases Tj.1 hy with hy | hy
      ·obtain ⟨p,hp,rfl⟩:=S9.1 hy;obtain ⟨e1,e2⟩:=CA f2 p hp;dsimp only;rw [e1];exact ⟨.inl rfl,e2⟩
      ·obtain ⟨k1,k2⟩:=l1 y hy;exact ⟨k1,k2 _ (fun n hn=>by unfold Sg.rn; exact List.mem_append_right _ hn)⟩
    have hs1:aE s1.toS.t i=(gtA s1.t i).toV:=cm i s1.t
    have hst:aE (σ.st s0 v).toS.t i=(gtA (σ.st s0 v).t i).toV:=cm i (σ.st s0 v).t
    rw [hs1,hst];rcases FN (p:=fun i v=>(v.toV=(gtA s1.t i).toV\/v.toV=(gtA s1.t i).toV.map T.canon)/\EG σ.rn (gtA s1.t i).toV) key i with e | e
    ·rw [e]; exact .inl rfl
    ·exact .inr e
theorem PK {σ:Sg} {s0 s:St} {J:FSp σ.sp->Prop} (hE:Ext s0 s) (h:jn σ s0 J s) (hR:R g s.toS a w):∃ v,J v/\R g (σ.st s0 v).toS a w:=by
 unfold jn at h;dsimp only at h;have hR1:=nW (g:=g) (a:=a) (w:=w) σ.sp hR
 have hE1:=hE.trans (jc σ.sp s)
 split at h
 ·rename_i hf;split at h
  ·rename_i v hv; exact MO hE1 ⟨hf,v,hv,h⟩ hR1
  ·exact h.elim
 ·exact h.elim
theorem xt {k:Nat} {y:Nat×At}:∀ {t:List (Nat×Nat×At)},bF t k=some y->(k,y)∈t
 | [],h=>by cases h
 | (i,j,v)::t,h=>by
  simp only [bF] at h;split at h
  ·rename_i hb;have:=SO hb
   subst this;rw [<- Option.some.inj h]; simp
  ·exact S4 _ (xt h)
theorem wE {k:Nm} {y:Nat×Rt}:∀ {t:List (Nm×Nat×Rt)},bV t k=some y->(k,y)∈t
 | [],h=>by cases h
 | (i,j,v)::t,h=>by
  simp only [bV] at h;split at h
  ·rename_i hb;subst hb;rw [<- Option.some.inj h]; simp
  ·exact S4 _ (wE h)
theorem pS (nx:Nat):∀ (sp:List Sp) (x:FSp sp),(∀ y∈lW nx sp x,y.2.1=nx)/\∀ y∈fS nx sp x,y.2.1=nx
 | [],_=>⟨fun y h=>by simp [lW] at h,fun y h=>by simp [fS] at h⟩
 | .sl k u::r,x=>by
  obtain ⟨h1,h2⟩:=pS nx r (FSp.tl (.sl k u) r x);refine ⟨fun y h=>?_,fun y h=>h2 y h⟩;simp only [lW,SS] at h;rcases h with rfl | h
  ·rfl
  ·exact h1 y h
 | .ow k sh u::r,x=>by
  obtain ⟨h1,h2⟩:=pS nx r (FSp.tl (.ow k sh u) r x);refine ⟨fun y h=>?_,fun y h=>?_⟩
  ·simp only [lW,SS] at h;rcases h with rfl | h
   ·rfl
   ·exact h1 y h
  ·simp only [fS,SS] at h;rcases h with rfl | h
   ·rfl
   ·exact h2 y h
 | .rt n sh u::r,x=>by
  obtain ⟨h1,h2⟩:=pS nx r (FSp.tl (.rt n sh u) r x);refine ⟨fun y h=>h1 y h,fun y h=>?_⟩;simp only [fS,SS] at h;rcases h with rfl | h
  ·rfl
  ·exact h2 y h
 | .mp n ku vu::r,x=>by
  obtain ⟨h1,h2⟩:=pS nx r (FSp.tl (.mp n ku vu) r x);refine ⟨fun y h=>h1 y h,fun y h=>?_⟩;simp only [fS,SS] at h;rcases h with rfl | h
  ·rfl
  ·exact h2 y h
 | .mo n ku vu::r,x=>by
  obtain ⟨h1,h2⟩:=pS nx r (FSp.tl (.mo n ku vu) r x);refine ⟨fun y h=>h1 y h,fun y h=>?_⟩;simp only [fS,SS] at h;rcases h with rfl | h
  ·rfl
  ·exact h2 y h
theorem vG (σ:Sg) (s:St) (x:FSp σ.sp):Ext s (σ.st s x):=by
 obtain ⟨l1,l2⟩:=pS s.nx σ.sp x;refine ⟨TE _,fun k j v h hj=>?_,fun n j r h hj=>?_⟩
 ·have hm:=xt h
  rcases Tj.1 hm with hm | hm
  ·exact (mM hm).2
  ·rcases Tj.1 hm with hm | hm
   ·obtain ⟨p,_,e⟩:=S9.1 hm;simp only [Prod.mk.injEq] at e;omega
   ·have:=l1 _ hm; dsimp only at this; omega
 ·have hm:=wE h
  rcases Tj.1 hm with hm | hm
  ·exact (mz hm).2
  ·have:=l2 _ hm; dsimp only at this; omega
end
end Go.Am
end

section
namespace Go.Am
def eQ (nt:Nat):Code->Bool
 | .region _ ops false=>zc nt ops.toList ops.toList
 | .region _ ops true=>jx nt ops&&Region.noSelect ops
 | .seq a b=>eQ nt a&&eQ nt b
 | .cond (.tmp t) a b=>Nat.blt t 100000&&(eQ nt a&&eQ nt b)
 | .block _ a=>eQ nt a
 | .loop a=>eQ nt a
 | _=>true
def LQ (pk:PKt) (K:Kt):Exit->S->Prop
 | .normal,s=>∃ t:St,s=t.toS/\K.n t
 | .exit i,s=>∃ t:St,s=t.toS/\K.x i t
 | .ret,s=>∃ t:St,s=t.toS/\K.r t
 | .panic c,s=>∃ v,∃ t:St,c=chn v/\s=t.toS/\pk v t
 | _,_=>False
theorem Py {pk:PKt} {K:Kt}:∀ x s,PQ pk x s->LQ pk K x s:=by
 rintro x s ⟨v,t,rfl,rfl,h2⟩
 exact ⟨v,t,rfl,rfl,h2⟩
theorem NC {σ:Sg} {s0 s:St} {J J':FSp σ.sp->Prop} (hj:∀ v,J v->J' v) (h:jn σ s0 J s):jn σ s0 J' s:=by
 unfold jn at h ⊢;dsimp only at h ⊢;split at h
 ·split at h
  ·exact hj _ h
  ·exact h.elim
 ·exact h.elim
theorem vj {α:Type} {b b':(α->Prop)->α->Prop} (hb:∀ R R':α->Prop,(∀ v,R v->R' v)->∀ v,b R v->b' R' v):∀ n v,nk b n v->nk b' n v
 | 0,_,h=>h.elim
 | n+1,v,h=>hb _ _ (vj hb n) v h
theorem yu {e:En} (he:e.ok):∀ (c:Code) (an:An) (s:St) (K K':Kt),(∀ s',Ext s s'->K.n s'->K'.n s')->(∀ i s',Ext s s'->K.x i s'->K'.x i s')->(∀ s',Ext s s'->K.r s'->K'.r s')->wpT e an c s K->wpT e an c s K':=by
 intro c;induction c with
 | skip=>intro an s K K' hn hx hr h; simp only [wpT] at h ⊢; exact hn s (Ext.refl s) h
 | exit i=>intro an s K K' hn hx hr h; simp only [wpT] at h ⊢; exact hx i s (Ext.refl s) h
 | ret=>intro an s K K' hn hx hr h; simp only [wpT] at h ⊢; exact hr s (Ext.refl s) h
 | region id ops dr=>
  intro an s K K' hn hx hr h;cases dr with
  | false=>simp only [wpT] at h ⊢; exact tN he hn h
  | true=>simp only [wpT] at h ⊢; exact io he hn h
 | seq a b iha ihb=>
  intro an s K K' hn hx hr h;cases an with
  | s p q=>
   simp only [wpT] at h ⊢;exact iha p s ⟨fun s'=>wpT e (q.pick s') b s' K,K.x,K.r⟩ ⟨fun s'=>wpT e (q.pick s') b s' K',K'.x,K'.r⟩ (fun s1 h1 hs1=>ihb (q.pick s1) s1 K K' (fun s2 h2=>hn s2 (h1.trans h2)) (fun i s2 h2=>hx i s2 (h1.trans h2)) (fun s2 h2=>hr s2 (h1.trans h2)) hs1) hx hr h
  | j σ p q=>
   simp only [wpT] at h ⊢;intro J hJ;refine iha p s ⟨jn σ s J,K.x,K.r⟩ ⟨jn σ s J,K'.x,K'.r⟩ (fun s1 _ h=>h) hx hr (h J (fun v hv=>hJ v ?_));exact ihb q _ K K' (fun s2 h2=>hn s2 ((vG σ s v).trans h2)) (fun i s2 h2=>hx i s2 ((vG σ s v).trans h2)) (fun s2 h2=>hr s2 ((vG σ s v).trans h2)) hv
  | _=>simp only [wpT] at h
 | cond t a b iha ihb=>
  intro an s K K' hn hx hr h;cases an with
  | c p q=>
   cases t with
   | tmp t=>
    simp only [wpT] at h ⊢;split at h
    ·rename_i c _;cases c
     ·simp only [SV,if_false] at h ⊢; exact ihb q s K K' hn hx hr h
     ·simp only [if_true] at h ⊢; exact iha p s K K' hn hx hr h
    ·exact h.elim
   | _=>simp only [wpT] at h
  | _=>cases t <;> simp only [wpT] at h
 | block id a iha=>
  intro an s K K' hn hx hr h;cases an with
  | b p=>
   simp only [wpT] at h ⊢;refine iha p s ⟨K.n,fun i s'=>match Nat.beq i id with | true=>K.n s' | false=>K.x i s',K.r⟩ ⟨K'.n,fun i s'=>match Nat.beq i id with | true=>K'.n s' | false=>K'.x i s',K'.r⟩ hn (fun i s' hE hs'=>?_) hr h;dsimp only at hs' ⊢;cases hb:Nat.beq i id with
   | true=>rw [hb] at hs'; exact hn s' hE hs'
   | false=>rw [hb] at hs'; exact hx i s' hE hs'
  | _=>simp only [wpT] at h
 | loop a iha=>
  intro an s K K' hn hx hr h;cases an with
  | lp σ p=>
   simp only [wpT] at h ⊢;have hEp:=jc σ.sp s
   generalize prep σ.sp s=s1 at h hEp;split at h
   ·split at h
    ·obtain ⟨n,hl⟩:=h;refine ⟨n,vj (fun R R' hR v hv=>?_) n _ hl⟩;have hE:=hEp.trans (vG σ s1 v)
     exact iha p _ ⟨jn σ s1 R,K.x,K.r⟩ ⟨jn σ s1 R',K'.x,K'.r⟩ (fun s2 _ h=>NC hR h) (fun i s2 h2=>hx i s2 (hE.trans h2)) (fun s2 h2=>hr s2 (hE.trans h2)) hv
    ·exact h.elim
   ·exact h.elim
  | un n p=>
   simp only [wpT] at h ⊢;have key:∀ n (s1:St),Ext s s1->m8 (fun R s'=>wpT e p a s' ⟨R,K.x,K.r⟩) n s1->m8 (fun R s'=>wpT e p a s' ⟨R,K'.x,K'.r⟩) n s1:=by
    intro n;induction n with
    | zero=>intro s1 _ h; exact h.elim
    | succ n ih=>
     intro s1 hE h;exact iha p s1 ⟨m8 (fun R s'=>wpT e p a s' ⟨R,K.x,K.r⟩) n,K.x,K.r⟩ ⟨m8 (fun R s'=>wpT e p a s' ⟨R,K'.x,K'.r⟩) n,K'.x,K'.r⟩ (fun s2 h2 hs2=>ih s2 (hE.trans h2) hs2) (fun i s2 h2=>hx i s2 (hE.trans h2)) (fun s2 h2=>hr s2 (hE.trans h2)) h
   exact key n s (Ext.refl s) h
  | _=>simp only [wpT] at h
 | _=>intro an s K K' hn hx hr h; cases an <;> simp only [wpT] at h
theorem ke {P:Program} {g:G} {c:Code} {Q Q':Exit->S->Prop} {s:S} (h:AW P g c Q s) (hq:∀ e s' a w,Q e s'->R g s' a w->∃ s'',Q' e s''/\R g s'' a w):AW P g c Q' s:=fun a w hR=>
 Code.wp_mono (fun e a' w' ⟨s',h1,h2⟩=>hq e s' a' w' h1 h2) (h a w hR)
theorem iN {e:En} (he:e.ok) (hm:e.P.follows .mixedOrders=true) {g:G}:∀ (c:Code) (an:An) (s:St) (K:Kt),eQ g.nt c=true->wpT e an c s K->AW e.P g c (LQ e.pk K) s.toS:=by
 intro c;induction c with
 | skip=>intro an s K hc h; simp only [wpT] at h; exact oA ⟨s,rfl,h⟩
 | exit i=>intro an s K hc h; simp only [wpT] at h; exact Gi ⟨s,rfl,h⟩
 | ret=>intro an s K hc h; simp only [wpT] at h; exact DV ⟨s,rfl,h⟩
 | region id ops dr=>
  intro an s K hc h;obtain ⟨l⟩:=ops;cases dr with
  | false=>
   simp only [wpT] at h;exact kg (kY he Py hc h (fun t ht=>⟨t,rfl,ht⟩))
  | true=>
   simp only [wpT] at h;simp only [eQ,SL] at hc;exact Mh he Py hm hc.1 hc.2 (fun t ht=>⟨t,rfl,ht⟩) h
 | seq a b iha ihb=>
  intro an s K hc h;simp only [eQ,SL] at hc;cases an with
  | s p q=>
   simp only [wpT] at h;refine lM (AW.mono (iha p s _ hc.1 h) (fun e' s' h'=>?_));cases e' with
   | normal=>obtain ⟨t,rfl,ht⟩:=h'; exact ihb (q.pick t) t K hc.2 ht
   | exit i=>exact h'
   | ret=>exact h'
   | panic c=>exact h'
   | _=>exact h'
  | j σ p q=>
   simp only [wpT] at h;have h1:=h _ (fun v hv=>hv)
   have h2:=yu he a p s ⟨jn σ s (fun v=>wpT e q b (σ.st s v) K),K.x,K.r⟩ ⟨fun s'=>Ext s s'/\jn σ s (fun v=>wpT e q b (σ.st s v) K) s',K.x,K.r⟩ (fun s' hE hs'=>⟨hE,hs'⟩) (fun _ _ _ h=>h) (fun _ _ h=>h) h1
   refine lM (AW.mono (iha p s _ hc.1 h2) (fun e' s' h'=>?_));cases e' with
   | normal=>
    obtain ⟨t,rfl,hE,ht⟩:=h';intro a' w' hR;obtain ⟨v,hv,hR'⟩:=PK hE ht hR;exact ihb q _ K hc.2 hv a' w' hR'
   | exit i=>exact h'
   | ret=>exact h'
   | panic c=>exact h'
   | _=>exact h'
  | _=>simp only [wpT] at h
 | cond t a b iha ihb=>
  intro an s K hc h;cases an with
  | c p q=>
   cases t with
   | tmp t=>
    simp only [eQ,SL] at hc;simp only [wpT] at h;split at h
    ·rename_i c hcc;refine sN (fR hcc) (fun hb=>?_) (fun hb=>?_) (SP hc.1)
     ·subst hb; rw [if_pos rfl] at h; exact iha p s K hc.2.1 h
     ·subst hb; rw [if_neg (by simp)] at h; exact ihb q s K hc.2.2 h
    ·exact h.elim
   | _=>simp only [wpT] at h
  | _=>cases t <;> simp only [wpT] at h
 | block id a iha=>
  intro an s K hc h;cases an with
  | b p=>
   simp only [wpT] at h;refine BM (AW.mono (iha p s _ hc h) (fun e' s' h'=>?_));cases e' with
   | normal=>exact h'
   | exit i=>
    obtain ⟨t,rfl,ht⟩:=h';simp only [vl];dsimp only at ht;cases hb:Nat.beq i id with
    | true=>
     rw [hb] at ht;rw [if_pos (SO hb)];exact ⟨t,rfl,ht⟩
    | false=>
     rw [hb] at ht;rw [if_neg (fun e=>by rw [e,Uy] at hb; cases hb)];exact ⟨t,rfl,ht⟩
   | ret=>exact h'
   | _=>exact h'
  | _=>simp only [wpT] at h
 | loop a iha=>
  intro an s K hc h;cases an with
  | lp σ p=>
   simp only [wpT] at h;have hRp:∀ a' w',R g s.toS a' w'->R g (prep σ.sp s).toS a' w':=fun a' w' hR=>nW σ.sp hR
   generalize prep σ.sp s=s1 at h hRp;split at h
   ·rename_i hf;split at h
    ·rename_i x0 hx0;obtain ⟨n,hl⟩:=h;intro a0 w0 hR0;have hj:jn1 σ s1 (fun v=>v=x0) s1:=⟨hf,x0,hx0,rfl⟩
     obtain ⟨v,rfl,hR1⟩:=MO (Ext.refl s1) hj (hRp _ _ hR0);refine yP (fun n S'=>∃ v,nk (fun R v=>wpT e p a (σ.st s1 v) ⟨jn σ s1 R,K.x,K.r⟩) n v/\S'=(σ.st s1 v).toS) n ⟨v,hl,rfl⟩ (fun n S' hS=>?_) a0 w0 hR1
     ·obtain ⟨v,hv,rfl⟩:=hS;cases n with
      | zero=>exact hv.elim
      | succ n=>
       have h2:=yu he a p (σ.st s1 v) ⟨jn σ s1 (nk (fun R v=>wpT e p a (σ.st s1 v) ⟨jn σ s1 R,K.x,K.r⟩) n),K.x,K.r⟩ ⟨fun s'=>Ext (σ.st s1 v) s'/\jn σ s1 (nk (fun R v=>wpT e p a (σ.st s1 v) ⟨jn σ s1 R,K.x,K.r⟩) n) s',K.x,K.r⟩ (fun s' hE hs'=>⟨hE,hs'⟩) (fun _ _ _ h=>h) (fun _ _ h=>h) hv
       refine ke (iha p _ _ hc h2) (fun e' s' a' w' h' hR'=>?_);cases e' with
       | normal=>
        obtain ⟨t,rfl,hE,ht⟩:=h';obtain ⟨v',hv',hR2⟩:=PK ((vG σ s1 v).trans hE) ht hR';exact ⟨_,⟨n,Nat.lt_succ_self n,v',hv',rfl⟩,hR2⟩
       | exit i=>exact ⟨s',h',hR'⟩
       | ret=>exact ⟨s',h',hR'⟩
       | panic c=>exact ⟨s',h',hR'⟩
       | _=>exact h'.elim
    ·exact h.elim
   ·exact h.elim
  | un n p=>
   simp only [wpT] at h;refine yP (fun n S'=>∃ t:St,S'=t.toS/\m8 (fun R s'=>wpT e p a s' ⟨R,K.x,K.r⟩) n t) n ⟨s,rfl,h⟩ (fun n S' hS=>?_);obtain ⟨t,rfl,ht⟩:=hS;cases n with
   | zero=>exact ht.elim
   | succ n=>
    refine ke (iha p t ⟨m8 (fun R s'=>wpT e p a s' ⟨R,K.x,K.r⟩) n,K.x,K.r⟩ hc ht) (fun e' s' a' w' h' hR'=>?_);cases e' with
    | normal=>
     obtain ⟨t2,rfl,ht2⟩:=h';exact ⟨_,⟨n,Nat.lt_succ_self n,t2,rfl,ht2⟩,hR'⟩
    | exit i=>exact ⟨s',h',hR'⟩
    | ret=>exact ⟨s',h',hR'⟩
    | panic c=>exact ⟨s',h',hR'⟩
    | _=>exact h'.elim
  | _=>simp only [wpT] at h
 | _=>intro an s K hc h; cases an <;> simp only [wpT] at h
end Go.Am
end

section
namespace Go.Am
def eM:(us:List U)->Fl us->List AV
 | [],_=>[]
 | u::r,x=>(sk u (Fl.hd u r x)).toV::eM r (Fl.tl u r x)
def p8:(us:List U)->Fl us->List AV1
 | [],_=>[]
 | u::r,x=>(wC u (Fl.hd u r x)).toV::p8 r (Fl.tl u r x)
theorem pe (u:U) (x:El u):sk u x=.one (wC u x):=by cases u <;> rfl
theorem n5 {u:U} {v:At} {x:El u} (h:lH u v=some x):v.noRf=true/\v.toV.isFz=true:=by
 have cl:∀ {ts:List Tt} {cs:List C},CL ts cs->ts.all Tt.noRf=true/\(ts.map Tt.toT).all T.isFz=true:=by
  intro ts;induction ts with
  | nil=>exact fun _=>⟨rfl,rfl⟩
  | cons t ts ih=>
   intro cs hc;cases cs with
   | nil=>exact hc.elim
   | cons c cs=>
    obtain ⟨h1,h2⟩:=ih hc.2;rcases hc.1 with rfl | ⟨rfl,_⟩
    ·exact ⟨by simp only [S6,h1]; rfl,by simp only [List.map_cons,S6,h2]; rfl⟩
    ·exact ⟨by simp only [S6,h1]; rfl,by simp only [List.map_cons,S6,h2]; rfl⟩
 unfold lH at h;split at h
 ·unfold Ks at h;split at h
  ·split at h
   ·obtain ⟨h1,h2⟩:=cl (ii h);refine ⟨?_,?_⟩
    ·rename_i t _ _; show t.noRf=true; simpa using h1
    ·rename_i t _ _; show t.toT.isFz=true; simpa using h2
   ·cases h
  ·split at h
   ·cases h
   ·obtain ⟨h1,h2⟩:=cl (ii h);exact ⟨h1,h2⟩
 ·cases h
theorem cr:∀ {us:List U} {vs:List At} {x:Fl us},bh us vs=some x->vs.all At.noRf=true/\(vs.map At.toV).all AV.isFz=true/\(vs.map At.toV).map (AV.map T.canon)=eM us x
 | [],[],_,_=>⟨rfl,rfl,rfl⟩
 | u::r,v::vs,x,h=>by
  simp only [bh] at h;cases h1:lH u v with
  | none=>rw [h1] at h; cases h
  | some a=>
   cases h2:bh r vs with
   | none=>rw [h1,h2] at h; cases h
   | some b=>
    rw [h1,h2] at h;simp only [SJ] at h;subst h;obtain ⟨i1,i2,i3⟩:=cr h2;obtain ⟨k1,k2⟩:=n5 h1;refine ⟨by simp only [S6,k1,i1,Up],by simp only [List.map_cons,S6,k2,i2,Up],?_⟩;simp only [List.map_cons,eM,oI,oq,i3,(uw h1).1]
 | [],_::_,_,h=>by simp [bh] at h
 | _::_,[],_,h=>by simp [bh] at h
section
variable {P:Program}
theorem dw {s:St} {ops:List Operand} (h:ops.all ay=true):ops.map (ev s.toS)=(ops.map (evA s)).map At.toV:=by
 rw [SX];exact S1 fun x hx=>af (SQ.1 h x hx)
theorem lU {f:Nat} {φ:List AV->(AV->Prop)->Prop} {ps rs:List U} {pre:Fl ps->Prop} {F:Fl ps->Fl rs} (hφ:∀ x K,pre x->K (bJ rs (F x)).toV->φ (eM ps x) K) (h:Con P f (lL φ)):Cont P f (bZ ps rs pre F):=by
 refine ⟨h.run,fun pk s ops k k' hk hc=>?_,fun g pk s a w H γ F1 ops k hX hops hc=>?_⟩
 ·unfold bZ at hc ⊢;dsimp only at hc ⊢;split at hc
  ·exact ⟨hc.1,hk _ _ (bG _ _) hc.2⟩
  ·exact hc.elim
 ·unfold bZ at hc;dsimp only at hc;obtain ⟨H1,F2,h1⟩:=bT (ops.map (evA s)) s H F1 hX;generalize aX s (ops.map (evA s))=s1 at hc h1;split at hc
  ·rename_i x hx;obtain ⟨c1,c2,c3⟩:=cr hx;refine Calls.mono (h.call g s1.toS a w H1 γ F2 ops (fun s' av=>∃ t v',SEq s' t.toS/\av=v'.toV/\k t v') h1 hops ?_) ?_
   ·unfold lL;dsimp only;rw [dw hops,dy c1];have e:(ops.map fun x=>(ev s1.toS x).map T.canon)=(ops.map (ev s1.toS)).map (AV.map T.canon):=by rw [SX]; rfl
    rw [e,dw hops];refine ⟨c2,?_⟩;rw [c3];exact hφ x _ hc.1 ⟨s1,_,⟨fun _=>rfl,rfl⟩,rfl,hc.2⟩
   ·rintro e w' ⟨r,s',av,H',γ',F',k1,⟨t,v',e1,rfl,k2⟩,k3,k4⟩
    refine .inl ⟨r,t,v',H',γ',F',k1,k2,?_,bE e1 k4⟩;rw [e1.2] at k3;exact k3
  ·exact hc.elim
theorem y8 {f:Nat} {ps rs:List U} {F:Fl ps->Fl rs} (h:Cont P f (bZ ps rs (fun _=>True) F)):Cont P f (bX ps rs F):=by
 have e:∀ pk s ops k,bX ps rs F pk s ops k->bZ ps rs (fun _=>True) F pk s ops k:=by
  intro pk s ops k hc;unfold bX at hc;unfold bZ;dsimp only at hc ⊢;split at hc
  ·exact ⟨trivial,hc⟩
  ·exact hc.elim
 refine ⟨h.run,fun pk s ops k k' hk hc=>?_,fun g pk s a w H γ F1 ops k hX hops hc=>h.call g pk s a w H γ F1 ops k hX hops (e _ _ _ _ hc)⟩;unfold bX at hc ⊢;dsimp only at hc ⊢;split at hc
 ·exact hk _ _ (bG _ _) hc
 ·exact hc.elim
theorem cf {s:St}:∀ {rs:List ResultVar} {k:List At->Prop},(∀ vs,¬ k vs)->¬ cD P s rs k
 | [],k,hk,h=>hk _ h
 | r::rs,k,hk,h=>by
  have key:∀ v,¬ cD P s rs (fun vs=>k (v::vs)):=fun v=>cf fun vs=>hk _
  simp only [cD] at h;unfold jw at h;cases r with
  | tmp t=>exact key _ h
  | cell a t=>
   dsimp only at h;split at h
   ·split at h
    ·split at h
     ·exact loadT_false key h
     ·exact h
    ·exact h
   ·exact h
where
 loadT_false {m:List (Nm×Nat×Rt)} {t:TypeId} {x:At} {k:At->Prop} (hk:∀ v,¬ k v) (h:jH P m t x k):False:=by
  unfold jH at h;split at h
  ·split at h
   ·split at h <;> split at h <;> first | exact hk _ h | exact h
   ·split at h
    ·exact hk _ h.2
    ·exact h
   ·split at h <;> split at h <;> first | exact hk _ h | exact h
   ·exact h
  ·exact h
theorem fl {s:St} (hop:∀ p i,gtA s.t i=.one (.c (.pl p))->okP (toM s.m) p):∀ {rs:List ResultVar} {us:List U} {K:Fl us->Prop} {k:List At->Prop},(∀ vs,k vs->∃ x,bh us vs=some x/\K x)->cD P s rs k ->
  dV P s.toS rs (fun xs=>∃ x:Fl us,xs.map (·.map T.canon)=p8 us x/\xs.all AV1.isFz=true/\K x)
 | [],us,K,k,hk,h=>by
  obtain ⟨x,hx,hK⟩:=hk _ h;cases us with
  | nil=>exact ⟨x,rfl,rfl,hK⟩
  | cons u us=>simp [bh] at hx
 | r::rs,us,K,k,hk,h=>by
  simp only [cD] at h;simp only [dV];have step:∀ {v:At},cD P s rs (fun vs=>k (v::vs))->(match v.toV with
    | .one x=>dV P s.toS rs fun xs=>∃ y:Fl us,(x::xs).map (·.map T.canon)=p8 us y/\(x::xs).all AV1.isFz=true/\K y
    | _=>False):=by
   intro v hv;cases us with
   | nil=>exact (cf (fun vs hvs=>by obtain ⟨x,hx,_⟩:=hk _ hvs; simp [bh] at hx) hv).elim
   | cons u us=>
    cases hc:lH u v with
    | none=>exact (cf (fun vs hvs=>by obtain ⟨x,hx,_⟩:=hk _ hvs; simp only [bh,hc] at hx; cases hx) hv).elim
    | some a=>
     obtain ⟨c1,_⟩:=uw hc;obtain ⟨_,c3⟩:=n5 hc;have ih:=fl hop (us:=us) (K:=fun y=>K (Fl.cons u us a y)) (fun vs hvs=>by
      obtain ⟨x,hx,hK⟩:=hk _ hvs;simp only [bh,hc] at hx;cases h2:bh us vs with
      | none=>rw [h2] at hx; cases hx
      | some b=>rw [h2] at hx; simp only [SJ] at hx; subst hx; exact ⟨b,rfl,hK⟩) hv
     rw [pe] at c1;cases v with
     | one x=>
      refine resGets_mono ?_ ih;rintro xs ⟨y,e1,e2,hK⟩
      refine ⟨_,?_,?_,hK⟩
      ·simp only [List.map_cons,p8,oI,oq,e1];simp only [At.toV,AV.map,AV.one.injEq] at c1;rw [c1]
      ·simp only [S6,e2,Um]; exact c3
     | tup _=>simp [lH] at hc
     | any=>simp [lH] at hc
  cases r with
  | tmp t=>
   simp only [jw] at h;simp only [lP];rw [show aE s.toS.t t=(gtA s.t t).toV from cm t s.t];exact step h
  | cell a t=>
   simp only [jw] at h;simp only [lP];split at h
   ·rename_i p hp;split at h
    ·split at h
     ·have hl:=tX (m:=s.m) (x:=gtA s.t a) (fun q hq=>hop q a hq) h
      rw [show aE s.toS.t a=(gtA s.t a).toV from cm a s.t];refine loadK_mono ?_ hl;rintro _ ⟨v,rfl,hv⟩
      exact step hv
     ·exact h.elim
    ·exact h.elim
   ·exact h.elim
where
 loadK_mono {m:Mm} {t:TypeId} {x:AV} {k k':AV->Prop} (hk:∀ v,k v->k' v) (h:og P m t x k):og P m t x k':=by
  unfold og at h ⊢;refine ⟨h.1,?_⟩
  replace h:=h.2
  split at h
  ·split at h
   ·rename_i ha; rw [if_pos ha]; exact ⟨h.1,fun hh=>hk _ (h.2 hh)⟩
   ·rename_i ha;rw [if_neg ha];split at h
    ·exact fun hh=>hk _ (h hh)
    ·exact h.elim
  ·split at h
   ·rename_i ha; rw [if_pos ha]; exact atK_mono (fun ts hts hh=>hk _ (hts hh)) h
   ·rename_i ha;rw [if_neg ha];refine atK_mono (fun ts hts=>?_) h;split at hts
    ·exact fun hh=>hk _ (hts hh)
    ·exact hts.elim
  ·exact h.elim
 atK_mono {m:Mm} {p:Pl} {n:Nat} {k k':List T->Prop} (hk:∀ v,k v->k' v) (h:atK m p n k):atK m p n k':=by
  unfold atK at h ⊢;split at h
  ·exact h.elim
  ·split at h
   ·exact ⟨h.1,hk _ h.2⟩
   ·exact inK_mono hk h
   ·exact h.elim
 inK_mono {k k':List T->Prop} (hk:∀ v,k v->k' v):∀ {path:List Step} {sub:List Sh} {l:List (List D)} {n:Nat},inK sub l n path k->inK sub l n path k'
  | [],_,_,_,h=>h.elim
  | [st],sub,l,n,h=>by
   simp only [inK] at h ⊢;refine ⟨h.1,?_⟩
   replace h:=h.2
   split at h
   ·exact hk _ h
   ·exact h.elim
  | st::st'::r,sub,l,n,h=>by
   simp only [inK] at h ⊢;split at h
   ·split at h
    ·exact inK_mono hk h
    ·exact h.elim
   ·exact h.elim
 resGets_mono {s:S}:∀ {rs:List ResultVar} {k k':List AV1->Prop},(∀ v,k v->k' v)->dV P s rs k->dV P s rs k'
  | [],k,k',hk,h=>hk _ h
  | r::rs,k,k',hk,h=>by
   simp only [dV] at h ⊢;have st:∀ v:AV,(match v with | .one x=>dV P s rs fun xs=>k (x::xs) | _=>False)->(match v with | .one x=>dV P s rs fun xs=>k' (x::xs) | _=>False):=by
    intro v hv;cases v with
    | one x=>exact resGets_mono (fun xs=>hk _) hv
    | _=>exact hv
   cases r with
   | tmp t=>exact st _ h
   | cell a t=>exact loadK_mono st h
theorem zO {s:S} {rs:List ResultVar} {us:List U} {K:AV->Prop} {Q:Fl us->Prop} (hfrz:eI s rs=s) (hQ:∀ x,Q x->K (bJ us x).toV) (h:dV P s rs (fun xs=>∃ x:Fl us,xs.map (·.map T.canon)=p8 us x/\xs.all AV1.isFz=true/\Q x)):nF P s rs K:=by
 unfold nF;rw [hfrz];refine fl.resGets_mono ?_ h;rintro xs ⟨x,e1,e2,hq⟩
 have hK:=hQ x hq
 have resL_eq:∀ (us:List U) (x:Fl us),(bJ.resL us x).map A1.toV=p8 us x:=by
  intro us;induction us with
  | nil=>intro _; rfl
  | cons u r ih=>intro x; simp only [bJ.resL,List.map_cons,p8,ih]
 match xs,e2,us,x,e1,hK with
 | [],_,[],x,_,hK=>exact ⟨rfl,hK⟩
 | [y],e2,[u],x,e1,hK=>
  simp only [List.map_cons,List.map_nil,p8,List.cons.injEq,and_true] at e1;refine ⟨by simpa using e2,?_⟩;rw [e1];have:(bJ [u] x).toV=.one (wC u (Fl.hd u [] x)).toV:=by show (sk u x).toV=_; rw [pe]; rfl
  rw [<- this]; exact hK
 | y::y'::ys,e2,u::v::r,x,e1,hK=>
  refine ⟨e2,?_⟩;rw [e1,<- resL_eq]; exact hK
 | [],_,_::_,_,e1,_=>simp [p8] at e1
 | [_],_,[],_,e1,_=>simp [p8] at e1
 | [_],_,_::_::_,_,e1,_=>simp [p8] at e1
 | _::_::_,_,[],_,e1,_=>simp [p8] at e1
 | _::_::_,_,[_],_,e1,_=>simp [p8] at e1
end
end Go.Am
end

section
namespace Go.Am
section
variable {P:Program}
theorem Lr {m:List (Nm×Nat×Rt)} {t:TypeId} {x:At} {k:At->Prop} (h:jH P m t x k):∃ v,k v:=by
 rcases Classical.em (∃ v,k v) with hh | hh
 ·exact hh
 ·exact (cf.loadT_false (fun v hv=>hh ⟨v,hv⟩) h).elim
theorem Kk {t:Tt} (h:t.owned=false):∀ sub l,t.toT≠.ow sub l:=by
 cases t with
 | ow _ _ _=>cases h
 | _=>intro _ _ h; cases h
theorem vR {s:St} {n:Nm} {r:Rt} (hr:bi s.m n=some r) (hh:r.hole=none) (hc:r.cells.all (fun t=>!t.owned)=true):∀ i,lc s.toS n i=s.toS
 | 0=>rfl
 | i+1=>by
  simp only [lc];rw [vR hr hh hc i];unfold Ah;have e:aP s.toS.m ⟨n,i,[]⟩=(r.cells.map Tt.toT)[i]? := by
   unfold aP;rw [show aa s.toS.m n=some r.toR from aT hr];show (holed (r.cells.map Tt.toT) r.hole)[i]? = _
   rw [hh]; rfl
  rw [e,SM];cases hi:r.cells[i]? with
  | none=>rfl
  | some t=>
   have:=SQ.1 hc t (Tb hi)
   have ho:t.owned=false:=by simpa using this
   have hne:=Kk ho
   simp only [Option.map_some];cases ht:t.toT with
   | ow sub l=>exact (hne _ _ ht).elim
   | _=>rfl
theorem lf {s:St}:∀ {rs:List ResultVar} {us:List U} {k:List At->Prop},(∀ vs,k vs->∃ x,bh us vs=some x)->cD P s rs k->eI s.toS rs=s.toS
 | [],_,_,_,_=>rfl
 | r::rs,us,k,hk,h=>by
  simp only [cD] at h;have step:∀ {v:At},cD P s rs (fun vs=>k (v::vs))->v.noRf=true/\eI s.toS rs=s.toS:=by
   intro v hv;cases us with
   | nil=>exact (cf (fun vs hvs=>by obtain ⟨x,hx⟩:=hk _ hvs; simp [bh] at hx) hv).elim
   | cons u us=>
    cases hc:lH u v with
    | none=>exact (cf (fun vs hvs=>by obtain ⟨x,hx⟩:=hk _ hvs; simp only [bh,hc] at hx; cases hx) hv).elim
    | some a=>
     exact ⟨(n5 hc).1,lf (us:=us) (fun vs hvs=>by
      obtain ⟨x,hx⟩:=hk _ hvs;simp only [bh,hc] at hx;cases h2:bh us vs with
      | none=>rw [h2] at hx; cases hx
      | some b=>exact ⟨b,rfl⟩) hv⟩
  simp only [eI];cases r with
  | tmp t=>
   simp only [jw] at h;obtain ⟨h1,h2⟩:=step h;have e:ly s.toS (.tmp t)=s.toS:=by
    simp only [ly];rw [show aE s.toS.t t=(gtA s.t t).toV from cm t s.t];exact qV h1
   rw [e]; exact h2
  | cell a t=>
   simp only [jw] at h;split at h
   ·rename_i p hp;split at h
    ·rename_i r hr;split at h
     ·rename_i hb;simp only [SL,Option.isNone_iff_eq_none] at hb;obtain ⟨v,hv⟩:=Lr h;have e:ly s.toS (.cell a t)=s.toS:=by
       simp only [ly];rw [fR hp];simp only [At.toV,A1.toV,Tt.toT];rw [show aa s.toS.m p.root=some r.toR from aT hr];exact vR hr hb.1 hb.2 _
      rw [e]; exact (step hv).2
     ·exact h.elim
    ·exact h.elim
   ·exact h.elim
variable {g:G} {a:Act} {w:World}
theorem vQ {s:St} (h:R g s.toS a w) (n:Nm):∀ i,R g (uz s n i).toS a w
 | 0=>h
 | i+1=>G6 (vQ h n i) _
theorem JG {s:St} (h:R g s.toS a w) (r:ResultVar):R g (yF s r).toS a w:=by
 cases r with
 | tmp t=>exact Gk h _
 | cell a' t=>
  simp only [yF];split
  ·split
   ·exact vQ h _ _
   ·exact h
  ·exact h
theorem kS:∀ (rs:List ResultVar) {s:St},R g s.toS a w->R g (gD s rs).toS a w
 | [],_,h=>h
 | r::rs,_,h=>kS rs (JG h r)
theorem G7 {s:St} (h:R g s.toS a w):∀ p i,gtA s.t i=.one (.c (.pl p))->okP (toM s.m) p:=by
 intro p i e;obtain ⟨H,γ,F,hX⟩:=h;have:=hX.t i
 rw [fR e] at this;obtain ⟨_,h1,_⟩:=this;exact Mg h1
theorem kK {rs:List ResultVar} {us:List U} {KK:Fl us->Prop} {K:AV->Prop} {t:St} (hK:∀ r,KK r->K (bJ us r).toV) (h:nJ P rs us KK t) (hR:R g t.toS a w):∃ s'',nF P s'' rs K/\R g s'' a w:=by
 unfold nJ at h;have hR1:=kS rs hR
 refine ⟨_,zO (us:=us) (Q:=KK) (lf (us:=us) ?_ h) hK (fl (G7 hR1) ?_ h),hR1⟩
 ·intro vs hvs;split at hvs
  ·rename_i x hx; exact ⟨x,hx⟩
  ·exact hvs.elim
 ·intro vs hvs;split at hvs
  ·rename_i x hx; exact ⟨x,hx,hvs⟩
  ·exact hvs.elim
theorem fL:∀ (i:Nat) (us:List U) (x:Fl us),(sq i us x).map (fun y=>(y.1,y.2.2.toV))=aL i (eM us x)
 | _,[],_=>rfl
 | i,u::r,x=>by simp only [sq,List.map_cons,eM,aL,fL (i+1) r]
theorem cd:∀ (us:List U) (x:Fl us),(eM us x).length=us.length
 | [],_=>rfl
 | u::r,x=>by simp only [eM,SU,cd r]
end
theorem xB {e:En} (he:e.ok) (hm:e.P.follows .mixedOrders=true) {f:Nat} {fn:Func} (hf:e.P.funcs[f]? = some fn) (hname:(fn.name == "runtime.NumGoroutine")=false) (hb:fn.body.isSome=true) {an:An} {ps rs:List U} {pre:Fl ps->Prop} {F:Fl ps->Fl rs}
  (hlen:Nat.ble ps.length fn.ntmps=true) (hc:eQ fn.ntmps (fn.body.getD .skip)=true) (law:∀ x,pre x->∀ KK:Fl rs->Prop,KK (F x)->bq e fn an ps rs x KK):Cont e.P f (bZ ps rs pre F):=by
 have hb':fn.body=some (fn.body.getD .skip):=by cases h:fn.body with
  | none=>rw [h] at hb; cases hb
  | some c=>rfl
 refine lU (φ:=fun avs K=>∃ x:Fl ps,avs=eM ps x/\pre x/\K (bJ rs (F x)).toV) (fun x K hp hk=>⟨x,rfl,hp,hk⟩)
  (lS hf hname hb' _ (fun avs K ⟨x,hx,_,_⟩=>by rw [hx,cd]; exact SP hlen) (fun g avs K hg ⟨x,hx,hp,hk⟩=>?_))
 subst hx;have h:=law x hp (fun r=>r=F x) rfl
 have h1:=iN (e:=⟨e.P,e.E,e.cs,e.sh,fun _ _=>False⟩) he hm (g:=g) _ an (pc ps x) _ (by rw [hg]; exact hc) h
 have e0:(pc ps x).toS=⟨aL 0 (eM ps x),[]⟩:=aZ.S_ext (fL 0 ps x) rfl
 rw [e0] at h1;refine ke h1 (fun ex s' a w h' hR=>?_);cases ex with
 | normal=>
  obtain ⟨t,rfl,ht⟩:=h';exact kK (fun r hr=>by rw [hr]; exact hk) ht hR
 | ret=>
  obtain ⟨t,rfl,ht⟩:=h';exact kK (fun r hr=>by rw [hr]; exact hk) ht hR
 | exit i=>exact h'.elim (fun t ht=>ht.2.elim)
 | panic c=>obtain ⟨_,_,_,_,hf⟩:=h'; exact hf.elim
 | _=>exact h'.elim
theorem vI {e:En} (he:e.ok) (hm:e.P.follows .mixedOrders=true) {f:Nat} {fn:Func} (hf:e.P.funcs[f]? = some fn) (hname:(fn.name == "runtime.NumGoroutine")=false) (hb:fn.body.isSome=true) {an:An} {ps rs:List U} {F:Fl ps->Fl rs}
  (hlen:Nat.ble ps.length fn.ntmps=true) (hc:eQ fn.ntmps (fn.body.getD .skip)=true) (law:∀ x,∀ KK:Fl rs->Prop,KK (F x)->bq e fn an ps rs x KK):Cont e.P f (bX ps rs F):=
 y8 (xB he hm hf hname hb hlen hc (fun x _=>law x))
end Go.Am
end

section
namespace Go.Am
def DJ (s:S) (rs:List ResultVar) (K:List Sh->List (List D)->Prop):Prop:=
 match rs with
 | [.tmp t]=>match aE s.t t with
  | .one (.c (.rf ⟨n,0,[]⟩))=>match aa s.m n with
   | some ⟨false,[.ow sub l]⟩=>K sub l
   | _=>False
  | _=>False
 | _=>False
def Sa (rs:List ResultVar) (K:List Sh->List (List D)->Prop):Exit->S->Prop
 | .normal,s=>DJ s rs K
 | .ret,s=>DJ s rs K
 | _,_=>False
def Ms (φ:List AV->List Sh->List (List D)->(List (List D)->Prop)->Prop):CK1:=fun s ops k=>
 match ops with
 | []=>False
 | o::os=>
  let s1:=g8 s (os.map (ev s))
  match ev s1 o with
  | .one (.c (.rf ⟨r,0,[]⟩))=>match aa s1.m r with
   | some ⟨false,[.ow sub l]⟩=>(os.map (ev s1)).all AV.isFz=true /\
     φ (os.map fun x=>(ev s1 x).map T.canon) sub l (fun l'=>k ⟨iZ (bv r) s1.t,(r,⟨false,[.ow sub l']⟩)::au (bv r) (aW s1.m r)⟩ (.one (.c (.rf ⟨r,0,[]⟩))))
   | _=>False
  | _=>False
section
variable {P:Program}
theorem Pa {f:Nat} {fn:Func} {c:Code} (hf:P.funcs[f]? = some fn) (hname:(fn.name == "runtime.NumGoroutine")=false) (hb:fn.body=some c) (φ:List AV->List Sh->List (List D)->(List (List D)->Prop)->Prop)
  (hlen:∀ avs sub l K,φ avs sub l K->avs.length+1<=fn.ntmps)
  (hbody:∀ (g:G) avs sub l K,g.nt=fn.ntmps->φ avs sub l K->AW P g c (Sa fn.results.toList (fun sub' l'=>sub'=sub/\K l')) ⟨aL 0 (.one (.c (.rf ⟨.out 0,0,[]⟩))::avs),[(.out 0,⟨false,[.ow sub l]⟩)]⟩):Con P f (Ms φ):=by
 refine ⟨fun args w=>?_,?_⟩
 ·have h1:fn.name ≠ "runtime.NumGoroutine" := by simpa using hname
  simp [callFunc,hf,h1,hb]
 ·intro g s a w H γ F ops k hX hops hK;cases ops with
  | nil=>exact hK.elim
  | cons o os=>
  unfold Ms at hK;dsimp only at hK;obtain ⟨H1,F1,h1⟩:=iI (os.map (ev s)) s H F hX;generalize g8 s (os.map (ev s))=s1 at hK h1;have hops':ay o=true/\os.all ay=true:=by simpa using hops
  split at hK
  rotate_left
  ·exact hK.elim
  rename_i r heo;split at hK
  rotate_left
  ·exact hK.elim
  rename_i sub l hroot;obtain ⟨hfz,hφ⟩:=hK;have hevo:=aD h1 hops'.1
  rw [heo] at hevo;obtain ⟨_,hokr,hval⟩:=hevo;have hR:=h1.mem.roots _ (ab hroot)
  have hR2:=hR
  unfold aV at hR2;rw [if_neg (by simp)] at hR2;obtain ⟨v0,t0,hγr,hcells,hTR⟩:=hR2;simp only [List.cons.injEq,and_true] at hcells;subst hcells;have hv0:a.eval o=v0:=by
   simp only [plV,hγr,ao] at hval
   first | exact (Option.some.inj hval).symm | (simp at hval; exact hval.symm)
  have hle:=hlen _ _ _ _ hφ
  rw [List.length_map] at hle
  let γc:Gam:=fun n=>if n=.out 0 then .gh v0 else γ n
  let mc:Mm:=[(.out 0,⟨false,[.ow sub l]⟩)]
  let g1:G:=⟨fn.ntmps,w,H1,F1 r,fun _=>none,none,[]⟩
  have hγc:γc (.out 0)=.gh v0:=by simp [γc]
  have hRc:aV w H1 γc mc (.out 0) ⟨false,[.ow sub l]⟩ (F1 r):=by
   unfold aV;rw [if_neg (by simp)];exact ⟨v0,_,hγc,rfl,hTR⟩
  have hge:∀ c,F1 r c<=tot F1 s1.m c:=fun c=>aQ (F:=F1) (ab hroot) c
  let Fc:Nm->Fp:=fun _=>F1 r
  have htc:∀ c,tot Fc mc c=F1 r c:=fun c=>(Uf (F1 r c))
  have hmc:Mem w H1 γc mc Fc:=by
   refine ⟨h1.mem.agree,fun x hx=>?_,by simp [mc],fun c=>by rw [htc]; exact Th (hge c) (h1.mem.le1 c),fun c hc=>by rw [htc] at hc; exact h1.mem.lt c (by have:=hge c; omega),fun c hc=>by rw [htc] at hc; exact h1.mem.nofz c (by have:=hge c; omega)⟩;simp only [mc,SY] at hx;subst hx;exact hRc
  refine calls_of_wp hf hb (Code.wp_mono (fun e a' w' hl=>?_) (hbody g1 _ _ _ _ rfl hφ _ w ⟨H1,γc,Fc,?_⟩))
  ·obtain ⟨s',hq,H',γ',F',hX'⟩:=hl;have fin:DJ s' fn.results.toList (fun sub' l'=>sub'=sub/\k ⟨iZ (bv r) s1.t,(r,⟨false,[.ow sub l']⟩)::au (bv r) (aW s1.m r)⟩ (.one (.c (.rf ⟨r,0,[]⟩)))) ->
     a'.defers=[]/\∃ v,(results fn a'.tmps).run P w'=.ok v w'/\∃ rr s'' av H'' γ'' F'',Ending.returned v=.returned rr/\k s'' av/\AR w' H'' γ'' s''.m av rr/\RX g s'' a w' H'' γ'' F'':=by
    intro hq;unfold DJ at hq;split at hq
    rotate_left
    ·exact hq.elim
    rename_i t hrs;split at hq
    rotate_left
    ·exact hq.elim
    rename_i n hgt;split at hq
    rotate_left
    ·exact hq.elim
    rename_i sub' l' hout;obtain ⟨rfl,hk⟩:=hq;have hrun:(results fn a'.tmps).run P w'=.ok (a'.tmps.getD t undef) w':=by
     rw [dJ,Uc,hrs];simp [gV]
    have hres:AR w' _ _ _ _ (a'.tmps.getD t undef):=hX'.t t
    rw [hgt] at hres;obtain ⟨_,_,hpv⟩:=hres;have hRn:=hX'.mem.roots _ (ab hout)
    unfold aV at hRn;rw [if_neg (by simp)] at hRn;obtain ⟨v1,t1,hγn,hc1,hTR1⟩:=hRn;simp only [List.cons.injEq,and_true] at hc1;subst hc1;have hv1:a'.tmps.getD t undef=v1:=by
     simp only [plV,hγn,ao] at hpv
     first | exact (Option.some.inj hpv).symm | (simp at hpv; exact hpv.symm)
    have hfr:=hX'.fr
    dsimp only [g1] at hfr;have hd:=lb h1 r
    have hmdm:(s1.drop r).m=au (bv r) (aW s1.m r):=rfl
    have hdm:=hd.mem
    rw [hmdm] at hdm;generalize hmd0:au (bv r) (aW s1.m r)=md at hdm hk;have tdel:∀ c,tot F1 md c+F1 r c=tot F1 s1.m c:=fun c=>by
     rw [<- hmd0,aM]; exact fi hroot c
    have hsame:∀ c,tot F1 md c≠0->w'.heap[c]? = w.heap[c]? := fun c hc=>
     hfr.block c (h1.mem.lt c (by have:=tdel c; omega)) (by have:=tdel c; have:=h1.mem.le1 c; omega)
    have hnewc:∀ c,c<w.heap.size->F1 r c=0->H1 c=H' c:=by
     intro c hc h0
     funext o
     cases hh:H1 c o with
     | some y=>rw [hfr.hold c o y hh]
     | none=>
      cases hh2:H' c o with
      | none=>rfl
      | some y=>
       rcases hfr.hnew c o (by rw [hh2]; simp) hh with h' | h'
       ·exact absurd h0 h'
       ·omega
    have hKp:=bS (w':=w') hdm hsame
    have hmd:Mem w' H' γ md F1:=by
     refine ⟨hX'.mem.agree,fun x hx=>aF hKp hfr.hold rfl (fun c hc=>hsame c (by have:=aQ (F:=F1) hx c; omega)) (hdm.roots x hx),hdm.keys,hdm.le1,fun c hc=>by have:=hdm.lt c hc; have:=hfr.size; omega,fun c hc o=>?_⟩;rw [<- hnewc c (hdm.lt c hc) (by have:=tdel c; have:=h1.mem.le1 c; omega)]; exact hdm.nofz c hc o
    have hnone:aa md r=none:=by rw [<- hmd0]; exact tW h1.mem.keys
    have hRr:aV w' H' (upd γ r (.gh v1)) ((r,⟨false,[.ow sub' l']⟩)::md) r ⟨false,[.ow sub' l']⟩ (F' n):=by
     unfold aV;rw [if_neg (by simp)];exact ⟨v1,_,bR,rfl,hTR1⟩
    have hf1:∀ c,F' n c<=tot F' s'.m c:=fun c=>aQ (F:=F') (ab hout) c
    have hf2:∀ c,F' n c≠0->F1 r c≠0\/w.heap.size<=c:=fun c hc=>hfr.tt c (by have:=hf1 c; omega)
    have hmd0':∀ c,F' n c≠0->tot F1 md c=0:=fun c hc=>by
     rcases hf2 c hc with h' | h'
     ·have:=tdel c; have:=h1.mem.le1 c; omega
     ·rcases S7 (tot F1 md c) with h0 | h0
      ·exact h0
      ·have:=hdm.lt c (by omega); omega
    obtain ⟨hM,htot⟩:=mT hmd (n:=r) (rc:=.gh v1) (r:=⟨false,[.ow sub' l']⟩) (f:=F' n) hnone hRr (fun c=>by
      by_cases hc:F' n c=0
      ·have:=hdm.le1 c; omega
      ·have:=hmd0' c hc; have:=hX'.mem.le1 c; have:=hf1 c; omega)
     (fun c hc=>⟨hX'.mem.lt c (by have:=hf1 c; omega),hX'.mem.nofz c (by have:=hf1 c; omega)⟩)
    have hFr:Fr w H1 (tot F1 s1.m) w' H' (tot (upd F1 r (F' n)) ((r,⟨false,[.ow sub' l']⟩)::md)):=by
     refine ⟨hfr.size,hfr.os,hfr.tape,hfr.output,fun c hc h0=>hfr.block c hc (by have:=hge c; omega),hfr.hold,fun c o h2 h3=>?_,fun c hc=>?_,hfr.nz⟩
     ·rcases hfr.hnew c o h2 h3 with h' | h'
      ·exact .inl (by have:=hge c; omega)
      ·exact .inr h'
     ·rw [htot] at hc;by_cases h0:F' n c=0
      ·exact .inl (by have:=tdel c; omega)
      ·rcases hf2 c h0 with h' | h'
       ·exact .inl (by have:=hge c; omega)
       ·exact .inr h'
    have hKB:KeepsB (bv r) w γ s1.m w' (upd γ r (.gh v1)) ((r,⟨false,[.ow sub' l']⟩)::md):=by
     have hKa:=fa (w:=w') (γ:=γ) (rc:=.gh v1) (r:=⟨false,[.ow sub' l']⟩) hnone
     have hKd:KeepsB (bv r) w γ s1.m w γ md:=by rw [<- hmd0]; exact db
     constructor
     ·intro q hbq hq;obtain ⟨k1,k2⟩:=hKd.pl q hbq hq;obtain ⟨k3,k4⟩:=hKp.pl q k1;obtain ⟨k5,k6⟩:=hKa.pl q k3;exact ⟨k5,k6.trans (k4.trans k2)⟩
     ·intro q hbq hq;obtain ⟨k1,k2⟩:=hKd.rf q hbq hq;obtain ⟨k3,k4⟩:=hKp.rf q k1;obtain ⟨k5,k6⟩:=hKa.rf q k3;exact ⟨k5,k6.trans (k4.trans k2)⟩
    refine ⟨hX'.df.1,_,hrun,_,_,_,H',upd γ r (.gh v1),_,rfl,hk,?_,hM,h1.fr.trans hFr,h1.nt,⟨h1.df.1,fun j b e=>?_,h1.df.2.2⟩,fun i=>?_⟩
    ·refine ⟨fun _=>rfl,?_,?_⟩
     ·simp [fx,aa]
     ·rw [hv1];simp [plV,bR,ao]
    ·have:=h1.df.2.1 j b e
     by_cases hj:Nm.out j=r
     ·rw [hj,hγr] at this; cases this
     ·rw [gS hj]; exact this
    ·rw [iJ];exact mJ hKB hfr.hold (h1.t i)
   cases e with
   | normal=>exact fin hq
   | ret=>exact fin hq
   | _=>exact hq.elim
  ·refine ⟨hmc,⟨SN _,rfl,rfl,rfl,fun _ _ _=>rfl,fun _ _ _ h=>h,fun b o h2 h3=>absurd h3 h2,fun c hc=>.inl (by rw [htc] at hc; exact hc),gk⟩,?_,⟨rfl,fun i b' e=>by simp [g1] at e,dc h1⟩,fun i=>?_⟩
   ·simp [g1]; omega
   ·have hget:∀ x,(o::os)[i]? = some x->(((o::os).map a.eval).toArray++Array.replicate (fn.ntmps - ((o::os).map a.eval).toArray.size) undef).getD i undef=a.eval x:=by
     intro x hx;rw [S5,Tx (by simp; have:=ae hx; simp at this; omega)];have e:((o::os).map a.eval)[i]? = some (a.eval x):=by rw [SM,hx]; rfl
     rw [List.getElem?_toArray,e]; rfl
    cases i with
    | zero=>
     rw [G.tv_none rfl,hget o rfl,hv0];simp only [aL,aE,if_true];refine ⟨fun _=>rfl,?_,?_⟩
     ·simp [fx,aa,mc]
     ·simp [plV,hγc,ao]
    | succ i=>
     have hent:aE (aL 0 (.one (.c (.rf ⟨.out 0,0,[]⟩))::os.map fun x=>(ev s1 x).map T.canon)) (i+1)=((os.map fun x=>(ev s1 x).map T.canon)[i]?).getD .any:=by
      simp only [aL,aE];rw [if_neg (by omega)];rw [cv];simp
     show AR w H1 γc mc (aE (aL 0 (.one (.c (.rf ⟨.out 0,0,[]⟩))::os.map fun x=>(ev s1 x).map T.canon)) (i+1)) _
     rw [hent,SM];cases hi:os[i]? with
     | none=>simp only [T4,Ud]; trivial
     | some x=>
      have hx:=aD h1 (SQ.1 hops'.2 x (Tb hi))
      simp only [Option.map_some,Option.getD_some];have hz:(ev s1 x).isFz=true:=by
       have:=SQ.1 hfz (ev s1 x) (Tc (Tb hi))
       exact this
      rw [G.tv_none rfl,hget x (by simpa using hi)];exact cZ bK (gY (fun _ _ _ h=>h) hz hx)
end
section
variable {α β γ' δ:Type} {P:Program} {f:Nat} {fn:Func} {co:Code}
def fo0 (c:Rw α) (n:Nat) (pre:List α->Prop) (f:List α->List α):List AV->List Sh->List (List D)->(List (List D)->Prop)->Prop
 | [],sub,l,K=>match dX c l with
  | some s=>sub=List.replicate n .fr/\pre s/\K ((f s).map c.enc)
  | _=>False
 | _,_,_,_=>False
def fo1 (c:Rw α) (n:Nat) (a:Cd β) (pre:List α->β->Prop) (f:List α->β->List α):List AV->List Sh->List (List D)->(List (List D)->Prop)->Prop
 | [.one x],sub,l,K=>match dX c l,a.dec x with
  | some s,some x=>sub=List.replicate n .fr/\pre s x/\K ((f s x).map c.enc)
  | _,_=>False
 | _,_,_,_=>False
def fo2 (c:Rw α) (n:Nat) (a:Cd β) (b:Cd δ) (pre:List α->β->δ->Prop) (f:List α->β->δ->List α):List AV->List Sh->List (List D)->(List (List D)->Prop)->Prop
 | [.one x,.one y],sub,l,K=>match dX c l,a.dec x,b.dec y with
  | some s,some x,some y=>sub=List.replicate n .fr/\pre s x y/\K ((f s x y).map c.enc)
  | _,_,_=>False
 | _,_,_,_=>False
end
attribute [push_cast] Ms fo0 fo1 fo2 DJ Sa
end Go.Am
end

section
namespace Go.Am
section
variable {P:Program} {g:G} {a:Act} {w:World} {H:FH} {γ:Gam} {F:Nm->Fp}
theorem yX {m:Mm} {t:T} {f:Fp} {v:Value} (h:TR w H γ m t f v):mZ (m.map (·.1)) t:=by
 have key:∀ {n:Nm} {r:Root},aa m n=some r->n∈m.map (·.1):=fun h=>Tc (f:=(·.1)) (ab h)
 cases t with
 | pl p=>
  obtain ⟨_,h1,_⟩:=h;unfold bw at h1;split at h1
  ·exact h1.elim
  ·rename_i hr; exact key hr
 | rf p=>
  obtain ⟨_,h1,_⟩:=h;unfold fx at h1;split at h1
  ·exact h1.elim
  ·rename_i hr; exact key hr
 | _=>trivial
theorem FF {m:Mm} {x:AV1} {y:Value} (h:AR1 w H γ m x y):vm (m.map (·.1)) x:=by
 cases x with
 | c t=>exact yX h
 | agg ts=>
  obtain ⟨cs,_,_,h1⟩:=h;intro t ht;obtain ⟨i,hi,e⟩:=List.getElem_of_mem ht;obtain ⟨v,g',_,h2,_⟩:=zA h1 (i:=i) (t:=t) (by rw [SK hi,e]);exact yX h2
theorem Q2 {m:Mm} {x:AV} {y:Value} (h:AR w H γ m x y):EG (m.map (·.1)) x:=by
 cases x with
 | one x=>exact FF h
 | tup xs=>
  obtain ⟨l,_,h1⟩:=h;have:∀ (xs:List AV1) (ys:List Value),ARs w H γ m xs ys->∀ x∈xs,vm (m.map (·.1)) x:=by
   intro xs;induction xs with
   | nil=>intro _ _ x hx; simp at hx
   | cons x xs ih=>
    intro ys h z hz;cases ys with
    | nil=>exact h.elim
    | cons y ys=>
     rcases SS.1 hz with rfl | hz
     ·exact FF h.1
     ·exact ih ys h.2 z hz
  exact this xs _ h1
 | any=>trivial
theorem M6 {m:Mm} {n:Nm} {r:Root} {f:Fp} (h:aV w H γ m n r f):∀ t∈r.cells,mZ (m.map (·.1)) t:=by
 intro t ht;unfold aV at h;split at h
 ·obtain ⟨b,cs,ty,fz,g',_,_,_,_,h1,_⟩:=h;obtain ⟨i,hi,e⟩:=List.getElem_of_mem ht;obtain ⟨v,g'',_,h2,_⟩:=zA h1 (i:=i) (t:=t) (by rw [SK hi,e]);exact yX h2
 ·obtain ⟨v,t',_,h1,h2⟩:=h;rw [h1] at ht;simp only [SY] at ht;subst ht;exact yX h2
theorem mU {s:S} (hX:RX g s a w H γ F) (n:Nm):RX g ⟨s.t,s.m.map fun x=>(x.1,if x.1=n then fK x.2 else x.2)⟩ a w H γ F:=by
 have hk:(s.m.map fun x=>(x.1,if x.1=n then fK x.2 else x.2)).map (·.1)=s.m.map (·.1):=by rw [SX]; rfl
 refine L3 hX (by rw [hk]; exact hX.mem.keys) (fun x hx=>?_) (fun i=>.inr ⟨.inl rfl,by rw [hk]; exact Q2 (hX.t i)⟩);rw [hk];obtain ⟨y,hy,rfl⟩:=S9.1 hx;refine ⟨y.2,nX hX.mem.keys hy,?_,M6 (hX.mem.roots y hy)⟩;dsimp only;split
 ·exact ln.canon _
 ·exact ln.refl _
theorem gj {sh:List Sh} {cells ts:List Tt} {j:Nm} (h:dq sh cells=some ts):(cells.map Tt.toT).all (T.self j)=true/\∀ r:Nm,(cells.map Tt.toT).map (T.ren r j)=cells.map Tt.toT:=by
 induction cells generalizing sh ts with
 | nil=>exact ⟨rfl,fun _=>rfl⟩
 | cons c cells ih=>
  cases sh with
  | nil=>simp [dq] at h
  | cons s sh=>
   have key:∀ {ts'},dq sh cells=some ts'->(T.self j c.toT=true/\∀ r,T.ren r j c.toT=c.toT)->((c::cells).map Tt.toT).all (T.self j)=true/\∀ r:Nm,((c::cells).map Tt.toT).map (T.ren r j)=(c::cells).map Tt.toT:=by
    intro ts' h1 h2;obtain ⟨i1,i2⟩:=ih h1;exact ⟨by simp only [List.map_cons,S6,h2.1,i1,Up],fun r=>by rw [List.map_cons,List.map_cons,h2.2 r,i2 r]⟩
   cases s with
   | fr=>
    cases c with
    | d x=>
     simp only [dq] at h;split at h
     ·rename_i hr; exact key hr ⟨rfl,fun _=>rfl⟩
     ·cases h
    | nil=>
     simp only [dq] at h;split at h
     ·rename_i hr; exact key hr ⟨rfl,fun _=>rfl⟩
     ·cases h
    | _=>simp [dq] at h
   | ow sub=>
    cases c with
    | ow s' u l=>
     simp only [dq] at h;split at h
     ·rename_i hr; exact key hr ⟨rfl,fun _=>rfl⟩
     ·cases h
    | _=>simp [dq] at h
theorem q7 {a b:Nm}:∀ {ts:List T} {sh:List Sh} {cs:List C},ts.map T.canon=(ah sh cs).map Tt.toT->ts.map (T.ren a b)=ts
 | [],_,_,_=>rfl
 | t::ts,sh,cs,h=>by
  cases sh with
  | nil=>simp [ah] at h
  | cons s r=>cases cs with
   | nil=>cases s <;> simp [ah] at h
   | cons c cs=>
    have hd:∃ t0:Tt,(∀ p,t0≠.pl p)/\ah (s::r) (c::cs)=t0::ah r cs:=by
     cases s with
     | fr=>exact ⟨.d c,(fun _ h=>by cases h),(by cases c <;> rfl)⟩
     | ow sub=>cases c with
      | li u l=>exact ⟨.ow sub u l,(fun _ h=>by cases h),rfl⟩
      | _=>exact ⟨.d _,(fun _ h=>by cases h),rfl⟩
    obtain ⟨t0,h0,h1⟩:=hd;rw [h1] at h;simp only [List.map_cons,List.cons.injEq] at h;rw [List.map_cons,q7 h.2]
    congr 1
    cases t with
    | pl p=>
     have:=h.1
     cases t0 with
     | pl q=>exact (h0 q rfl).elim
     | _=>simp [T.canon,Tt.toT] at this
    | _=>rfl
theorem FC:∀ (us:List U) (x:Fl us),(bJ us x).toV.isFz=true:=by
 have one:∀ (u:U) (x:El u),(wC u x).toV.isFz=true:=by
  intro u x;cases u with
  | st n=>simp only [wC,A1.toV,AV1.isFz,SX,UG]; exact SQ.2 fun _ _=>rfl
  | _=>rfl
 have all:∀ (us:List U) (x:Fl us),((bJ.resL us x).map A1.toV).all AV1.isFz=true:=by
  intro us;induction us with
  | nil=>intro _; rfl
  | cons u r ih=>intro x; simp only [bJ.resL,List.map_cons,S6,one,ih,Up]
 intro us x
 match us,x with
 | [],_=>rfl
 | [u],x=>show (sk u x).toV.isFz=true; rw [pe]; exact one u x
 | u::v::r,x=>exact all (u::v::r) x
theorem Kl {e:En} (he:e.ok) (hm:e.P.follows .mixedOrders=true) {f:Nat} {fn:Func} (hf:e.P.funcs[f]? = some fn) (hname:(fn.name == "runtime.NumGoroutine")=false) (hb:fn.body.isSome=true) {an:An} {sh:List Sh} {u:U} {ps rs:List U} {pre:El u->Fl ps->Prop} {Fn:El u->Fl ps->Fl rs×El u}
  (hlen:Nat.ble (ps.length+1) fn.ntmps=true) (hc:eQ fn.ntmps (fn.body.getD .skip)=true) (law:∀ x y,pre x y->∀ KK:Fl rs×El u->Prop,KK (Fn x y)->M1 e fn an sh u ps rs x y KK):Cont e.P f (NV sh u ps rs pre Fn):=by
 have hb':fn.body=some (fn.body.getD .skip):=by cases h:fn.body with
  | none=>rw [h] at hb; cases hb
  | some c=>rfl
 let φ:List AV->List T->(AV->List T->Prop)->Prop:=fun avs cells K=>∃ (x:El u) (y:Fl ps),avs=eM ps y/\cells.map T.canon=(ah sh (flat u x)).map Tt.toT/\pre x y /\
  ∀ cells',cells'.all (T.self (.out 0))=true->cells'.length=cells.length->cells'.map T.canon=(ah sh (flat u (Fn x y).2)).map Tt.toT->K (bJ rs (Fn x y).1).toV cells'
 have hcon:Con e.P f (MU 0 φ):=by
  refine OI hf hname hb' φ (fun avs cells K ⟨x,y,hx,_⟩=>by rw [hx,cd]; exact SP hlen) (fun g avs cells K hg ⟨x,y,hx,hcells,hp,hk⟩=>?_);subst hx;have h:=law x y hp (fun r=>r=Fn x y) rfl
  have h1:=iN (e:=⟨e.P,e.E,e.cs,e.sh,fun _ _=>False⟩) he hm (g:=g) _ an _ _ (by rw [hg]; exact hc) h
  have hln:cells.length=(ah sh (flat u x)).length:=by
   have:=congrArg List.length hcells
   simpa using this
  have h2:AW e.P g (fn.body.getD .skip) (LQ (fun _ _=>False) ⟨jb e.P fn.results.toList sh u rs (fun r=>r=Fn x y),fun _ _=>False,jb e.P fn.results.toList sh u rs (fun r=>r=Fn x y)⟩) ⟨aL 0 (.one (.c (.pl ⟨.out 0,0,[]⟩))::eM ps y),[(.out 0,⟨true,cells⟩)]⟩:=by
   intro a w ⟨H,γ,F,hX⟩;refine h1 a w ⟨H,γ,F,?_⟩;have:=mU hX (.out 0)
   have e0:(⟨1,(0,0,.one (.c (.pl ⟨.out 0,0,[]⟩)))::sq 1 ps y,[(.out 0,0,⟨true,ah sh (flat u x),none⟩)]⟩:St).toS=⟨aL 0 (.one (.c (.pl ⟨.out 0,0,[]⟩))::eM ps y),[(.out 0,⟨true,cells⟩)].map fun x=>(x.1,if x.1=.out 0 then fK x.2 else x.2)⟩:=by
    refine aZ.S_ext ?_ ?_
    ·simp only [List.map_cons,aL,fL]; rfl
    ·simp only [List.map_cons,List.map_nil,if_true,Rt.toR,holed,fK,hcells]
   rw [e0]; exact this
  refine ke h2 (fun ex s' a w h' hR=>?_);have fin:∀ t:St,R g t.toS a w->jb e.P fn.results.toList sh u rs (fun r=>r=Fn x y) t->∃ s'',sP 0 e.P s'' fn.results.toList K/\R g s'' a w:=by
   intro t hR ht;unfold jb at ht;dsimp only at ht;have hR1:=ca (.out 0) (dK u) sh 0 (kS fn.results.toList hR)
   generalize aR (gD t fn.results.toList) (.out 0) (dK u) sh 0=s1 at ht hR1;have hid:=lf (us:=rs) (k:=fun vs=>match bh rs vs,bi s1.m (.out 0) with
    | some x_1,some ⟨true,cells,none⟩=>match dq sh cells with
     | some ts=>match gi u ts with
      | some y_1=>(x_1,y_1)=Fn x y
      | none=>False
     | none=>False
    | _,_=>False) (by
     intro vs hvs;split at hvs
     ·rename_i h1 _; exact ⟨_,h1⟩
     ·exact hvs.elim) ht
   refine ⟨s1.toS,?_,hR1⟩;unfold sP;rw [hid];have hg2:=fl (us:=rs) (K:=fun r=>∃ cells ts y1,bi s1.m (.out 0)=some ⟨true,cells,none⟩/\dq sh cells=some ts/\gi u ts=some y1/\(r,y1)=Fn x y) (G7 hR1) (by
     intro vs hvs;split at hvs
     ·rename_i x1 cells1 h1 h2;split at hvs
      ·rename_i ts h3;split at hvs
       ·rename_i y1 h4; exact ⟨x1,h1,cells1,ts,y1,h2,h3,h4,hvs⟩
       ·exact hvs.elim
      ·exact hvs.elim
     ·exact hvs.elim) ht
   have hroot:∃ cells1 ts y1,bi s1.m (.out 0)=some ⟨true,cells1,none⟩/\dq sh cells1=some ts/\gi u ts=some y1:=by
    rcases Classical.em (∃ cells1 ts y1,bi s1.m (.out 0)=some ⟨true,cells1,none⟩/\dq sh cells1=some ts/\gi u ts=some y1) with hh | hh
    ·exact hh
    ·refine (cf (fun vs hvs=>?_) ht).elim;split at hvs
     ·rename_i x1 cells1 h1 h2;split at hvs
      ·rename_i ts h3;split at hvs
       ·rename_i y1 h4; exact hh ⟨cells1,ts,y1,h2,h3,h4⟩
       ·exact hvs
      ·exact hvs
     ·exact hvs
   obtain ⟨cells1,ts,y1,r1,r2,r3⟩:=hroot;rw [show aa s1.toS.m (.out 0)=some (⟨true,cells1,none⟩:Rt).toR from aT r1];show nF e.P s1.toS fn.results.toList (fun v=>K v (cells1.map Tt.toT))
   refine zO hid (Q:=fun r=>∃ cells ts y1,bi s1.m (.out 0)=some ⟨true,cells,none⟩/\dq sh cells=some ts/\gi u ts=some y1/\(r,y1)=Fn x y) ?_ hg2;rintro r ⟨cells2,ts2,y2,q1,q2,q3,q4⟩
   rw [r1] at q1;have q1':=Option.some.inj q1
   simp only [Rt.mk.injEq,true_and,and_true] at q1';subst q1';have e1:r=(Fn x y).1:=by rw [<- q4]
   have e2:y2=(Fn x y).2:=by rw [<- q4]
   obtain ⟨k1,_⟩:=mF q2 (ii q3);rw [e1];refine hk _ (gj q2).1 ?_ (by rw [<- e2,k1]);have l1:(cells1.map Tt.toT).length=(ah sh (flat u y2)).length:=by
    have:=congrArg List.length k1
    simpa using this.symm
   have l2:∀ (sh:List Sh) (a b:List C),a.length=b.length->(ah sh a).length=(ah sh b).length:=by
    intro sh;induction sh with
    | nil=>intro a b _; cases a <;> cases b <;> rfl
    | cons s r ih=>
     intro a b hab;have hcons:∀ (c:C) (cs:List C),(ah (s::r) (c::cs)).length=(ah r cs).length+1:=by
      intro c cs;cases s <;> cases c <;> rfl
     cases a with
     | nil=>cases b with
      | nil=>rfl
      | cons _ _=>cases hab
     | cons c cs=>cases b with
      | nil=>cases hab
      | cons d ds=>rw [hcons,hcons,ih cs ds (by simpa using hab)]
   rw [l1,hln];exact l2 sh _ _ (by rw [fe,fe])
  cases ex with
  | normal=>obtain ⟨t,rfl,ht⟩:=h'; exact fin t hR ht
  | ret=>obtain ⟨t,rfl,ht⟩:=h'; exact fin t hR ht
  | exit i=>exact h'.elim (fun t ht=>ht.2.elim)
  | panic c=>obtain ⟨_,_,_,_,hf⟩:=h'; exact hf.elim
  | _=>exact h'.elim
 refine ⟨hcon.run,fun pk s ops k k' hk hcc=>?_,fun g pk s a w H γ F1 ops k hX hops hcc=>?_⟩
 ·unfold NV at hcc ⊢;split at hcc
  ·exact hcc.elim
  ·dsimp only at hcc ⊢;split at hcc
   ·split at hcc
    ·split at hcc
     ·split at hcc
      ·split at hcc
       ·refine ⟨hcc.1,hk _ _ ?_ hcc.2⟩;exact ((bG _ _).trans (cJ _ _ _ _ _)).trans ⟨TE _,fq (SN _),((oh _).trans (dS (SN _))).trans (il _ _ _ (SN _))⟩
       ·exact hcc.elim
      ·exact hcc.elim
     ·exact hcc.elim
    ·exact hcc.elim
   ·exact hcc.elim
 ·unfold NV at hcc;cases ops with
  | nil=>exact hcc.elim
  | cons o os=>
   dsimp only at hcc;have hops':ay o=true/\os.all ay=true:=by simpa using hops
   obtain ⟨H1,F2,h1⟩:=bT (os.map (evA s)) s H F1 hX;generalize aX s (os.map (evA s))=s1 at hcc h1;split at hcc
   ·rename_i r hro;obtain ⟨H2,γ2,F3,h2⟩:=ca (g:=g) r (dK u) sh 0 (Iv h1);generalize aR s1 r (dK u) sh 0=s2 at hcc h2;split at hcc
    ·rename_i r' hev2;split at hcc
     ·rename_i cells hdr hty hroot;have hr':r'=r:=by simpa using hdr
      subst hr';split at hcc
      ·rename_i ts hts;split at hcc
       ·rename_i x y hx hy;have hn2:=fd h2
        obtain ⟨c1,c2,c3⟩:=cr hy;obtain ⟨k1,_⟩:=mF hts (ii hx);refine Calls.mono (hcon.call g s2.toS a w H2 γ2 F3 (o::os) (fun s' av=>∃ t v',(∀ {a:Act} {w:World} {H:FH} {γ:Gam} {F:Nm->Fp},RX g s' a w H γ F->RX g t.toS a w H γ F)/\av=v'.toV/\av.isFz=true/\k t v') h2 hops ?_) ?_
        ·unfold MU;dsimp only;rw [dw hops'.2,dy c1,af hops'.1,hev2];simp only [At.toV,A1.toV,Tt.toT];rw [show aa s2.toS.m r'=some (⟨true,cells,none⟩:Rt).toR from aT hroot];dsimp only [Rt.toR,holed];refine ⟨hty.symm,(gj hts).1,by rw [dw hops'.2]; exact c2,x,y,?_,?_,hcc.1,?_⟩
         ·have e:(os.map fun x=>(ev s2.toS x).map T.canon)=(os.map (ev s2.toS)).map (AV.map T.canon):=by rw [SX]; rfl
          rw [e,dw hops'.2]; exact c3
         ·rw [(gj hts).2,k1]
         ·intro cells' s1' l1' e1';refine ⟨by simpa using l1',s1',_,_,?_,rfl,FC _ _,hcc.2⟩;intro a w H γ F hX';have hc:=mU hX' r'
          have hlist:((r',(⟨true,cells'.map (T.ren (.out 0) r')⟩:Root))::au (bv r') (aW s2.toS.m r')).map (fun x=>(x.1,if x.1=r' then fK x.2 else x.2))=(r',⟨true,(ah sh (flat u (Fn x y).2)).map Tt.toT⟩)::au (bv r') (aW s2.toS.m r'):=by
           simp only [List.map_cons,if_true]
           congr 1
           ·rw [q7 e1']; simp only [fK,e1']
           ·refine (S1 fun z hz=>?_).trans (List.map_id _);have hne:z.1≠r':=by
             intro e;have hz1:z.1∈(au (bv r') (aW s2.toS.m r')).map (·.1):=Tc (f:=(·.1)) hz
             have e2:(au (bv r') (aW s2.toS.m r')).map (·.1)=(aW s2.toS.m r').map (·.1):=by simp only [au,SX]; rfl
             rw [e2,e] at hz1;exact iu h2.mem.keys hz1
            rw [if_neg hne]; rfl
          have hfin:(⟨s2.nx+1,iT (i7 r') s2.nx s2.t,(r',s2.nx,⟨true,ah sh (flat u (Fn x y).2),none⟩)::bN (bv r') s2.nx (d9 s2.m r')⟩:St).toS=⟨iZ (gO r') s2.toS.t,(r',⟨true,(ah sh (flat u (Fn x y).2)).map Tt.toT⟩)::au (bv r') (aW s2.toS.m r')⟩:=by
           refine aZ.S_ext (ik _ _ _) ?_;simp only [List.map_cons]
           congr 1
           have:=dF (bv r') s2.nx (d9 s2.m r')
           rw [l8 _ _ hn2] at this;exact this
          rw [hfin];dsimp only at hc;rw [hlist] at hc;exact hc
        ·rintro e' w' ⟨rr,s',av,H',γ',F',q1,⟨t,v',q2,rfl,q3,q4⟩,q5,q6⟩
         exact .inl ⟨rr,t,v',H',γ',F',q1,q4,gY (fun _ _ _ h=>h) q3 q5,q2 q6⟩
       ·exact hcc.elim
      ·exact hcc.elim
     ·exact hcc.elim
    ·exact hcc.elim
   ·exact hcc.elim
theorem Es (s:St) (k:Nat) (sh:List Sh) (u:U):Ext s (qH s k sh u):=by
 unfold qH;split
 ·exact xO s k sh u
 ·exact Ext.refl s
theorem Ng {s:St} (h:R g s.toS a w) (k:Nat) (sh:List Sh) (u:U):R g (qH s k sh u).toS a w:=by
 unfold qH;split
 ·exact GJ h k sh u
 ·exact h
theorem KO {e:En} (he:e.ok) (hm:e.P.follows .mixedOrders=true) {f:Nat} {fn:Func} (hf:e.P.funcs[f]? = some fn) (hname:(fn.name == "runtime.NumGoroutine")=false) (hb:fn.body.isSome=true) {an:An} {u:U} {ps:List U} {pre:List (El u)->Fl ps->Prop} {Fn:List (El u)->Fl ps->List (El u)}
  (hlen:Nat.ble (ps.length+1) fn.ntmps=true) (hc:eQ fn.ntmps (fn.body.getD .skip)=true) (law:∀ x y,pre x y->∀ KK:List (El u)->Prop,KK (Fn x y)->M7 e fn an u ps x y KK):Cont e.P f (Np u ps pre Fn):=by
 have hb':fn.body=some (fn.body.getD .skip):=by cases h:fn.body with
  | none=>rw [h] at hb; cases hb
  | some c=>rfl
 let φ:List AV->List Sh->List (List D)->(List (List D)->Prop)->Prop:=fun avs sub l K=>∃ (x:List (El u)) (y:Fl ps),avs=eM ps y/\sub=List.replicate (nc u) .fr/\l=x.map (ai u)/\pre x y/\K ((Fn x y).map (ai u))
 have hcon:Con e.P f (Ms φ):=by
  refine Pa hf hname hb' φ (fun avs sub l K ⟨x,y,hx,_⟩=>by rw [hx,cd]; exact SP hlen) (fun g avs sub l K hg ⟨x,y,hx,hsub,hl,hp,hk⟩=>?_);subst hx; subst hsub; subst hl;have h:=law x y hp (fun r=>r=Fn x y) rfl
  have h1:=iN (e:=⟨e.P,e.E,e.cs,e.sh,fun _ _=>False⟩) he hm (g:=g) _ an _ _ (by rw [hg]; exact hc) h
  have e0:(⟨1,(0,0,.one (.c (.rf ⟨.out 0,0,[]⟩)))::sq 1 ps y,[(.out 0,0,⟨false,[.ow (List.replicate (nc u) .fr) u x],none⟩)]⟩:St).toS=⟨aL 0 (.one (.c (.rf ⟨.out 0,0,[]⟩))::eM ps y),[(.out 0,⟨false,[.ow (List.replicate (nc u) .fr) (x.map (ai u))]⟩)]⟩:=by
   refine aZ.S_ext ?_ rfl;simp only [List.map_cons,aL,fL]; rfl
  rw [e0] at h1;refine AW.mono h1 (fun ex s' h'=>?_);have fin:∀ t:St,Ii fn.results.toList u (fun r=>r=Fn x y) t->DJ t.toS fn.results.toList (fun sub' l'=>sub'=List.replicate (nc u) .fr/\K l'):=by
   intro t ht;unfold Ii at ht;unfold DJ;split at ht
   ·rename_i tt hrs;rw [hrs];dsimp only;split at ht
    ·rename_i n hgt;rw [fR hgt];simp only [At.toV,A1.toV,Tt.toT];split at ht
     ·rename_i sh u' l hr;rw [show aa t.toS.m n=some (⟨false,[.ow sh u' l],none⟩:Rt).toR from aT hr];split at ht
      ·rename_i l' hs hcast;obtain ⟨e1,rfl⟩:=iE hcast;subst e1;refine ⟨gu hs,?_⟩;have hx2:l=Fn x y:=ht
       show K (l.map (ai u'))
       rw [hx2]; exact hk
      ·exact ht.elim
     ·exact ht.elim
    ·exact ht.elim
   ·exact ht.elim
  cases ex with
  | normal=>obtain ⟨t,rfl,ht⟩:=h'; exact fin t ht
  | ret=>obtain ⟨t,rfl,ht⟩:=h'; exact fin t ht
  | exit i=>exact h'.elim (fun t ht=>ht.2.elim)
  | panic c=>obtain ⟨_,_,_,_,hf⟩:=h'; exact hf.elim
  | _=>exact h'.elim
 refine ⟨hcon.run,fun pk s ops k k' hk hcc=>?_,fun g pk s a w H γ F1 ops k hX hops hcc=>?_⟩
 ·unfold Np at hcc ⊢;split at hcc
  ·dsimp only at hcc ⊢;split at hcc
   ·split at hcc
    ·split at hcc
     ·refine ⟨hcc.1,hk _ _ ?_ hcc.2⟩;exact ((Es _ _ _ _).trans (bG _ _)).trans ⟨TE _,fq (SN _),((oh _).trans (dS (SN _))).trans (il _ _ _ (SN _))⟩
     ·exact hcc.elim
    ·exact hcc.elim
   ·exact hcc.elim
  ·exact hcc.elim
 ·unfold Np at hcc;split at hcc
  ·rename_i t os;have hops':os.all ay=true:=by
    have:=hops
    simp only [S6,SL] at this;exact this.2
   dsimp only at hcc;obtain ⟨H0,γ0,F0,h0⟩:=Ng (Iv hX) t (List.replicate (nc u) .fr) u;generalize qH s t (List.replicate (nc u) .fr) u=s0 at hcc h0;obtain ⟨H1,F2,h1⟩:=bT (os.map (evA s0)) s0 H0 F0 h0;generalize aX s0 (os.map (evA s0))=s1 at hcc h1;have hn1:=fd h1
   split at hcc
   ·rename_i r hev;split at hcc
    ·rename_i sh u' l hroot;split at hcc
     ·rename_i l' x hs hcast hx;obtain ⟨e1,rfl⟩:=iE hcast;subst e1;obtain ⟨c1,c2,c3⟩:=cr hx;refine Calls.mono (hcon.call g s1.toS a w H1 γ0 F2 (.tmp t::os) (fun s' av=>∃ t' v',s'=t'.toS/\av=v'.toV/\k t' v') h1 hops ?_) ?_
      ·unfold Ms;dsimp only;rw [dw hops',dy c1];rw [show ev s1.toS (.tmp t)=(evA s1 (.tmp t)).toV from cm t s1.t,hev];simp only [At.toV,A1.toV,Tt.toT];rw [show aa s1.toS.m r=some (⟨false,[.ow sh u' l],none⟩:Rt).toR from aT hroot];dsimp only [Rt.toR,holed,List.map_cons,List.map_nil,Tt.toT];refine ⟨by rw [dw hops']; exact c2,l,x,?_,gu hs,rfl,hcc.1,_,_,?_,?_,hcc.2⟩
       ·have e:(os.map fun x=>(ev s1.toS x).map T.canon)=(os.map (ev s1.toS)).map (AV.map T.canon):=by rw [SX]; rfl
        rw [e,dw hops']; exact c3
       ·refine (aZ.S_ext (ik _ _ _) ?_).symm;simp only [List.map_cons]
        congr 1
        have:=dF (bv r) s1.nx (d9 s1.m r)
        rw [l8 _ _ hn1] at this;exact this
       ·rfl
      ·rintro e' w' ⟨rr,s',av,H',γ',F',q1,⟨t',v',rfl,rfl,q4⟩,q5,q6⟩
       exact .inl ⟨rr,t',v',H',γ',F',q1,q4,q5,q6⟩
     ·exact hcc.elim
    ·exact hcc.elim
   ·exact hcc.elim
  ·exact hcc.elim
end
end Go.Am
end
