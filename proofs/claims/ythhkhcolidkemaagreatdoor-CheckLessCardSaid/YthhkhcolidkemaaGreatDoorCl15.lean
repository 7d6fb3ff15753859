/-
  Part 15: AmE3m · AmE3n.
-/
import Derived.Test.YthhkhcolidkemaaGreatDoorCl14
import Derived.Deep.OwnRows
set_option linter.unusedSimpArgs false
set_option linter.unusedVariables false
set_option linter.unusedSectionVars false
set_option linter.unnecessarySimpa false
section
namespace Go.Am
open Go.MapKept
def y6 {β:Type} (ku:U) (g:β->Sh×D) (x:El ku×β):D×Sh×D:=((ah ku x.1).toD,g x.2)
abbrev tE (ku vu:U):El ku×El vu->D×Sh×D:=y6 ku fun v=>(.fr,(ah vu v).toD)
abbrev pI (u:U) (l:List (El u)):Sh×D:=(.ow (List.replicate (nc u) .fr),.li (l.map (ak u)))
theorem oT {P:Program} {t:TypeId} {ku:U} (h:ew P t ku=true) (a b:El ku):kw (ah ku a).toD (ah ku b).toD=rO ku a b:=by
 cases ku with
 | i k=>show (decide (k=k)&&decide (a=b))=decide (a=b); simp
 | bo=>rfl
 | s=>rfl
 | _=>cases h
theorem eh {P:Program} {t:TypeId} {ku:U} (h:ew P t ku=true) (a:El ku):iv (ty P t).k (ah ku a).toD=true:=by
 cases ku with
 | i k=>
  have h:decide ((ty P t).k=.int k)=true:=h
  rw [of_decide_eq_true h]; show decide (k=k)=true; simp
 | bo=>
  have h:decide ((ty P t).k=.bool)=true:=h
  rw [of_decide_eq_true h]; rfl
 | s=>
  have h:decide ((ty P t).k=.str)=true:=h
  rw [of_decide_eq_true h]; rfl
 | _=>cases h
theorem lP {P:Program} {t:TypeId} {ku:U} (h:ew P t ku=true):(ty P t).k≠.ot:=by
 intro e;cases ku <;> first | (unfold ew at h; rw [e] at h; simp at h; done) | cases h
theorem mm {β:Type} {P:Program} {t:TypeId} {ku:U} (h:ew P t ku=true) (g:β->Sh×D) (l:List (El ku×β)):((l.map (y6 ku g)).all fun x=>iv (ty P t).k x.1)=true:=by
 rw [aaU];exact Y6.2 fun x _=>eh h x.1
theorem rR {β:Type} {P:Program} {t:TypeId} {ku:U} (h:ew P t ku=true) (g:β->Sh×D) (k:El ku):∀ l:List (El ku×β),mU (l.map (y6 ku g)) (ah ku k).toD=(aH ku l k).map g
 | []=>rfl
 | x::l=>by
  simp only [List.map_cons,mU,aH,y6,oT h];cases rO ku x.1 k with
  | true=>rfl
  | false=>exact rR h g k l
theorem Cm {β:Type} {P:Program} {t:TypeId} {ku:U} (h:ew P t ku=true) (g:β->Sh×D) (k:El ku) (v:β):∀ l:List (El ku×β),ic (l.map (y6 ku g)) (ah ku k).toD (g v)=(bP ku l k v).map (y6 ku g)
 | []=>rfl
 | x::l=>by
  have ih:=Cm h g k v l
  simp only [List.map_cons,ic,bP,y6,oT h];cases rO ku x.1 k with
  | true=>rfl
  | false=>simp only [List.map_cons]; rw [<- ih]; rfl
theorem Ma {β:Type} {P:Program} {t:TypeId} {ku:U} (h:ew P t ku=true) (g:β->Sh×D) (k:El ku):∀ l:List (El ku×β),B7 (l.map (y6 ku g)) (ah ku k).toD=(Jo ku l k).map (y6 ku g)
 | []=>rfl
 | x::l=>by
  have ih:=Ma h g k l
  simp only [List.map_cons,B7,Jo,y6,oT h];cases rO ku x.1 k with
  | true=>rfl
  | false=>simp only [List.map_cons]; rw [<- ih]; rfl
theorem Ml {k:D} (hk:kw k k=true) (a b:Sh×D):∀ l:List (D×Sh×D),ic (ic l k a) k b=ic l k b
 | []=>by simp only [ic,hk]
 | x::l=>by
  simp only [ic];cases h:kw x.1 k with
  | true=>simp only [ic,hk]
  | false=>simp only [ic,h,Ml hk a b l]
theorem Ux {k:D} (hk:kw k k=true) (b:Sh×D) (l:List (D×Sh×D)):ic (u6 l k) k b=ic l k b:=by
 unfold u6;split
 ·exact Ml hk _ _ _
 ·rfl
theorem LS {κ:TK} {k:D} (hk:iv κ k=true) (v:Sh×D):∀ {l:List (D×Sh×D)},(l.all fun x=>iv κ x.1)=true->((ic l k v).all fun x=>iv κ x.1)=true
 | [],_=>by simp [ic,hk]
 | x::l,h=>by
  simp only [Zb,YV] at h;simp only [ic];split
  ·simp only [Zb,hk,h.2,aaQ]
  ·simp only [Zb,h.1,LS hk v h.2,aaQ]
theorem Tz {κ:TK} {k:D} (hk:iv κ k=true) {l:List (D×Sh×D)} (h:(l.all fun x=>iv κ x.1)=true):((u6 l k).all fun x=>iv κ x.1)=true:=by
 unfold u6;split
 ·exact LS hk _ h
 ·exact h
theorem Dv {P:Program} {t:TypeId} {u:U} (h:zOK P t u=true):∃ z it,P.info? t=some it/\it.zero=some z/\z.cells=#[z]/\(∀ w,(zeroValue t).run P w=.ok z w)/\(∀ H,FDx H (ah u (dflt u)).toD z)/\(∀ v,u=.sl v->z=.slice none 0 0)/\leaf u=true:=by
 unfold zOK at h;have run:∀ {z:Value},(P.info? t).bind (·.zero)=some z->∃ it,P.info? t=some it/\it.zero=some z/\∀ w,(zeroValue t).run P w=.ok z w:=by
  intro z hz;obtain ⟨it,h1,h2⟩:=Zq.1 hz;exact ⟨it,h1,h2,fun w=>by simp [zeroValue,typeInfo,h1,h2]⟩
 split at h
 ·rename_i k n k' hz;obtain ⟨it,h1,h2,h3⟩:=run hz;simp only [YV,decide_eq_true_eq] at h;obtain ⟨⟨rfl,rfl⟩,_⟩:=h;exact ⟨_,it,h1,h2,rfl,h3,fun H=>⟨0,rfl,by cases k <;> decide⟩,(fun _ e=>by cases e),rfl⟩
 ·rename_i b hz;obtain ⟨it,h1,h2,h3⟩:=run hz;cases b with
  | true=>cases h
  | false=>exact ⟨_,it,h1,h2,rfl,h3,fun H=>⟨0,rfl⟩,(fun _ e=>by cases e),rfl⟩
 ·rename_i str hz;obtain ⟨it,h1,h2,h3⟩:=run hz;refine ⟨_,it,h1,h2,rfl,h3,fun H=>⟨0,?_,ZE _⟩,(fun _ e=>by cases e),rfl⟩;obtain ⟨⟨l⟩⟩:=str;cases l with
  | nil=>rfl
  | cons x l=>simp at h
 ·rename_i u hz;obtain ⟨it,h1,h2,h3⟩:=run hz;exact ⟨_,it,h1,h2,rfl,h3,fun H=>j9,fun _ _=>rfl,rfl⟩
 ·rename_i ku vu hz;obtain ⟨it,h1,h2,h3⟩:=run hz;exact ⟨_,it,h1,h2,rfl,h3,fun H=>⟨0,rfl⟩,(fun _ e=>by cases e),rfl⟩
 ·cases h
section
variable {P:Program} {g:G} {a:Act} {w:World} {H:FH} {γ:Gam} {F:Nm->Fp} {s:St} {k k':St->Prop}
theorem rV {E:Ut} {own:Bool} {t:TypeId} {d:Tmp} (hk:∀ s',Ext s s'->k s'->k' s') (h:en P E own s t d k):en P E own s t d k':=by
 unfold en at h ⊢
 (repeat' split at h) <;> first | exact h.elim | exact hk _ (((bt _ _).trans (ce _ _ _)).trans (ax _ _ _)) h
theorem Cy {m:List (Nm×Nat×Rt)} {t:TypeId} {x key:At} {ok:Bool} {k k':At->Prop} (hk:∀ v,k v->k' v) (h:kB P m t x key ok k):kB P m t x key ok k':=by
 unfold kB at h ⊢
 (repeat' split at h) <;> first | exact h.elim | exact hk _ h
theorem Gf {t:TypeId} {x key v:At} (hk:∀ s',Ext s s'->k s'->k' s') (h:kD P s t x key v k):kD P s t x key v k':=by
 unfold kD at h ⊢
 (repeat' split at h) <;> first | exact h.elim | exact hk _ ⟨ZC _,fun _ _ _ h _=>h,ct _ _ (YY _) _⟩ h
theorem Ga {t:TypeId} {x key:At} (hk:∀ s',Ext s s'->k s'->k' s') (h:kA P s t x key k):kA P s t x key k':=by
 unfold kA at h ⊢
 (repeat' split at h) <;> first | exact h.elim | exact hk _ ⟨ZC _,fun _ _ _ h _=>h,ct _ _ (YY _) _⟩ h
theorem qS (s:St) (n:Nm) (r:Rt):Ext s ⟨s.nx+1,s.t,cq s.m n s.nx r⟩:=⟨ZC _,fun _ _ _ h _=>h,ct _ _ (YY _) _⟩
theorem CA {t:TypeId} {x key:Operand} {d:Tmp} (hk:∀ s',Ext s s'->k s'->k' s') (h:lM P s t x key d k):lM P s t x key d k':=by
 unfold lM at h ⊢;dsimp only at h ⊢
 (repeat' split at h) <;> first | exact h.elim | exact hk _ ((((bt _ _).trans (qS _ _ _)).trans (ce _ _ _)).trans (ax _ _ _)) h
theorem Ge {t:TypeId} {x key v:At} (hk:∀ s',Ext s s'->k s'->k' s') (h:oX P s t x key v k):oX P s t x key v k':=by
 unfold oX at h ⊢;dsimp only at h ⊢
 (repeat' split at h) <;> first | exact h.elim | exact ⟨h.1,hk _ ((qR _ _).trans (qS _ _ _)) h.2⟩
theorem Gb {x:Operand} {d:Tmp} (hk:∀ s',Ext s s'->k s'->k' s') (h:oV s x d k):oV s x d k':=by
 unfold oV at h ⊢
 (repeat' split at h) <;> first | exact h.elim | exact hk _ ((qS _ _ _).trans (ax _ _ _)) h
theorem xS {e:En} {t:TypeId} {n c:At} {b:Bool} {d:Tmp} (hk:∀ s',Ext s s'->k s'->k' s') (h:dF e s t n c b d k):dF e s t n c b d k':=by
 unfold dF at h ⊢
 (repeat' split at h) <;> first | exact h.elim | exact ⟨h.1,hk _ (((bt _ _).trans (ce _ _ _)).trans (ax _ _ _)) h.2⟩
theorem F9 {E:Ut} {own:Bool} {t:TypeId} {d:Tmp} (hX:RX g s.toS a w H γ F) (hd:okD g.nt (some d)=true) (h:en P E own s t d k) {r:Option Value} (hr:∀ v,r=some v->∃ κ n,v=.int κ n) :
  ∃ t' y w' γ' F',(Instr.makeMap t r).run P w=.ok y w'/\k t'/\RX g t'.toS (a.put (some d) y) w' H γ' F':=by
 have go:∀ {kt et:TypeId} {c:Tt},(ty P t).k=.mp kt et->c.toT=.mp []->k (((s.fresh (.gh d)).root (.gh d) ⟨false,[c],none⟩).put (some d) (.one (.c (.rf ⟨.gh d,0,[]⟩))))->∃ t' y w' γ' F',(Instr.makeMap t r).run P w=.ok y w'/\k t'/\RX g t'.toS (a.put (some d) y) w' H γ' F':=by
  intro kt et c ht hc hk;obtain ⟨_,td,_,hu,htd,_⟩:=aO ht (by simp);obtain rfl:=pK htd;have hn:=dT hX
  have h1:=bS hX (.gh d)
  obtain ⟨γ',F',h2,hγ⟩:=M3 h1 (n:=.gh d) rfl (bB hX (.gh d));have hrun:(Instr.makeMap t r).run P w=.ok (.map (some w.heap.size)) (w.alloc (.map #[] 0)):=by
   cases r with
   | none=>rfl
   | some v=>
    obtain ⟨κ,n,rfl⟩:=hr v rfl;simp [Instr.makeMap,run_underlying hu,asInt,asIntOf,Result.andThen]
  refine ⟨_,_,_,γ',F',hrun,hk,?_⟩;have e:((s.fresh (.gh d)).root (.gh d) ⟨false,[c],none⟩).toS=⟨(s.toS.fresh (.gh d)).t,(.gh d,⟨false,[.mp []]⟩)::(s.toS.fresh (.gh d)).m⟩:=by
   rw [<- bk hn];show (⟨_,(Nm.gh d,(⟨false,[c.toT]⟩:Root))::_⟩:S)=_
   rw [hc]; rfl
  rw [<- e] at h2;refine aR (aD _ (some d) (.one (.c (.rf ⟨.gh d,0,[]⟩)))) (h2.put hd ?_);exact sC (l:=[]) (by rw [e]; simp [aa]) hγ
 unfold en at h;split at h
 ·rename_i kt et ht;split at h
  ·exact go ht rfl h
  ·exact go ht rfl h
  ·exact h.elim
 ·exact h.elim
theorem oU {p:Pl} {ku vu:U} {l:List (El ku×El vu)} (h:mL s.m p=some ⟨ku,vu,l⟩):∃ n,p=⟨n,0,[]⟩/\aa s.toS.m n=some ⟨false,[.mp (l.map (tE ku vu))]⟩:=by
 unfold mL at h;split at h
 ·rename_i n;split at h
  ·rename_i hr;cases h;exact ⟨n,rfl,aM hr⟩
  ·cases h
 ·cases h
theorem tQ {n:Nm} {ku u:U} {l:List (El ku×List (El u))} {o:Option (El ku)} (h:tP s.m n=some ⟨ku,u,l,o⟩):aa s.toS.m n=some ⟨false,[.mp (moD ku u l o)]⟩:=by
 unfold tP at h;split at h
 ·rename_i hr;cases h;exact aM hr
 ·cases h
theorem qz {n:Nm} {l:List (D×Sh×D)} (hX:RX g s.toS a w H γ F) (hr:aa s.toS.m n=some ⟨false,[.mp l]⟩) {y:Value} (hy:AR w H γ s.toS.m (.one (.c (.rf ⟨n,0,[]⟩))) y) :
  ∃ b es ck,∃ f:Fp,y=.map (some b)/\γ n=.gh (.map (some b))/\w.heap[b]? = some (.map es ck)/\Stamped es ck/\MpO w H l es.toList f/\(∀ c,F n c=f c+if c=b then 1 else 0)/\f b=0:=by
 obtain ⟨b,es,ck,f,c1,c2,c3,c4,c5,c6⟩:=RV hX.mem hr;obtain ⟨_,_,hv⟩:=hy;refine ⟨b,es,ck,f,?_,c1,c2,c3,c4,c5,c6⟩;unfold plV at hv;dsimp only at hv;rw [c1] at hv;exact (Option.some.inj hv).symm
theorem x5 {P:Program} {t:TypeId} {u:U} (h:ew P t u=true):leaf u=true:=by cases u <;> first | rfl | cases h
theorem JZ {t:TypeId} {x key:At} {ok:Bool} {k:At->Prop} (hX:RX g s.toS a w H γ F) {y kv:Value} (hy:AR w H γ s.toS.m x.toV y) (hkv:AR w H γ s.toS.m key.toV kv) (h:kB P s.m t x key ok k) :
  ∃ z v,(Instr.lookup t y kv ok).run P w=.ok z w/\AR w H γ s.toS.m v.toV z/\k v:=by
 unfold kB at h;split at h
 ·rename_i kt et ht;split at h
  ·rename_i p c;split at h
   ·rename_i ku vu l hm;split at h
    ·rename_i kx hc hk;simp only [YV] at hc;obtain ⟨_,td,_,hu,htd,_⟩:=aO ht (by simp);obtain rfl:=pK htd;obtain ⟨_,kd,_,hku,hkd,_⟩:=aO rfl (lP hc.1);obtain ⟨n,rfl,hr⟩:=oU hm;obtain ⟨b,es,ck,f,rfl,_,c2,c3,c4,_⟩:=qz hX hr hy;obtain ⟨z,_,_,_,_,zr,zf,_,zl⟩:=Dv hc.2;have hkey:FDx H (ah ku kx).toD kv:=by rw [cr hk] at hkv; exact hkv.2
     obtain ⟨v,e1,e2⟩:=qA (P:=P) hu hku c2 c4 (by rw [hkd]; exact mm hc.1 _ l) (by rw [hkd]; exact eh hc.1 kx) hkey (zr w) ok;rw [rR hc.1] at e1 e2;have hv:FDx H (ah vu ((aH ku l kx).getD (dflt vu))).toD v:=by
      cases hl:aH ku l kx with
      | none=>rw [hl] at e2; rw [show v=z from e2.1]; exact zf H
      | some x=>
       rw [hl] at e2;obtain ⟨_,_,_,q,_⟩:=e2;exact (dU.1 q).2
     refine ⟨_,_,e1,?_,h⟩;unfold KD;cases ok with
     | true=>exact ⟨_,rfl,⟨fun _=>rfl,hv⟩,⟨fun _=>rfl,0,by rw [Option.isSome_map]; rfl⟩,trivial⟩
     | false=>exact ⟨fun _=>rfl,hv⟩
    ·exact h.elim
   ·exact h.elim
  ·rename_i ku vu z c;split at h
   ·rename_i kx hc hk;simp only [YV] at hc;obtain ⟨_,td,_,hu,htd,_⟩:=aO ht (by simp);obtain rfl:=pK htd;obtain ⟨_,kd,_,hku,hkd,_⟩:=aO rfl (lP hc.1);obtain ⟨zv,_,_,_,_,zr,zf,_,zl⟩:=Dv hc.2.1;have hkey:FDx H (ah ku kx).toD kv:=by rw [cr hk] at hkv; exact hkv.2
    have hisk:iv (eC P kd) (ah ku kx).toD=true:=by rw [hkd]; exact eh hc.1 kx
    have hd:FDx H (.mp (z.map fun l=>l.map fun x=>((ak ku x.1).headD .any,(ak vu x.2).headD .any))) y:=hy.2
    cases z with
    | none=>
     obtain ⟨b,rfl⟩:=IA hd;have hb:b=none:=by
      obtain ⟨m,hd⟩:=hd;have hd:Value.map b=.map none:=by cases m <;> exact hd
      simpa using hd
     subst hb;refine ⟨_,_,yt hu hku hisk hkey (zr w) ok,?_,h⟩;have hv:FDx H (ah vu (dflt vu)).toD zv:=zf H
     unfold KD;cases ok with
     | true=>exact ⟨_,rfl,⟨fun _=>rfl,hv⟩,⟨fun _=>rfl,0,rfl⟩,trivial⟩
     | false=>exact ⟨fun _=>rfl,hv⟩
    | some l=>
     have el:(l.map fun x=>((ak ku x.1).headD .any,(ak vu x.2).headD .any))=l.map fun x=>((ah ku x.1).toD,(ah vu x.2).toD):=Zc fun x _=>by rw [gV (x5 hc.1),gV hc.2.2]
     have hd:FDx H (.mp (some (l.map fun x=>((ak ku x.1).headD .any,(ak vu x.2).headD .any)))) y:=hd
     rw [el] at hd;obtain ⟨b,es,ck,rfl,c2,_,c4⟩:=PN hX.mem.agree (fun e he=>by
      obtain ⟨x,_,rfl⟩:=Zo.1 he;exact mH (eh hc.1 x.1)) hd
     rw [Y9] at c4;have c4:MpO w H (l.map (tE ku vu)) es.toList (fun _=>0):=c4
     obtain ⟨v,e1,e2⟩:=qA (P:=P) hu hku c2 c4 (by rw [hkd]; exact mm hc.1 _ l) hisk hkey (zr w) ok;rw [rR hc.1] at e1 e2;have hv:FDx H (ah vu ((aH ku l kx).getD (dflt vu))).toD v:=by
      cases hl:aH ku l kx with
      | none=>rw [hl] at e2; rw [show v=zv from e2.1]; exact zf H
      | some x=>
       rw [hl] at e2;obtain ⟨_,_,_,q,_⟩:=e2;exact (dU.1 q).2
     refine ⟨_,_,e1,?_,h⟩;unfold KD;cases ok with
     | true=>exact ⟨_,rfl,⟨fun _=>rfl,hv⟩,⟨fun _=>rfl,0,by rw [Option.isSome_map]; rfl⟩,trivial⟩
     | false=>exact ⟨fun _=>rfl,hv⟩
   ·exact h.elim
  ·exact h.elim
 ·exact h.elim
theorem NT {vu:U} {tv:Tt} {vx:El vu} (hl:leaf vu=true) (h:gf vu [tv]=some vx) {m:Mm} {y:Value} (hy:TR w H γ m tv.toT (fun _=>0) y):FDx H (ah vu vx).toD y:=by
 have h1:yZ vu tv=some vx:=by cases vu <;> first | exact h | cases hl
 unfold yZ at h1;split at h1
 ·split at h1
  ·simp only [YT] at h1; subst h1; exact hy.2
  ·cases h1
 ·rw [cr h1] at hy; exact hy.2
 ·split at h1
  ·simp only [YT] at h1; subst h1;obtain ⟨_,rfl⟩:=hy;exact j9
  ·cases h1
 ·cases h1
theorem lY {s:St} {n:Nm} {c:Tt} {l:List (D×Sh×D)} (hc:c.toT=.mp l):(⟨s.nx+1,s.t,cq s.m n s.nx ⟨false,[c],none⟩⟩:St).toS=⟨s.toS.t,bv s.toS.m n ⟨false,[.mp l]⟩⟩:=by
 refine aU.S_ext rfl ?_;show toM (cq s.m n s.nx _)=_
 rw [dI]
 congr 1
 show (⟨false,[c.toT]⟩:Root)=_
 rw [hc]
theorem Kc {t:TypeId} {x key v:At} (hX:RX g s.toS a w H γ F) {y kv vv:Value} (hy:AR w H γ s.toS.m x.toV y) (hkv:AR w H γ s.toS.m key.toV kv) (hvv:AR w H γ s.toS.m v.toV vv) (h:kD P s t x key v k) :
  ∃ t' w' F',(Instr.mapUpdate t y kv vv).run P w=.ok () w'/\k t'/\RX g t'.toS a w' H γ F':=by
 unfold kD at h;split at h
 ·rename_i kt et ht;split at h
  ·rename_i p c tv;split at h
   ·rename_i ku vu l hm;split at h
    ·rename_i kx vx hc hk hcv;simp only [YV] at hc;obtain ⟨_,td,_,hu,htd,_⟩:=aO ht (by simp);obtain rfl:=pK htd;obtain ⟨_,kd,_,hku,hkd,_⟩:=aO rfl (lP hc.1);obtain ⟨n,rfl,hr⟩:=oU hm;obtain ⟨b,es,ck,f,rfl,c1,c2,c3,c4,c5,c6⟩:=qz hX hr hy;have hkey:FDx H (ah ku kx).toD kv:=by rw [cr hk] at hkv; exact hkv.2
     have hval:FDx H (ah vu vx).toD vv:=NT hc.2 hcv hvv
     obtain ⟨es',ck',f2,e1,e2,e3,e4⟩:=yv (P:=P) hu hku c2 c3 c4 c6 (by rw [hkd]; exact mm hc.1 _ l) (by rw [hkd]; exact eh hc.1 kx) hkey (v:=(.fr,(ah vu vx).toD)) (n:=0) (fv:=fun _=>0) rfl (dU.2 ⟨fun _=>rfl,hval⟩);rw [Cm hc.1 (fun v=>(.fr,(ah vu v).toD))] at e4;have hge:∀ c,F n c<=tot F s.toS.m c:=fun c=>aN (F:=F) (ab hr) c
     have:=s5 hX hr c1 c2 c5 e2 e4 (fun c=>by have:=e3 c; have:=hX.mem.le1 c; omega) (fun c hc=>by
      have h3:tot F s.toS.m c≠0:=by have:=e3 c; have:=c5 c; have:=hge c; omega
      exact ⟨hX.mem.lt c h3,hX.mem.nofz c h3,hX.fr.tt c h3⟩)
     rw [<- lY (s:=s) (c:=.mp ku vu (bP ku l kx vx)) (l:=(bP ku l kx vx).map (tE ku vu)) rfl] at this;exact ⟨_,_,_,e1,h,this⟩
    ·exact h.elim
   ·exact h.elim
  ·exact h.elim
 ·exact h.elim
theorem JW {t tt:TypeId} {ts:List TypeId} {x key:At} (hX:RX g s.toS a w H γ F) {y kv:Value} (hy:AR w H γ s.toS.m x.toV y) (hkv:AR w H γ s.toS.m key.toV kv) (h:kA P s t x key k) :
  ∃ t' w' F',(Builtin.delete_ (t::ts).toArray tt #[y,kv]).run P w=.ok (.tuple #[]) w'/\k t'/\RX g t'.toS a w' H γ F':=by
 unfold kA at h;split at h
 ·rename_i kt et ht;split at h
  ·rename_i p c;split at h
   ·rename_i ku vu l hm;split at h
    ·rename_i kx hc hk;obtain ⟨_,td,_,hu,htd,_⟩:=aO ht (by simp);obtain rfl:=pK htd;obtain ⟨_,kd,_,hku,hkd,_⟩:=aO rfl (lP hc);obtain ⟨n,rfl,hr⟩:=oU hm;obtain ⟨b,es,ck,f,rfl,c1,c2,c3,c4,c5,c6⟩:=qz hX hr hy;have hkey:FDx H (ah ku kx).toD kv:=by rw [cr hk] at hkv; exact hkv.2
     obtain ⟨es',f2,e1,e2,e3,e4⟩:=KF (P:=P) (ty:=tt) hu hku c2 c3 c4 c6 (by rw [hkd]; exact mm hc _ l) (by rw [hkd]; exact eh hc kx) hkey (t::ts).toArray (by simp);rw [Ma hc] at e4;have hge:∀ c,F n c<=tot F s.toS.m c:=fun c=>aN (F:=F) (ab hr) c
     have:=s5 hX hr c1 c2 c5 e2 e4 (fun c=>by have:=e3 c; have:=hX.mem.le1 c; omega) (fun c hc=>by
      have h3:tot F s.toS.m c≠0:=by have:=e3 c; have:=c5 c; have:=hge c; omega
      exact ⟨hX.mem.lt c h3,hX.mem.nofz c h3,hX.fr.tt c h3⟩)
     rw [<- lY (s:=s) (c:=.mp ku vu (Jo ku l kx)) (l:=(Jo ku l kx).map (tE ku vu)) rfl] at this;exact ⟨_,_,_,e1,h,this⟩
    ·exact h.elim
   ·exact h.elim
  ·exact h.elim
 ·exact h.elim
theorem JA {P:Program} {t:TypeId} {ku:U} (h:ew P t ku=true) (k:El ku):kw (ah ku k).toD (ah ku k).toD=true:=by
 rw [oT h];cases ku with
 | i _=>show decide (k=k)=true; simp
 | bo=>cases (k:Bool) <;> rfl
 | s=>show decide (k=k)=true; simp
 | _=>cases h
theorem Gg {t:TypeId} {x key:Operand} {d:Tmp} (hX:RX g s.toS a w H γ F) (hd:okD g.nt (some d)=true) (hx:au x=true) (hkx:au key=true) (h:lM P s t x key d k) :
  ∃ t' y γ' F',(Instr.lookup t (a.eval x) (a.eval key) false).run P w=.ok y w/\k t'/\RX g t'.toS (a.put (some d) y) w H γ' F':=by
 unfold lM at h;split at h
 ·rename_i kt et ht;dsimp only at h;have hX1:RX g (s.fresh (.gh d)).toS a w H γ F:=by rw [bk (dT hX)]; exact bS hX _
  have hn0:aa (s.fresh (.gh d)).toS.m (.gh d)=none:=by rw [bk (dT hX)]; exact bB hX _
  generalize s.fresh (.gh d)=s1 at h hX1 hn0;split at h
  ·rename_i n c hxe hke;split at h
   ·rename_i ku u l hm;split at h
    ·rename_i kx hc hk;simp only [YV] at hc;obtain ⟨_,td,_,hu,htd,_⟩:=aO ht (by simp);obtain rfl:=pK htd;obtain ⟨_,kd,_,hku,hkd,_⟩:=aO rfl (lP hc.1);have hr:=tQ hm
     have hy:=az hX1 hx
     have hkv:=az hX1 hkx
     rw [ac hx,hxe] at hy;rw [ac hkx,hke] at hkv;obtain ⟨b,es,ck,f,hyv,c1,c2,c3,c4,c5,c6⟩:=qz hX1 hr hy;obtain ⟨z,_,_,_,_,zr,_,zs,_⟩:=Dv hc.2;have hkey:FDx H (ah ku kx).toD (a.eval key):=by rw [cr hk] at hkv; exact hkv.2
     have hall:((moD ku u l none).all fun x=>iv (ty P kt).k x.1)=true:=mm hc.1 (pI u) l
     obtain ⟨v,e1,e2⟩:=qA (P:=P) hu hku c2 c4 (by rw [hkd]; exact hall) (by rw [hkd]; exact eh hc.1 kx) hkey (zr w) false;have hlook:mU (moD ku u l none) (ah ku kx).toD=(aH ku l kx).map (pI u):=rR hc.1 (pI u) kx l
     have fin:∀ (f1 f2:Fp) (n':Nat),(∀ c,f c=f1 c+f2 c)->OD w H n' (.ow (List.replicate (nc u) .fr)) (.li (((aH ku l kx).getD []).map (ak u))) f1 v->MpO w H (u6 (moD ku u l none) (ah ku kx).toD) es.toList f2 ->
       ∃ t' y γ' F',(Instr.lookup t (a.eval x) (a.eval key) false).run P w=.ok y w/\k t'/\RX g t'.toS (a.put (some d) y) w H γ' F':=by
      intro f1 f2 n' hf hod hmp;obtain ⟨γ',F',q1,q2⟩:=M4 hX1 hr c1 c2 c3 c5 hf hmp (n2:=.gh d) rfl hn0 hod;refine ⟨_,v,γ',F',by rw [hyv]; exact e1,h,?_⟩;have e3:((⟨s1.nx+1,s1.t,cq s1.m n s1.nx ⟨false,[.mo ku u l (some kx)],none⟩⟩:St).root (.gh d) ⟨false,[.ow (List.replicate (nc u) .fr) u ((aH ku l kx).getD [])],none⟩).toS=⟨s1.toS.t,(.gh d,⟨false,[.ow (List.replicate (nc u) .fr) (((aH ku l kx).getD []).map (ak u))]⟩)::bv s1.toS.m n ⟨false,[.mp (u6 (moD ku u l none) (ah ku kx).toD)]⟩⟩:=by
       have:=lY (s:=s1) (n:=n) (c:=.mo ku u l (some kx)) (l:=u6 (moD ku u l none) (ah ku kx).toD) rfl
       have h2:=congrArg S.m this
       have h1:=congrArg S.t this
       exact aU.S_ext h1 (congrArg (List.cons _) h2)
      rw [<- e3] at q1;refine aR (aD _ (some d) (.one (.c (.rf ⟨.gh d,0,[]⟩)))) (q1.put hd (fA (sub:=List.replicate (nc u) .fr) (l:=((aH ku l kx).getD []).map (ak u)) ?_ q2));rw [e3]; simp [aa]
     rw [hlook] at e2;cases hl:aH ku l kx with
     | none=>
      rw [hl] at e2;refine fin (fun _=>0) f 1 (fun c=>(ZI _).symm) ?_ ?_
      ·rw [hl,e2.1,zs _ rfl];show OD w H 1 _ (.li []) _ _
       rw [dy]; exact .inl ⟨rfl,rfl,fun _=>rfl⟩
      ·have:u6 (moD ku u l none) (ah ku kx).toD=moD ku u l none:=by unfold u6; rw [hlook,hl]; rfl
       rw [this]; exact e2.2
     | some rows=>
      rw [hl] at e2;obtain ⟨n',f1,f2,q1,q2,q3⟩:=e2;refine fin f1 f2 n' q2 (by rw [hl]; exact q1) ?_;have:u6 (moD ku u l none) (ah ku kx).toD=ic (moD ku u l none) (ah ku kx).toD ((pI u rows).1,.any):=by unfold u6; rw [hlook,hl]; rfl
      rw [this]; exact q3
    ·exact h.elim
   ·exact h.elim
  ·exact h.elim
 ·exact h.elim
theorem J8 {t:TypeId} {x key v:At} (hX:RX g s.toS a w H γ F) {y kv vv:Value} (hy:AR w H γ s.toS.m x.toV y) (hkv:AR w H γ s.toS.m key.toV kv) (hvv:AR w H γ s.toS.m v.toV vv) (h:oX P s t x key v k) :
  ∃ t' w' F',(Instr.mapUpdate t y kv vv).run P w=.ok () w'/\k t'/\RX g t'.toS a w' H γ F':=by
 unfold oX at h;split at h
 ·rename_i kt et ht;split at h
  ·rename_i n c q;split at h
   ·rename_i ku u l o sub u' rows hm hq;split at h
    ·rename_i kx rows' hc hk hcast;simp only [YV,Z2,decide_eq_false_iff_not] at hc;obtain ⟨hc1,hc2,hc3⟩:=hc;obtain ⟨eu,rfl⟩:=gR hcast;subst eu;obtain rfl:=jh hc2;obtain ⟨h0,h⟩:=h;dsimp only at h;obtain ⟨_,td,_,hu,htd,_⟩:=aO ht (by simp);obtain rfl:=pK htd;obtain ⟨_,kd,_,hku,hkd,_⟩:=aO rfl (lP hc1);have hr:=tQ hm
     have hq2:aa s.toS.m q=some ⟨false,[.ow (List.replicate (nc u') .fr) (rows.map (ak u'))]⟩:=aM hq
     have hR:=hX.mem.roots _ (ab hq2)
     unfold aW at hR;dsimp only at hR;rw [if_neg (by simp)] at hR;obtain ⟨vq,tq,hγq,hcells,hTq⟩:=hR;obtain rfl:tq=.ow (List.replicate (nc u') .fr) (rows.map (ak u')):=by simpa using hcells.symm
     obtain ⟨nq,hod⟩:=hTq;have hvq:vv=vq:=by
      obtain ⟨_,_,hv⟩:=hvv;unfold plV at hv;dsimp only at hv;rw [hγq] at hv;exact (Option.some.inj hv).symm
     subst hvq;have hge:∀ c,F q c<=tot F s.toS.m c:=fun c=>aN (F:=F) (ab hq2) c
     have hge2:∀ c,F n c+F q c<=tot F s.toS.m c:=fun c=>sy (F:=F) (ab hr) (ab hq2) (fun e=>hc3 e.symm) c
     have hXd:=oF hX q
     have ed:(s.drop q).toS=s.toS.drop q:=aU (dT hX)
     have htd2:∀ c,tot F (s.toS.drop q).m c+F q c=tot F s.toS.m c:=fun c=>by
      show tot F (aw _ _) c+_=_
      rw [aQ]; exact ik hq2 c
     have hrd:aa (s.toS.drop q).m n=some ⟨false,[.mp (moD ku u' l o)]⟩:=by
      show aa (aw (aJ q) (be s.toS.m q)) n=_
      rw [jD,jd (fun e=>hc3 e.symm),hr]; rfl
     obtain ⟨b,es,ck,f,hyv,c1,c2,c3,c4,c5,c6⟩:=qz hX hr hy;subst hyv;have hkey:FDx H (ah ku kx).toD kv:=by rw [cr hk] at hkv; exact hkv.2
     have hkk:=JA hc1 kx
     have hall:((moD ku u' l o).all fun x=>iv (ty P kt).k x.1)=true:=by
      cases o with
      | none=>exact mm hc1 (pI u') l
      | some k0=>exact Tz (eh hc1 k0) (mm hc1 (pI u') l)
     have hins:ic (moD ku u' l o) (ah ku kx).toD (pI u' rows)=moD ku u' (bP ku l kx rows) none:=by
      have e0:ic (l.map (Ra ku u')) (ah ku kx).toD (pI u' rows)=(bP ku l kx rows).map (Ra ku u'):=Cm hc1 (pI u') kx rows l
      cases o with
      | none=>exact e0
      | some k0=>
       have h0:kx=k0:=h0
       subst h0;exact (Ux hkk _ _).trans e0
     have hqb:F q b=0:=by have:=hge2 b; have:=hX.mem.le1 b; have:=c5 b; rw [if_pos rfl] at this; omega
     obtain ⟨es',ck',f2,e1,e2,e3,e4⟩:=yv (P:=P) hu hku c2 c3 c4 c6 (by rw [hkd]; exact hall) (by rw [hkd]; exact eh hc1 kx) hkey (v:=pI u' rows) (n:=nq) (fv:=F q) hqb hod;rw [hins] at e4;have:=s5 hXd hrd c1 c2 c5 e2 e4 (fun c=>by have:=e3 c; have:=htd2 c; have:=hX.mem.le1 c; have:=hge2 c; omega) (fun c hc=>by
      have h3:tot F s.toS.m c≠0:=by have:=e3 c; have:=c5 c; have:=hge2 c; omega
      exact ⟨hX.mem.lt c h3,hX.mem.nofz c h3,hX.fr.tt c h3⟩)
     rw [<- ed,<- lY (s:=s.drop q) (c:=.mo ku u' (bP ku l kx rows) none) (l:=moD ku u' (bP ku l kx rows) none) rfl] at this;exact ⟨_,_,_,e1,h,this⟩
    ·exact h.elim
   ·exact h.elim
  ·exact h.elim
 ·exact h.elim
theorem JX {x:Operand} {d:Tmp} (hX:RX g s.toS a w H γ F) (hd:okD g.nt (some d)=true) (hx:au x=true) (h:oV s x d k) :
  ∃ t' H' F',k t'/\RX g t'.toS (a.put (some d) (a.eval x)) w H' γ F':=by
 unfold oV at h;split at h
 ·rename_i n hxe;split at h
  ·rename_i ku u l hm;have hr:=tQ hm
   have hy:=az hX hx
   rw [ac hx,hxe] at hy;obtain ⟨b,es,ck,f,hyv,c1,_⟩:=qz hX hr hy;obtain ⟨H',F',h2⟩:=P7 hX hr;have hfz:WO (moD ku u l none)=l.map (tE ku (.sl u)):=by
    show (l.map (Ra ku u)).map _=_
    rw [Y9]; rfl
   rw [hfz,<- lY (s:=s) (c:=.mp ku (.sl u) l) (l:=l.map (tE ku (.sl u))) rfl] at h2;refine ⟨_,H',F',h,aR (aD _ (some d) (.one (.c (.rf ⟨n,0,[]⟩)))) (h2.put hd ?_)⟩;rw [hyv];refine sC (l:=l.map (tE ku (.sl u))) ?_ c1;rw [lY (s:=s) (c:=.mp ku (.sl u) l) (l:=l.map (tE ku (.sl u))) rfl];show aa (bv s.toS.m n _) n=_
   rw [dP hr,if_pos rfl]
  ·exact h.elim
 ·exact h.elim
theorem Oy (z:Value) (n:Nat):(madeCells #[z] n).toList=List.replicate n z:=by
 unfold madeCells;apply List.ext_getElem
 ·simp
 ·intro i h1 h2;simp [Nat.mod_one]
theorem zu {e:En} {t:TypeId} {n c:Operand} {d:Tmp} (hX:RX g s.toS a w H γ F) (hd:okD g.nt (some d)=true) (hno:au n=true) (h:dF e s t (evA s n) (evA s c) (yz n c) d k) :
  ∃ t' y w' γ' F',(Instr.makeSlice t (a.eval n) (a.eval c)).run e.P w=.ok y w'/\k t'/\RX g t'.toS (a.put (some d) y) w' H γ' F':=by
 have hsame:yz n c=true->a.eval c=a.eval n:=by
  intro hs;unfold yz at hs;split at hs
  ·rw [Y1 hs]
  ·cases hs
 have hv:=az hX hno
 rw [ac hno] at hv;unfold dF at h;split at h
 ·rename_i el ht hs;split at h
  ·rename_i i he;rw [he] at hv;obtain ⟨hi,hw⟩:=l8 hv;split at h
   ·rename_i u hu;split at h
    ·rename_i hc;simp only [YV] at hc;obtain ⟨⟨h0,h1,h2⟩,h⟩:=h;obtain ⟨_,td,_,hud,htd,_⟩:=aO ht (by simp);obtain rfl:=mV htd;obtain ⟨z,it,z1,z2,z3,_,z5,z6,z7⟩:=Dv hc.1.1;have hok:(ty e.P el).ok=true:=by
      cases hb:(ty e.P el).ok with
      | true=>rfl
      | false=>
       have:=Y1 hc.1.2
       unfold ty at hb this;rw [z1] at hb this;cases hud2:e.P.underlying el with
       | none=>rw [hud2] at this; simp at this
       | some d2=>rw [hud2] at hb; simp at hb
     obtain ⟨it',_,i1,_,_,i4,i5,_⟩:=eE hok;rw [z1] at i1;obtain rfl:=Option.some.inj i1;have hs1:it.size=1:=by rw [<- i4]; exact Y1 hc.1.2
     rw [i5] at h2;have hrun:=run_make_row (P:=e.P) t el it z hud z1 z2 hs1 z3 .i64 .i64 i.toNat h2 (by omega) w
     rw [Int.toNat_of_nonneg h0] at hrun;have h3:=bS hX (.gh d)
     have hn:=dT hX
     have hrow:∀ k,Cs (OD w H (k+1)) (List.replicate i.toNat ((dJ e.sh el).getD [.fr])).flatten (List.replicate i.toNat [(ah u (dflt u)).toD]).flatten (fun _=>0) (madeCells #[z] i.toNat).toList:=by
      intro k;rw [Oy];generalize i.toNat=N;induction N with
      | zero=>exact fun _=>rfl
      | succ N ih=>
       rw [Z4,Z4,Z4,Z0,Z0];have hr:=hc.2
       generalize (dJ e.sh el).getD [.fr]=sub at hr ih;unfold ME at hr;split at hr
       ·exact ⟨z,_,fun _=>0,fun _=>0,rfl,fun _=>rfl,dU.2 ⟨fun _=>rfl,z5 H⟩,ih⟩
       ·rename_i sub' u';refine ⟨z,_,fun _=>0,fun _=>0,rfl,fun _=>rfl,?_,ih⟩;show OD w H (k+1) (.ow sub') (.li []) _ z
        rw [dy];exact .inl ⟨rfl,z6 _ rfl,fun _=>rfl⟩
       ·cases hr
     have hlen1:((dJ e.sh el).getD [.fr]).length=1:=by
      have hr:=hc.2
      generalize (dJ e.sh el).getD [.fr]=sub at hr;unfold ME at hr;split at hr
      ·rfl
      ·rfl
      ·cases hr
     obtain ⟨γ',F',hX2,hγ⟩:=wC h3 (n:=.gh d) rfl (bB hX (.gh d)) (cs:=madeCells #[z] i.toNat) (ty':=el) (len:=i.toNat) (cap:=i.toNat) (sub:=(dJ e.sh el).getD [.fr]) (l:=List.replicate i.toNat [(ah u (dflt u)).toD]) (by simp) (YY _) (by show i.toNat<=2 ^ 62; omega)
      (fun x hx=>by rw [(List.mem_replicate.1 hx).2,hlen1]; rfl) (by rw [hlen1,size_madeCells]; omega) hrow
     refine ⟨_,_,_,γ',F',by rw [hsame hs,hi]; exact hrun,h,?_⟩;have em:(List.replicate i.toNat (dflt u)).map (ak u)=List.replicate i.toNat [(ah u (dflt u)).toD]:=by
      rw [List.map_replicate]
      congr 1
      rw [<- bh,jc z7]; rfl
     have e2:((s.fresh (.gh d)).root (.gh d) ⟨false,[.ow ((dJ e.sh el).getD [.fr]) u (List.replicate i.toNat (dflt u))],none⟩).toS=(s.toS.fresh (.gh d)).root (.gh d) ⟨false,[.ow ((dJ e.sh el).getD [.fr]) (List.replicate i.toNat [(ah u (dflt u)).toD])]⟩:=by
      rw [<- em,<- bk hn]; rfl
     rw [<- e2] at hX2;refine aR (aD _ (some d) (.one (.c (.rf ⟨.gh d,0,[]⟩)))) (RX.put hX2 hd (fA (sub:=(dJ e.sh el).getD [.fr]) (l:=List.replicate i.toNat [(ah u (dflt u)).toD]) ?_ hγ));rw [e2];simp [S.root,aa]
    ·exact h.elim
   ·exact h.elim
  ·exact h.elim
 ·exact h.elim
end
end Go.Am
end

section
namespace Go.Am
section
variable {P:Program} {g:G} {s:S} {a:Act} {w:World} {H:FH} {γ:Gam} {F:Nm->Fp}
theorem IQ (h:RX g s a w H γ F) {n:Nm} (hno:n.isOut=false) (hn:aa s.m n=none) {cs:Array Value} {ty':TypeId} {sub:List Sh} {row:List D} {k:Nat} {f:Fp} (hx:row.length=sub.length) (hsz:cs.size=sub.length)
  (hcs:Cs (OD w H k) sub row f cs.toList) (hd:∀ b,tot F s.m b+f b<=1) (hl:∀ b,f b≠0->b<w.heap.size/\(∀ o,H b o=none)/\(g.own0 b≠0\/g.w0.heap.size<=b)) :
  ∃ γ' F',RX g (s.root n ⟨false,[.ow sub [row]]⟩) a (w.alloc (.cells cs ty')) H γ' F'/\γ' n=.gh (.slice (some ⟨w.heap.size,0,none⟩) 1 1):=by
 obtain ⟨hm,hf,hK,hH⟩:=oD h.mem cs ty' false;simp only [Y4,false_and,if_false] at hm hf hK hH;have hX:RX g s a (w.alloc (.cells cs ty')) H γ F:=eG h hm hf (fun i=>bQ hK (fun _ _ _ h=>h) (h.t i)) (fun _=>rfl)
 have hz:tot F s.m w.heap.size=0:=by
  rcases Zj (tot F s.m w.heap.size) with h' | h'
  ·exact h'
  ·have:=h.mem.lt w.heap.size (by omega); omega
 have hfz:f w.heap.size=0:=by
  rcases Zj (f w.heap.size) with h' | h'
  ·exact h'
  ·have:=(hl w.heap.size (by omega)).1; omega
 have hHz:∀ o,H w.heap.size o=none:=by
  intro o;cases hc:H w.heap.size o with
  | none=>rfl
  | some y=>have:=(h.mem.agree _ _ _ hc).lt; simp at this
 have hcs':Cs (OD (w.alloc (.cells cs ty')) H k) sub row f cs.toList:=
  j8 _ _ _ _ (fun s x g v hg hod=>bJ (fun _ _ _ h=>h) k k _ _ _ _ (YY _) (fun b hb=>bO (hl b (by have:=hg b; omega)).1) hod) hcs
 have hod:TR (w.alloc (.cells cs ty')) H γ s.m (.ow sub [row]) (fun b=>f b+if b=w.heap.size then 1 else 0) (.slice (some ⟨w.heap.size,0,none⟩) 1 1):=by
  refine ⟨k+1,wA (l:=[row]) (c:=1) (bj) rfl (by rw [hsz]; simp) (YY _) (by show 1<=4611686018427387904; omega) (fun x hx'=>by obtain rfl:=Y3.1 hx'; exact hx) ?_⟩;simpa using hcs'
 have hsize:(w.alloc (.cells cs ty')).heap.size=w.heap.size+1:=by show (w.heap.push _).size=_; simp
 refine cO hX hno hn hod (fun b=>?_) (fun b hb=>?_) (fun b hb=>?_)
 ·by_cases hb:b=w.heap.size
  ·subst hb; rw [hz,hfz]; simp
  ·rw [if_neg hb]; have:=hd b; omega
 ·by_cases hb':b=w.heap.size
  ·subst hb'; exact ⟨by omega,hHz⟩
  ·rw [if_neg hb'] at hb;have:=hl b (by omega)
   exact ⟨by omega,this.2.1⟩
 ·by_cases hb':b=w.heap.size
  ·subst hb'; right; exact h.fr.size
  ·rw [if_neg hb'] at hb;exact (hl b (by omega)).2.2
end
theorem Bi:∀ {ts:List Tt} {i j:Nat} {q:Pl},yq ts i=some (j,q)->i<=j/\ts[j-i]? = some (.rf q)
 | [],_,_,_,h=>by cases h
 | t::r,i,j,q,h=>by
  have next:yq r (i+1)=some (j,q)->i<=j/\(t::r)[j-i]? = some (.rf q):=fun h=>by
   obtain ⟨h1,h2⟩:=Bi h;refine ⟨by omega,?_⟩;rw [show j-i=(j - (i+1))+1 from by omega,ZG];exact h2
  cases t with
  | rf q'=>
   simp only [yq,YT,Prod.mk.injEq] at h;obtain ⟨rfl,rfl⟩:=h;exact ⟨YY _,by simp⟩
  | _=>exact next h
theorem E0 {n:Nat} {us z:Array Value} (hu:us.size=n) (hz:z.size=1*n):Instr.fill (fun i=>some (i*n,n)) z [(0,.agg us)]=some us:=by
 have hc:(Value.agg us).cells=us:=rfl
 simp only [Instr.fill,hc];rw [if_neg (by simp [hu,hz])]
 congr 1
 have key:∀ (k:Nat) (l:List Value) (z:Array Value),k+l.length<=z.size->((l.zipIdx k).foldl (fun cs (x:Value×Nat)=>cs.setIfInBounds (0*n+x.2) x.1) z).toList=z.toList.take k++l++z.toList.drop (k+l.length):=by
  intro k l;induction l generalizing k with
  | nil=>intro z _; simp
  | cons x l ih=>
   intro z hk;simp only [Y5] at hk;simp only [List.zipIdx_cons,List.foldl_cons];rw [ih (k+1) _ (by simp; omega)];simp only [Nat.zero_mul,ZI,Array.toList_setIfInBounds];rw [List.take_set,List.drop_set_of_lt (by omega)];have h1:(z.toList.take (k+1)).set k x=z.toList.take k++[x]:=by
    rw [List.take_add_one,List.set_append_right _ _ (by simp; omega)];have:z.toList[k]? = some (z.toList[k]'(by simp; omega)):=YU _
    have hmin:k-min k z.size=0:=by omega
    rw [this];simp [hmin]
   rw [h1];simp only [Y5,aaC,ZX,ZA,aaF];rw [show k+1+l.length=k+(l.length+1) from by omega]
 apply Array.ext'
 have e:us.zipIdx.foldl (fun cs (x:Value×Nat)=>cs.setIfInBounds (0*n+x.2) x.1) z=(us.toList.zipIdx 0).foldl (fun cs (x:Value×Nat)=>cs.setIfInBounds (0*n+x.2) x.1) z:=by
  rw [<- Array.foldl_toList,Array.toList_zipIdx]
 rw [e,key 0 us.toList z (by simp; omega)];simp;omega
section
variable {P:Program} {g:G} {s:St} {a:Act} {w:World} {H:FH} {γ:Gam} {F:Nm->Fp} {k:St->Prop}
theorem ve {E:Ut} {sub:List Sh} {t:TypeId} {len:Nat} {ps:Array (Nat×Operand)} {d:Tmp} (hX:RX g s.toS a w H γ F) (hd:okD g.nt (some d)=true) (hps:(ps.toList.all fun x=>au x.2)=true) (h:cx P E sub s t len ps d k) :
  ∃ t' y w' γ' F',(Instr.buildSlice t len (ps.map fun (i,x)=>(i,a.eval x))).run P w=.ok y w'/\k t'/\RX g t'.toS (a.put (some d) y) w' H γ' F':=by
 unfold cx at h;split at h
 ·rename_i e ht;split at h
  ·rename_i u z ts he hz hp;split at h
   ·rename_i j q hj;split at h
    ·rename_i sub' sh2 u' l2 hsj hsl;split at h
     ·rename_i s1 sub3 l' hb;split at h
      ·rename_i l hc hl;simp only [YV] at hc;obtain ⟨⟨⟨⟨⟨⟨c1,c2⟩,c3⟩,c4⟩,c5⟩,c6⟩,c7,c8,c9⟩:=hc;have hsz:=Y1 c2
       obtain rfl:=Y1 c4;have hsl5:=Y1 c5
       have htl:=Y1 c6
       obtain rfl:=jh c7;obtain ⟨pl⟩:=ps;have hp1:pl.map (fun x=>(x.1,evA s x.2))=[(0,.one (.agg ts))]:=hp
       match pl,hp1,hps with
       | [],hp1,_=>cases hp1
       | _::_::_,hp1,_=>simp at hp1
       | [(i,x)],hp1,hps=>
       simp only [List.map_cons,List.map_nil,List.cons.injEq,Prod.mk.injEq,and_true] at hp1;obtain ⟨rfl,hx⟩:=hp1;have hop:au x=true:=by simpa using hps
       have hv:=az hX hop
       rw [ac hop,hx] at hv;obtain ⟨cs,hcs1,hcs2,hcs3⟩:=hv;have hcs2:cs.size=ts.length:=by simpa using hcs2
       obtain ⟨_,hjj⟩:=Bi hj;rw [aaT] at hjj;have hjl:j<ts.length:=(Zr.1 hjj).1
       have hjT:(ts.map Tt.toT)[j]? = some (.rf q):=by rw [YW,hjj]; rfl
       obtain ⟨_,v,gv,_,hv1,hv2,hv3⟩:=pR hcs3 hjT;have hvr:AR w H γ s.toS.m (.one (.c (.rf q))) v:=⟨fun _=>rfl,hv2.2⟩
       have hnd:=dT hX
       obtain ⟨b1,b2,_⟩:=lE (size:=nc u') rfl hnd (fun q' hq'=>by
        cases hq';exact nV hv2.2.1) hb
       obtain ⟨kb,f,F1,k1,k2,k3,k4,k5⟩:=lF hX hvr b1;have hfz:=sm c9
       obtain ⟨_,_,_,fk,fr,_,_,_,a4,_,a6,_⟩:=bR _ _ _ _ j hcs3 (by simpa using hjl);have hT2:Ts (TR w H γ s.toS.m) ((ts.set j .nil).map Tt.toT) (fun _=>0) (cs.toList.set j (.slice none 0 0)):=by
        have:=a6 (fun _=>TR w H γ s.toS.m) .nil (.slice none 0 0) (fun _=>0) (fun _ _ _ _ _ h=>h) ⟨fun _=>rfl,rfl⟩
        unfold Ts;rw [YX,List.length_set];rw [YX] at this;rw [Zz];exact ln (fun b=>by have:=a4 b; omega) this
       have hC:=Bx (k:=kb) (fun _=>rfl) hfz hT2
       obtain ⟨sj,_,_,fk2,fr2,d1,_,_,d4,_,d6,_⟩:=bR _ _ _ _ j hC (by simpa using hjl);rw [hsj] at d1;obtain rfl:=Option.some.inj d1;have hC2:=d6 (OD w H (kb+1)) (.li (l'.map (ak u'))) v f (fun _ _ _ _ _ h=>h) (bJ (fun _ _ _ h=>h) kb (kb+1) _ _ _ _ (ZC _) (fun _ _=>rfl) k1)
       rw [Z3,show cs.toList.set j v=cs.toList from lZ hv1] at hC2;have hrow:=mE hl
       simp only [List.map_cons,List.map_nil] at hrow
       match l,hl,hrow,h with
       | [],_,hrow,_=>cases hrow
       | _::_::_,_,hrow,_=>simp at hrow
       | [y],hl,hrow,h=>
       simp only [List.map_cons,List.map_nil,List.cons.injEq,and_true] at hrow;have e1:((ts.set j .nil).map fun t=>t.toT.fz).set j (.li (l'.map (ak u')))=ak u y:=by
        rw [<- hrow,Zz,Z3,Zz];rfl
       rw [e1] at hC2;have hn2:=bS k2 (.gh d)
       have hts:∀ b,tot F1 (s1.toS.fresh (.gh d)).m b<=tot F1 s1.toS.m b:=by
        intro b;unfold S.fresh;split
        ·exact YY _
        ·show tot F1 (aw _ _) b<=_
         rw [aQ]; exact eD
       obtain ⟨_,td,_,hud,htd,_⟩:=aO ht (by simp);obtain rfl:=mV htd;obtain ⟨ie,de,hie,_,_,hsize,_,_⟩:=eE c1;obtain ⟨it',z0,hi',hz0,_,_⟩:=ji hz;rw [hie] at hi';obtain rfl:ie=it':=by simpa using hi'
       have hnc:ie.size=nc u:=by rw [<- hsize,<- hsz]
       obtain ⟨us,cs',r1,r2,r3⟩:=ix (P:=P) (w:=w) (t:=t) (len:=1) (vs:=#[(0,a.eval x)]) (cells:=#[]) hud hie hz0 (by rw [hnc]; have:=YZ c3; omega) (fun us hus=>by
        refine ⟨cs,?_,by rw [hcs2,htl,hnc]; omega,.inr trivial⟩;rw [hcs1];exact E0 (by rw [hcs2,htl,hnc]) hus)
       have hfill:Instr.fill (fun i=>some (i*ie.size,ie.size)) us #[(0,a.eval x)].toList=some cs:=by
        rw [hcs1];exact E0 (by rw [hcs2,htl,hnc]) r1
       rw [hfill] at r2;obtain rfl:=Option.some.inj r2;obtain ⟨γ',F',hX4,hγ⟩:=IQ (ty':=e) hn2 (n:=.gh d) rfl (bB k2 (.gh d)) (by rw [gU,hsl5]) (by rw [hcs2,htl,hsl5]) (ln (f:=fun b=>f b+fr2 b) (g:=f) (fun b=>by have:=d4 b; omega) hC2)
        (fun b=>by have h1:=hts b; have h2:=k4 b; have h3:=hX.mem.le1 b; omega) k5
       have e2:((s1.fresh (.gh d)).root (.gh d) ⟨false,[.ow sub u [y]],none⟩).toS=(s1.toS.fresh (.gh d)).root (.gh d) ⟨false,[.ow sub [ak u y]]⟩:=by
        rw [<- bk b2]; rfl
       rw [<- e2] at hX4;refine ⟨_,_,_,γ',F',by rw [show (Array.map (fun (x:Nat×Operand)=>(x.1,a.eval x.2)) ⟨[(0,x)]⟩)=#[(0,a.eval x)] from by simp]; exact r3,h,?_⟩;refine aR (aD _ (some d) (.one (.c (.rf ⟨.gh d,0,[]⟩)))) (RX.put hX4 hd (fA (sub:=sub) (l:=[ak u y]) ?_ hγ));rw [e2];simp [S.root,aa]
      ·exact h.elim
     ·exact h.elim
    ·exact h.elim
   ·exact h.elim
  ·exact h.elim
 ·exact h.elim
theorem Ae {α β:Type} {R:α->β->Fp->Value->Prop}:∀ (a:List α) (c:List β) {b:List α} {d:List β} {f:Fp} {vs:List Value},a.length=c.length->Cs R (a++b) (c++d) f vs->∃ f':Fp,Cs R a c f' vs/\∀ x,f' x<=f x
 | [],[],_,_,_,_,_,_=>⟨fun _=>0,fun _=>rfl,fun _=>ZE _⟩
 | x::a,y::c,b,d,f,vs,hl,h=>by
  obtain ⟨v,r,f1,f2,h1,h2,h3,h4⟩:=h;obtain ⟨f',k1,k2⟩:=Ae a c (by simpa using hl) h4;exact ⟨fun q=>f1 q+f' q,⟨v,r,f1,f',h1,fun _=>rfl,h3,k1⟩,fun q=>by have:=h2 q; have:=k2 q; dsimp only; omega⟩
 | [],_::_,_,_,_,_,hl,_=>by simp at hl
 | _::_,[],_,_,_,_,hl,_=>by simp at hl
theorem Tm {k:Nat} {sub:List Sh} {l:List (List D)} {f:Fp} {v:Value} {m:Nat} (hm:m<=l.length) (h:OD w H k (.ow sub) (.li l) f v) :
  ∃ ad c,v=.slice ad l.length c/\l.length<=c/\(∀ b,ad=some b->b=⟨b.block,0,none⟩)/\∃ f':Fp,OD w H k (.ow sub) (.li (l.take m)) f' (.slice ad m c)/\∀ x,f' x<=f x:=by
 cases k with
 | zero=>simp [OD] at h
 | succ k=>
 rw [dy] at h;rcases h with ⟨rfl,rfl,h0⟩ | ⟨b,c,cs,ty,fr,g',h1,h2,h3,h4,h5,h6,h7,h8,h9⟩
 ·obtain rfl:m=0:=by simpa using hm
  exact ⟨none,0,rfl,YY _,(fun b hb=>by cases hb),f,dy.2 (.inl ⟨rfl,rfl,h0⟩),fun _=>YY _⟩
 ·subst h1;have e1:(List.replicate l.length sub).flatten=(List.replicate m sub).flatten++(List.replicate (l.length-m) sub).flatten:=by
   rw [<- List.flatten_append,List.replicate_append_replicate,Nat.add_sub_cancel' hm]
  have e2:l.flatten=(l.take m).flatten++(l.drop m).flatten:=by rw [<- List.flatten_append,List.take_append_drop]
  have hlen:(l.take m).length=m:=by rw [ZY]; omega
  have h7':∀ x∈l.take m,x.length=sub.length:=fun x hx=>h7 x (aaN hx)
  rw [e1,e2] at h8;obtain ⟨f',k1,k2⟩:=Ae _ _ (by rw [bL _ _ h7',hlen]; simp) h8;refine ⟨_,c,rfl,h5,fun b' hb=>by cases hb; rfl,fun x=>f' x+if x=b then 1 else 0,dy.2 (.inr ⟨b,c,cs,ty,fr,f',by rw [hlen],h2,h3,h4,by omega,by omega,h7',by rw [hlen]; exact k1,fun _=>rfl⟩),fun x=>by have:=h9 x; have:=k2 x; dsimp only; omega⟩
theorem GA {e:En} {t:TypeId} {x hi:Operand} {d:Tmp} (hX:RX g s.toS a w H γ F) (hd:okD g.nt (some d)=true) (hx:au x=true) (hhi:au hi=true) (h:lU e s t x hi d k) :
  ∃ t' y γ' F',(∀ w:World,(Instr.sliceAt t (a.eval x) none (some (a.eval hi)) none).run e.P w=.ok y w)/\k t'/\RX g t'.toS (a.put (some d) y) w H γ' F':=by
 unfold lU at h;split at h
 ·rename_i el ht;split at h
  ·rename_i q n hxe hne;split at h
   ·rename_i u0 l0 _;split at h
    ·rename_i s1 sub l hok hb;obtain ⟨⟨n0,n1⟩,h⟩:=h;have hy:=az hX hx
     have hn:=az hX hhi
     rw [ac hx,hxe] at hy;rw [ac hhi,hne] at hn;obtain ⟨b1,b2,_⟩:=lE (size:=nc u0) rfl (dT hX) (fun q' hq'=>by
      cases hq';exact nV hy.2.1) hb
     obtain ⟨kb,f,F1,k1,k2,k3,k4,k5⟩:=lF hX hy b1;obtain ⟨ad,c,hv,hc,had,f',q1,q2⟩:=Tm (m:=n.toNat) (by rw [YX]; exact n1) k1;rw [YX] at hv hc;obtain ⟨_,td,_,hud,htd,_⟩:=aO ht (by simp);obtain rfl:=mV htd;obtain ⟨i,de,hi',_⟩:=eE hok;obtain ⟨a',b',⟨rfl,rfl,_⟩,hbr⟩:=jz (P:=e.P) (isS:=true) (len:=l.length) (cap:=c) (vlo:=none) (lo:=none) (k:=fun a b=>a=0/\b=n.toNat/\b<=l.length) trivial (show MZ w H γ s.toS.m (some (At.one (.c (.d (.i .i64 n)))).toV) (some (a.eval hi)) from hn) hc (show fG none 0 _ from ⟨n0,rfl,rfl,n1⟩) (fun a b h=>by omega);have hrun:∀ w:World,(Instr.sliceAt t (a.eval x) none (some (a.eval hi)) none).run e.P w=.ok (.slice ad n.toNat c) w:=by
      intro w;rw [hv];simp only [Instr.sliceAt,Sem.run_bind,run_underlying hud,Result.andThen_ok];simp only [Instr.slice,Sem.run_bind,run_underlying hud,Result.andThen_ok,hbr,bE hi',Sem.run_pure]
      congr 2
      cases ad with
      | none=>simp
      | some ad=>
       rw [had ad rfl];simp [cP]
     have hn2:=bS k2 (.gh d)
     have hts:∀ b,tot F1 (s1.toS.fresh (.gh d)).m b<=tot F1 s1.toS.m b:=by
      intro b;unfold S.fresh;split
      ·exact YY _
      ·show tot F1 (aw _ _) b<=_
       rw [aQ]; exact eD
     obtain ⟨γ',F',hX4,hγ⟩:=cO hn2 (n:=.gh d) rfl (bB k2 (.gh d)) (v:=.slice ad n.toNat c) (t:=.ow sub ((l.take n.toNat).map (ak u0))) (f:=f') ⟨kb,by rw [aaG]; exact q1⟩
      (fun b=>by have h1:=hts b; have h2:=k4 b; have h3:=hX.mem.le1 b; have:=q2 b; omega) (fun b hb=>by have:=q2 b; exact ⟨(k5 b (by omega)).1,(k5 b (by omega)).2.1⟩) (fun b hb=>(k5 b (by have:=q2 b; omega)).2.2)
     have e2:((s1.fresh (.gh d)).root (.gh d) ⟨false,[.ow sub u0 (l.take n.toNat)],none⟩).toS=⟨(s1.toS.fresh (.gh d)).t,(.gh d,⟨false,[.ow sub ((l.take n.toNat).map (ak u0))]⟩)::(s1.toS.fresh (.gh d)).m⟩:=by
      rw [<- bk b2]; rfl
     rw [<- e2] at hX4;refine ⟨_,_,γ',F',hrun,h,?_⟩;refine aR (aD _ (some d) (.one (.c (.rf ⟨.gh d,0,[]⟩)))) (RX.put hX4 hd (fA (sub:=sub) (l:=(l.take n.toNat).map (ak u0)) ?_ hγ));rw [e2];simp [aa]
    ·exact h.elim
   ·exact h.elim
  ·exact h.elim
 ·exact h.elim
end
end Go.Am
end
