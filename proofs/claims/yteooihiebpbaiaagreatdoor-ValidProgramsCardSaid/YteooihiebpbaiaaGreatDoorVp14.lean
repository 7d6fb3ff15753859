/-
  Part 14: AmE3m · AmE3n.
-/
import Derived.Test.YteooihiebpbaiaaGreatDoorVp13
import Derived.Deep.OwnRows
set_option linter.unusedSimpArgs false
set_option linter.unusedVariables false
set_option linter.unusedSectionVars false
set_option linter.unnecessarySimpa false
section
namespace Go.Am
open Go.MapKept
variable{β:Type}
def BV(ku:U)(g:β->Sh×D)(x:El ku×β):D×Sh×D:=((ao ku x.1).toD,g x.2)
abbrev wg(ku vu:U):El ku×El vu->D×Sh×D:=BV ku λv=>(.fr,(ao vu v).toD)
abbrev vj(u:U)(l:List (El u)):Sh×D:=(.ow (List.replicate (nc u) .fr),.li (l.map (ap u)))
variable{ku:U}{t:TypeId}
theorem ra{P:Program}(h:gk P t ku=true)(a b:El ku):nl (ao ku a).toD (ao ku b).toD=mG ku a b:=by
 cases ku with
 |i k=>show(decide (k=k)&&decide (a=b))=decide (a=b);simp
 |bo=>rfl
 |s=>rfl
 |_=>cases h
theorem gf{P:Program}(h:gk P t ku=true)(a:El ku):jO (ty P t).k (ao ku a).toD=true:=by
 cases ku with
 |i k=>
  have h:decide ((ty P t).k=.int k)=true:=h
  rw[of_decide_eq_true h];show decide (k=k)=true;simp
 |bo=>
  have h:decide ((ty P t).k=.bool)=true:=h
  rw[of_decide_eq_true h];rfl
 |s=>
  have h:decide ((ty P t).k=.str)=true:=h
  rw[of_decide_eq_true h];rfl
 |_=>cases h
theorem nF{P:Program}(h:gk P t ku=true):(ty P t).k≠.ot:=by intro e;cases ku<;>first|grind [gk]|cases h
theorem n8{P:Program}(h:gk P t ku=true)(g:β->Sh×D)(l:List (El ku×β)):((l.map (BV ku g)).all λx=>jO (ty P t).k x.1)=true:=by rw[List.all_map];exact ak0.2 λx _=>gf h x.1
theorem uK{P:Program}(h:gk P t ku=true)(g:β->Sh×D)(k:El ku):∀l:List (El ku×β),pe (l.map (BV ku g)) (ao ku k).toD=(aw ku l k).map g
 |[]=>rfl
 |x::l=>by
  simp only[List.map_cons,pe,aw,BV,ra h];cases mG ku x.1 k with
  |true=>rfl
  |false=>exact uK h g k l
theorem E7{P:Program}(h:gk P t ku=true)(g:β->Sh×D)(k:El ku)(v:β):∀l:List (El ku×β),jN (l.map (BV ku g)) (ao ku k).toD (g v)=(bP ku l k v).map (BV ku g)
 |[]=>rfl
 |x::l=>by
  have ih:=E7 h g k v l
  simp only[List.map_cons,jN,bP,BV,ra h];cases mG ku x.1 k with
  |true=>rfl
  |false=>simp only[List.map_cons];rw[<- ih];rfl
theorem Qq{P:Program}(h:gk P t ku=true)(g:β->Sh×D)(k:El ku):∀l:List (El ku×β),EV (l.map (BV ku g)) (ao ku k).toD=(rR ku l k).map (BV ku g)
 |[]=>rfl
 |x::l=>by
  have ih:=Qq h g k l
  simp only[List.map_cons,EV,rR,BV,ra h];cases mG ku x.1 k with
  |true=>rfl
  |false=>simp only[List.map_cons];rw[<- ih];rfl
theorem QE{k:D}(hk:nl k k=true)(a b:Sh×D):∀l:List (D×Sh×D),jN (jN l k a) k b=jN l k b
 |[]=>by grind [jN]
 |x::l=>by
  simp only[jN];cases h:nl x.1 k with
  |true=>grind [jN]
  |false=>simp only[jN,h,QE hk a b l]
theorem acB{k:D}(hk:nl k k=true)(b:Sh×D)(l:List (D×Sh×D)):jN (BS l k) k b=jN l k b:=by grind [BS,QE]
theorem Qe{κ:TK}{k:D}(hk:jO κ k=true)(v:Sh×D):∀{l:List (D×Sh×D)},(l.all λx=>jO κ x.1)=true->((jN l k v).all λx=>jO κ x.1)=true
 |[],_=>by simp[jN,hk]
 |x::l,h=>by
  simp only[ak2,akP]at h;simp only[jN];split
  .grind
  simp only[ak2,h.1,Qe hk v h.2,Bool.and_self]
variable{l:List (D×Sh×D)}
theorem Z7{κ:TK}{k:D}(hk:jO κ k=true)(h:(l.all λx=>jO κ x.1)=true):((BS l k).all λx=>jO κ x.1)=true:=by grind [BS,Qe]
variable{u:U}
theorem Gm{P:Program}(h:zOK P t u=true):∃z it,P.info? t=some it/\it.zero=some z/\z.cells=#[z]/\(∀w,(zeroValue t).run P w=.ok z w)/\(∀H,FDx H (ao u (dflt u)).toD z)/\(∀v,u=.sl v->z=.slice none 0 0)/\leaf u=true:=by
 unfold zOK at h;have run:∀{z:Value},(P.info? t).bind (·.zero)=some z->∃it,P.info? t=some it/\it.zero=some z/\∀w,(zeroValue t).run P w=.ok z w:=by simp_all[alB,zeroValue,typeInfo]
 split at h
 .rename_i k n k' a;obtain⟨it,h1,h2,h3⟩:=run a;simp only[akP,decide_eq_true_eq]at h;obtain⟨⟨rfl,rfl⟩,_⟩:=h;exact⟨_,it,h1,h2,rfl,h3,λH=>⟨0,rfl,by cases k<;>decide⟩,(λ_ e=>by cases e),rfl⟩
 .rename_i b a;obtain⟨it,h1,h2,h3⟩:=run a;cases b with
  |true=>cases h
  |false=>exact⟨_,it,h1,h2,rfl,h3,λH=>⟨0,rfl⟩,(λ_ e=>by cases e),rfl⟩
 .rename_i str a;obtain⟨it,h1,h2,h3⟩:=run a;refine⟨_,it,h1,h2,rfl,h3,λH=>⟨0,?_,alL _⟩,(λ_ e=>by cases e),rfl⟩;obtain⟨⟨l⟩⟩:=str;cases l with
  |nil=>rfl
  |cons x l=>simp at h
 .rename_i u a;obtain⟨it,h1,h2,h3⟩:=run a;exact⟨_,it,h1,h2,rfl,h3,λH=>lN,λ_ _=>rfl,rfl⟩
 .rename_i ku vu a;obtain⟨it,h1,h2,h3⟩:=run a;exact⟨_,it,h1,h2,rfl,h3,λH=>⟨0,rfl⟩,(λ_ e=>by cases e),rfl⟩
 grind
variable{d:Tmp}{key x:At}{kv vv y:Value}{n:Nm}
section
variable {P:Program} {g:G} {a:Act} {w:World} {H:FH} {γ:Gam} {F:Nm->Fp} {s:St} {k k':St->Prop}
theorem Fw{E:Ut}{own:Bool}(hk:∀s',Ext s s'->k s'->k' s')(h:gi P E own s t d k):gi P E own s t d k':=by
 unfold gi at h|-
 (repeat' split at h)<;>first|exact h.elim|exact hk _ (((bR _ _).trans (dj _ _ _)).trans (aG _ _ _)) h
theorem Fz{m:List (Nm×Nat×Rt)}{ok:Bool}{k k':At->Prop}(hk:∀v,k v->k' v)(h:mf P m t x key ok k):mf P m t x key ok k':=by
 unfold mf at h|-
 (repeat' split at h)<;>first|exact h.elim|grind
theorem KM{v:At}(hk:∀s',Ext s s'->k s'->k' s')(h:mg P s t x key v k):mg P s t x key v k':=by
 unfold mg at h|-
 (repeat' split at h)<;>first|exact h.elim|exact hk _ ⟨alN _,λ_ _ _ h _=>h,dx _ _ (akR _) _⟩ h
theorem KH(hk:∀s',Ext s s'->k s'->k' s')(h:me P s t x key k):me P s t x key k':=by
 unfold me at h|-
 (repeat' split at h)<;>first|exact h.elim|exact hk _ ⟨alN _,λ_ _ _ h _=>h,dx _ _ (akR _) _⟩ h
theorem tT(s:St)(n:Nm)(r:Rt):Ext s ⟨s.nx+1,s.t,dv s.m n s.nx r⟩:=⟨alN _,λ_ _ _ h _=>h,dx _ _ (akR _) _⟩
theorem FB{x key:Operand}(hk:∀s',Ext s s'->k s'->k' s')(h:nD P s t x key d k):nD P s t x key d k':=by
 unfold nD at h|-;dsimp only at h|-
 (repeat' split at h)<;>first|exact h.elim|exact hk _ ((((bR _ _).trans (tT _ _ _)).trans (dj _ _ _)).trans (aG _ _ _)) h
theorem KL{v:At}(hk:∀s',Ext s s'->k s'->k' s')(h:rl P s t x key v k):rl P s t x key v k':=by
 unfold rl at h|-;dsimp only at h|-
 (repeat' split at h)<;>first|exact h.elim|exact⟨h.1,hk _ ((tS _ _).trans (tT _ _ _)) h.2⟩
theorem KI{x:Operand}(hk:∀s',Ext s s'->k s'->k' s')(h:rj s x d k):rj s x d k':=by
 unfold rj at h|-
 (repeat' split at h)<;>first|exact h.elim|exact hk _ ((tT _ _ _).trans (aG _ _ _)) h
theorem AK{e:En}{n c:At}{b:Bool}(hk:∀s',Ext s s'->k s'->k' s')(h:fy e s t n c b d k):fy e s t n c b d k':=by
 unfold fy at h|-
 (repeat' split at h)<;>first|exact h.elim|exact⟨h.1,hk _ (((bR _ _).trans (dj _ _ _)).trans (aG _ _ _)) h.2⟩
theorem KG{E:Ut}{own:Bool}(i:RX g s.toS a w H γ F)(hd:okD g.nt (some d)=true)(h:gi P E own s t d k){r:Option Value}(hr:∀v,r=some v->∃κ n,v=.int κ n) :
  ∃t' y w' γ' F',(Instr.makeMap t r).run P w=.ok y w'/\k t'/\RX g t'.toS (a.put (some d) y) w' H γ' F':=by
 have p:∀{kt et:TypeId}{c:Tt},(ty P t).k=.mp kt et->c.toT=.mp []->k (((s.fresh (.gh d)).root (.gh d) ⟨false,[c],none⟩).put (some d) (.one (.c (.rf ⟨.gh d,0,[]⟩))))->∃t' y w' γ' F',(Instr.makeMap t r).run P w=.ok y w'/\k t'/\RX g t'.toS (a.put (some d) y) w' H γ' F':=by
  intro kt et c f hc hk;obtain⟨_,td,_,q,j,_⟩:=aT f (by simp);obtain rfl:=sq j;have hn:=fZ i
  have h1:=cY i (.gh d)
  obtain⟨γ',F',h2,o⟩:=RA h1 (n:=.gh d) rfl (b9 i (.gh d));have b:(Instr.makeMap t r).run P w=.ok (.map (some w.heap.size)) (w.alloc (.map #[] 0)):=by
   cases r with
   |none=>rfl
   |some v=>
    obtain⟨κ,n,rfl⟩:=hr v rfl
    simp_all[Instr.makeMap,run_underlying,asInt,asIntOf]
  refine⟨_,_,_,γ',F',b,hk,?_⟩;have e:((s.fresh (.gh d)).root (.gh d) ⟨false,[c],none⟩).toS=⟨(s.toS.fresh (.gh d)).t,(.gh d,⟨false,[.mp []]⟩)::(s.toS.fresh (.gh d)).m⟩:=by
   rw[<- bx hn];show(⟨_,(Nm.gh d,(⟨false,[c.toT]⟩:Root))::_⟩:S)=_
   rw[hc];rfl
  rw[<- e]at h2;refine bJ (aQ _ (some d) (.one (.c (.rf ⟨.gh d,0,[]⟩)))) (h2.put hd ?_);exact vI (l:=[]) (by grind [ah]) o
 unfold gi at h;split at h
 .rename_i kt et f;split at h
  .exact p f rfl h
  .exact p f rfl h
  grind
 grind
theorem ri{p:Pl}{vu:U}{l:List (El ku×El vu)}(h:oN s.m p=some ⟨ku,vu,l⟩):∃n,p=⟨n,0,[]⟩/\ah s.toS.m n=some ⟨false,[.mp (l.map (wg ku vu))]⟩:=by
 unfold oN at h;split at h
 .rename_i n;split at h
  .rename_i hr;cases h;exact⟨n,rfl,bi hr⟩
  grind
 grind
theorem wy{l:List (El ku×List (El u))}{o:Option (El ku)}(h:wx s.m n=some ⟨ku,u,l,o⟩):ah s.toS.m n=some ⟨false,[.mp (moD ku u l o)]⟩:=by
 unfold wx at h;split at h
 .rename_i hr;cases h;exact bi hr
 grind
theorem tj(e:RX g s.toS a w H γ F)(hr:ah s.toS.m n=some ⟨false,[.mp l]⟩)(hy:AR w H γ s.toS.m (.one (.c (.rf ⟨n,0,[]⟩))) y) :
  ∃b es ck,∃f:Fp,y=.map (some b)/\γ n=.gh (.map (some b))/\w.heap[b]? = some (.map es ck)/\Stamped es ck/\MpO w H l es.toList f/\(∀c,F n c=f c+if c=b then 1 else 0)/\f b=0:=by
 obtain⟨b,es,ck,f,d,h,i,k,o,j⟩:=Yl e.mem hr;obtain⟨_,_,hv⟩:=hy;refine⟨b,es,ck,f,?_,d,h,i,k,o,j⟩;unfold plV at hv;dsimp only at hv;rw[d]at hv;exact(Option.some.inj hv).symm
theorem AU{P:Program}(h:gk P t u=true):leaf u=true:=by cases u<;>first|rfl|cases h
theorem N4{ok:Bool}{k:At->Prop}(G:RX g s.toS a w H γ F)(hy:AR w H γ s.toS.m x.toV y)(j:AR w H γ s.toS.m key.toV kv)(h:mf P s.m t x key ok k) :
  ∃z v,(Instr.lookup t y kv ok).run P w=.ok z w/\AR w H γ s.toS.m v.toV z/\k v:=by
 unfold mf at h;split at h
 .rename_i kt et K;split at h
  .rename_i p c;split at h
   .rename_i ku vu l hm;split at h
    .rename_i kx hc hk;simp only[akP]at hc;obtain⟨_,td,_,A,q,_⟩:=aT K (by simp);obtain rfl:=sq q;obtain⟨_,I,_,i,D,_⟩:=aT rfl (nF hc.1);obtain⟨n,rfl,hr⟩:=ri hm;obtain⟨b,es,ck,f,rfl,_,E,O,r,_⟩:=tj G hr hy;obtain⟨z,_,_,_,_,B,J,_,L⟩:=Gm hc.2;have d:FDx H (ao ku kx).toD kv:=by rw[dW hk]at j;exact j.2
     obtain⟨v,u,C⟩:=tu (P:=P) A i E r (by grind [n8]) (by grind [gf]) d (B w) ok;rw[uK hc.1]at u C;have hv:FDx H (ao vu ((aw ku l kx).getD (dflt vu))).toD v:=by cases hl:aw ku l kx<;>grind [fV]
     refine⟨_,_,u,?_,h⟩;unfold OK;cases ok with
     |true=>exact⟨_,rfl,⟨λ_=>rfl,hv⟩,⟨λ_=>rfl,0,by rw[Option.isSome_map];rfl⟩,trivial⟩
     |false=>exact⟨λ_=>rfl,hv⟩
    grind
   grind
  .rename_i ku vu z c;split at h
   .rename_i kx hc hk;simp only[akP]at hc;obtain⟨_,td,_,A,q,_⟩:=aT K (by simp);obtain rfl:=sq q;obtain⟨_,I,_,i,D,_⟩:=aT rfl (nF hc.1);obtain⟨N,_,_,_,_,B,J,_,L⟩:=Gm hc.2.1;have d:FDx H (ao ku kx).toD kv:=by rw[dW hk]at j;exact j.2
    have o:jO (gn P I) (ao ku kx).toD=true:=by grind [gf]
    have hd:FDx H (.mp (z.map λl=>l.map λx=>((ap ku x.1).headD .any,(ap vu x.2).headD .any))) y:=hy.2
    cases z with
    |none=>
     obtain⟨b,rfl⟩:=L4 hd;have hb:b=none:=by
      obtain⟨m,hd⟩:=hd;have hd:Value.map b=.map none:=by cases m<;>exact hd
      grind
     subst hb;refine⟨_,_,Br A i o d (B w) ok,?_,h⟩;have hv:FDx H (ao vu (dflt vu)).toD N:=J H
     unfold OK;cases ok with
     |true=>exact⟨_,rfl,⟨λ_=>rfl,hv⟩,⟨λ_=>rfl,0,rfl⟩,trivial⟩
     |false=>exact⟨λ_=>rfl,hv⟩
    |some l=>
     have el:(l.map λx=>((ap ku x.1).headD .any,(ap vu x.2).headD .any))=l.map λx=>((ao ku x.1).toD,(ao vu x.2).toD):=ak4 λx _=>by grind [pT,AU]
     have hd:FDx H (.mp (some (l.map λx=>((ap ku x.1).headD .any,(ap vu x.2).headD .any)))) y:=hd
     rw[el]at hd;obtain⟨b,es,ck,rfl,E,_,r⟩:=Vn G.mem.agree (λe M=>by obtain⟨x,_,rfl⟩:=ak8.1 M;exact oH (gf hc.1 x.1)) hd
     rw[al3]at r;have r:MpO w H (l.map (wg ku vu)) es.toList (λ_=>0):=r
     obtain⟨v,u,C⟩:=tu (P:=P) A i E r (by grind [n8]) o d (B w) ok;rw[uK hc.1]at u C;have hv:FDx H (ao vu ((aw ku l kx).getD (dflt vu))).toD v:=by cases hl:aw ku l kx<;>grind [fV]
     refine⟨_,_,u,?_,h⟩;unfold OK;cases ok with
     |true=>exact⟨_,rfl,⟨λ_=>rfl,hv⟩,⟨λ_=>rfl,0,by rw[Option.isSome_map];rfl⟩,trivial⟩
     |false=>exact⟨λ_=>rfl,hv⟩
   grind
  grind
 grind
theorem SS{vu:U}{tv:Tt}{a:El vu}(hl:leaf vu=true)(h:lI vu [tv]=some a){m:Mm}(hy:TR w H γ m tv.toT (λ_=>0) y):FDx H (ao vu a).toD y:=by
 have h1:BU vu tv=some a:=by cases vu<;>first|exact h|cases hl
 unfold BU at h1;split at h1
 .split at h1
  .simp only[akO]at h1;subst h1;exact hy.2
  grind
 .rw[dW h1]at hy;exact hy.2
 .split at h1
  .simp only[akO]at h1;subst h1;obtain⟨_,rfl⟩:=hy;exact lN
  grind
 grind
theorem nP{s:St}{c:Tt}(hc:c.toT=.mp l):(⟨s.nx+1,s.t,dv s.m n s.nx ⟨false,[c],none⟩⟩:St).toS=⟨s.toS.t,cz s.toS.m n ⟨false,[.mp l]⟩⟩:=by
 refine bF.S_ext rfl ?_;show toM (dv s.m n s.nx _)=_
 rw[fH]
 congr 1
 show(⟨false,[c.toT]⟩:Root)=_
 rw[hc]
theorem N8{v:At}(d:RX g s.toS a w H γ F)(hy:AR w H γ s.toS.m x.toV y)(i:AR w H γ s.toS.m key.toV kv)(u:AR w H γ s.toS.m v.toV vv)(h:mg P s t x key v k) :
  ∃t' w' F',(Instr.mapUpdate t y kv vv).run P w=.ok () w'/\k t'/\RX g t'.toS a w' H γ F':=by
 unfold mg at h;split at h
 .rename_i kt et O;split at h
  .rename_i p c tv;split at h
   .rename_i ku vu l hm;split at h
    .rename_i kx o hc hk r;simp only[akP]at hc;obtain⟨_,td,_,C,z,_⟩:=aT O (by simp);obtain rfl:=sq z;obtain⟨_,R,_,q,I,_⟩:=aT rfl (nF hc.1);obtain⟨n,rfl,hr⟩:=ri hm;obtain⟨b,es,ck,f,rfl,E,B,G,K,N,J⟩:=tj d hr hy;have e:FDx H (ao ku kx).toD kv:=by rw[dW hk]at i;exact i.2
     have j:FDx H (ao vu o).toD vv:=SS hc.2 r u
     obtain⟨es',ck',Q,S,D,M,A⟩:=Bu (P:=P) C q B G K J (by grind [n8]) (by grind [gf]) e (v:=(.fr,(ao vu o).toD)) (n:=0) (fv:=λ_=>0) rfl (fV.2 ⟨λ_=>rfl,j⟩);rw[E7 hc.1 (λv=>(.fr,(ao vu v).toD))]at A;have L:∀c,F n c<=tot F s.toS.m c:=λc=>bD (F:=F) (aj hr) c
     have:=vO d hr E B N D A (λc=>by have:=M c;have:=d.mem.le1 c;omega) (λc hc=>by
      have h3:tot F s.toS.m c≠0:=by grind
      exact⟨d.mem.lt c h3,d.mem.nofz c h3,d.fr.tt c h3⟩)
     rw[<- nP (s:=s) (c:=.mp ku vu (bP ku l kx o)) (l:=(bP ku l kx o).map (wg ku vu)) rfl]at this
     grind
    grind
   grind
  grind
 grind
theorem N1{tt:TypeId}{ts:List TypeId}(d:RX g s.toS a w H γ F)(hy:AR w H γ s.toS.m x.toV y)(i:AR w H γ s.toS.m key.toV kv)(h:me P s t x key k) :
  ∃t' w' F',(Builtin.delete_ (t::ts).toArray tt #[y,kv]).run P w=.ok (.tuple #[]) w'/\k t'/\RX g t'.toS a w' H γ F':=by
 unfold me at h;split at h
 .rename_i kt et J;split at h
  .rename_i p c;split at h
   .rename_i ku vu l hm;split at h
    .rename_i kx hc hk;obtain⟨_,td,_,u,o,_⟩:=aT J (by simp);obtain rfl:=sq o;obtain⟨_,L,_,j,B,_⟩:=aT rfl (nF hc);obtain⟨n,rfl,hr⟩:=ri hm;obtain⟨b,es,ck,f,rfl,z,r,A,D,I,C⟩:=tj d hr hy;have e:FDx H (ao ku kx).toD kv:=by rw[dW hk]at i;exact i.2
     obtain⟨es',K,M,v,G,q⟩:=OM (P:=P) (ty:=tt) u j r A D C (by grind [n8]) (by grind [gf]) e (t::ts).toArray (by simp);rw[Qq hc]at q;have E:∀c,F n c<=tot F s.toS.m c:=λc=>bD (F:=F) (aj hr) c
     have:=vO d hr z r I v q (λc=>by have:=G c;have:=d.mem.le1 c;omega) (λc hc=>by
      have h3:tot F s.toS.m c≠0:=by grind
      exact⟨d.mem.lt c h3,d.mem.nofz c h3,d.fr.tt c h3⟩)
     rw[<- nP (s:=s) (c:=.mp ku vu (rR ku l kx)) (l:=(rR ku l kx).map (wg ku vu)) rfl]at this
     grind
    grind
   grind
  grind
 grind
theorem Nf{P:Program}(h:gk P t ku=true)(k:El ku):nl (ao ku k).toD (ao ku k).toD=true:=by
 rw[ra h];cases ku with
 |i _=>show decide (k=k)=true;simp
 |bo=>cases(k:Bool)<;>rfl
 |s=>show decide (k=k)=true;simp
 |_=>cases h
theorem KN{x key:Operand}(Y:RX g s.toS a w H γ F)(hd:okD g.nt (some d)=true)(hx:aI x=true)(q:aI key=true)(h:nD P s t x key d k) :
  ∃t' y γ' F',(Instr.lookup t (a.eval x) (a.eval key) false).run P w=.ok y w/\k t'/\RX g t'.toS (a.put (some d) y) w H γ' F':=by
 unfold nD at h;split at h
 .rename_i kt et X;dsimp only at h;have e:RX g (s.fresh (.gh d)).toS a w H γ F:=by grind [bx,fZ,cY]
  have o:ah (s.fresh (.gh d)).toS.m (.gh d)=none:=by grind [bx,fZ,b9]
  generalize s.fresh (.gh d)=s1 at h e o;split at h
  .rename_i n c D C;split at h
   .rename_i ku u l hm;split at h
    .rename_i kx hc hk;simp only[akP]at hc;obtain⟨_,td,_,M,E,_⟩:=aT X (by simp);obtain rfl:=sq E;obtain⟨_,kd,_,A,Q,_⟩:=aT rfl (nF hc.1);have hr:=wy hm
     have hy:=aL e hx
     have i:=aL e q
     rw[ak hx,D]at hy;rw[ak q,C]at i;obtain⟨b,es,ck,f,T,N,L,O,R,W,Z⟩:=tj e hr hy;obtain⟨z,_,_,_,_,U,_,zs,_⟩:=Gm hc.2;have p:FDx H (ao ku kx).toD (a.eval key):=by rw[dW hk]at i;exact i.2
     have J:((moD ku u l none).all λx=>jO (ty P kt).k x.1)=true:=n8 hc.1 (vj u) l
     obtain⟨v,e1,I⟩:=tu (P:=P) M A L R (by grind) (by grind [gf]) p (U w) false;have j:pe (moD ku u l none) (ao ku kx).toD=(aw ku l kx).map (vj u):=uK hc.1 (vj u) kx l
     have fin:∀(f1 r:Fp)(n':Nat),(∀c,f c=f1 c+r c)->OD w H n' (.ow (List.replicate (nc u) .fr)) (.li (((aw ku l kx).getD []).map (ap u))) f1 v->MpO w H (BS (moD ku u l none) (ao ku kx).toD) es.toList r ->
       ∃t' y γ' F',(Instr.lookup t (a.eval x) (a.eval key) false).run P w=.ok y w/\k t'/\RX g t'.toS (a.put (some d) y) w H γ' F':=by
      intro f1 r n' hf B G;obtain⟨γ',F',K,q2⟩:=RB e hr N L O W hf G (n2:=.gh d) rfl o B;refine⟨_,v,γ',F',by grind,h,?_⟩;have V:((⟨s1.nx+1,s1.t,dv s1.m n s1.nx ⟨false,[.mo ku u l (some kx)],none⟩⟩:St).root (.gh d) ⟨false,[.ow (List.replicate (nc u) .fr) u ((aw ku l kx).getD [])],none⟩).toS=⟨s1.toS.t,(.gh d,⟨false,[.ow (List.replicate (nc u) .fr) (((aw ku l kx).getD []).map (ap u))]⟩)::cz s1.toS.m n ⟨false,[.mp (BS (moD ku u l none) (ao ku kx).toD)]⟩⟩:=by
       have:=nP (s:=s1) (n:=n) (c:=.mo ku u l (some kx)) (l:=BS (moD ku u l none) (ao ku kx).toD) rfl
       have h2:=congrArg S.m this
       have h1:=congrArg S.t this
       exact bF.S_ext h1 (congrArg (List.cons _) h2)
      rw[<- V]at K;refine bJ (aQ _ (some d) (.one (.c (.rf ⟨.gh d,0,[]⟩)))) (K.put hd (g8 (sub:=List.replicate (nc u) .fr) (l:=((aw ku l kx).getD []).map (ap u)) ?_ q2))
      grind [ah]
     rw[j]at I;cases hl:aw ku l kx with
     |none=>
      rw[hl]at I;refine fin (λ_=>0) f 1 (λc=>(amB _).symm) ?_ ?_
      all_goals grind [fo,BS]
     |some rows=>grind [BS]
    grind
   grind
  grind
 grind
theorem N6{v:At}(i:RX g s.toS a w H γ F)(hy:AR w H γ s.toS.m x.toV y)(z:AR w H γ s.toS.m key.toV kv)(S:AR w H γ s.toS.m v.toV vv)(h:rl P s t x key v k) :
  ∃t' w' F',(Instr.mapUpdate t y kv vv).run P w=.ok () w'/\k t'/\RX g t'.toS a w' H γ F':=by
 unfold rl at h;split at h
 .rename_i kt et ht;split at h
  .rename_i n c q;split at h
   .rename_i ku u l o sub u' rows hm hq;split at h
    .rename_i kx O hc hk p;simp only[akP,alA,decide_eq_false_iff_not]at hc;obtain⟨d,L,C⟩:=hc;obtain⟨eu,rfl⟩:=js p;subst eu;obtain rfl:=kD L;obtain⟨h0,h⟩:=h;dsimp only at h;obtain⟨_,td,_,hu,U,_⟩:=aT ht (by simp);obtain rfl:=sq U;obtain⟨_,kd,_,J,aa,_⟩:=aT rfl (nF d);have hr:=wy hm
     have j:ah s.toS.m q=some ⟨false,[.ow (List.replicate (nc u') .fr) (rows.map (ap u'))]⟩:=bi hq
     have I:=i.mem.roots _ (aj j)
     unfold bv at I;dsimp only at I;rw[if_neg (by simp)]at I;obtain⟨vq,tq,D,G,T⟩:=I;obtain rfl:tq=.ow (List.replicate (nc u') .fr) (rows.map (ap u')):=by grind
     obtain⟨nq,M⟩:=T;have W:vv=vq:=by obtain⟨_,_,hv⟩:=S;unfold plV at hv;dsimp only at hv;rw[D]at hv;exact(Option.some.inj hv).symm
     subst W;have ab:∀c,F q c<=tot F s.toS.m c:=λc=>bD (F:=F) (aj j) c
     have A:∀c,F n c+F q c<=tot F s.toS.m c:=λc=>vB (F:=F) (aj hr) (aj j) (λe=>C e.symm) c
     have K:=tY i q
     have ed:(s.drop q).toS=s.toS.drop q:=bF (fZ i)
     have B:∀c,tot F (s.toS.drop q).m c+F q c=tot F s.toS.m c:=λc=>by
      show tot F (aM _ _) c+_=_
      grind [bg,ms]
     have N:ah (s.toS.drop q).m n=some ⟨false,[.mp (moD ku u' l o)]⟩:=by
      show ah (aM (bm q) (bQ s.toS.m q)) n=_
      rw[kY,ng (λe=>C e.symm),hr];rfl
     obtain⟨b,es,ck,f,R,c1,Z,c3,c4,c5,c6⟩:=tj i hr hy;subst R;have r:FDx H (ao ku kx).toD kv:=by rw[dW hk]at z;exact z.2
     have V:=Nf d kx
     have Y:((moD ku u' l o).all λx=>jO (ty P kt).k x.1)=true:=by
      cases o with
      |none=>exact n8 d (vj u') l
      |some k0=>exact Z7 (gf d k0) (n8 d (vj u') l)
     have E:jN (moD ku u' l o) (ao ku kx).toD (vj u' rows)=moD ku u' (bP ku l kx rows) none:=by
      have e0:jN (l.map (Xg ku u')) (ao ku kx).toD (vj u' rows)=(bP ku l kx rows).map (Xg ku u'):=E7 d (vj u') kx rows l
      cases o with
      |none=>exact e0
      |some k0=>
       have h0:kx=k0:=h0
       subst h0;exact(acB V _ _).trans e0
     have Q:F q b=0:=by have:=A b;have:=i.mem.le1 b;grind
     obtain⟨es',ck',f2,e1,e2,e3,X⟩:=Bu (P:=P) hu J Z c3 c4 c6 (by grind) (by grind [gf]) r (v:=vj u' rows) (n:=nq) (fv:=F q) Q M;rw[E]at X;have:=vO K N c1 Z c5 e2 X (λc=>by have:=e3 c;have:=B c;have:=i.mem.le1 c;omega) (λc hc=>by
      have h3:tot F s.toS.m c≠0:=by grind
      exact⟨i.mem.lt c h3,i.mem.nofz c h3,i.fr.tt c h3⟩)
     rw[<- ed,<- nP (s:=s.drop q) (c:=.mo ku u' (bP ku l kx rows) none) (l:=moD ku u' (bP ku l kx rows) none) rfl]at this
     grind
    grind
   grind
  grind
 grind
theorem N2{x:Operand}(e:RX g s.toS a w H γ F)(hd:okD g.nt (some d)=true)(hx:aI x=true)(h:rj s x d k) :
  ∃t' H' F',k t'/\RX g t'.toS (a.put (some d) (a.eval x)) w H' γ F':=by
 unfold rj at h;split at h
 .rename_i n i;split at h
  .rename_i ku u l hm;have hr:=wy hm
   have hy:=aL e hx
   rw[ak hx,i]at hy;obtain⟨b,es,ck,f,j,m,_⟩:=tj e hr hy;obtain⟨H',F',h2⟩:=VZ e hr;have hfz:ag5 (moD ku u l none)=l.map (wg ku (.sl u)):=by
    show(l.map (Xg ku u)).map _=_
    rw[al3];rfl
   rw[hfz,<- nP (s:=s) (c:=.mp ku (.sl u) l) (l:=l.map (wg ku (.sl u))) rfl]at h2;refine⟨_,H',F',h,bJ (aQ _ (some d) (.one (.c (.rf ⟨n,0,[]⟩)))) (h2.put hd ?_)⟩;rw[j];refine vI (l:=l.map (wg ku (.sl u))) ?_ m;rw[nP (s:=s) (c:=.mp ku (.sl u) l) (l:=l.map (wg ku (.sl u))) rfl]
   grind [fM]
  grind
 grind
theorem Ua(z:Value)(n:Nat):(madeCells #[z] n).toList=List.replicate n z:=by
 unfold madeCells;apply List.ext_getElem
 all_goals grind
theorem Ck{e:En}{n c:Operand}(p:RX g s.toS a w H γ F)(hd:okD g.nt (some d)=true)(hno:aI n=true)(h:fy e s t (evA s n) (evA s c) (By n c) d k) :
  ∃t' y w' γ' F',(Instr.makeSlice t (a.eval n) (a.eval c)).run e.P w=.ok y w'/\k t'/\RX g t'.toS (a.put (some d) y) w' H γ' F':=by
 have f:By n c=true->a.eval c=a.eval n:=by
  intro hs;unfold By at hs
  grind [akU]
 have hv:=aL p hno
 rw[ak hno]at hv;unfold fy at h;split at h
 .rename_i el O hs;split at h
  .rename_i i L;rw[L]at hv;obtain⟨hi,hw⟩:=nV hv;split at h
   .rename_i u Q;split at h
    .rename_i hc;simp only[akP]at hc;obtain⟨⟨h0,h1,h2⟩,h⟩:=h;obtain⟨_,td,_,A,v,_⟩:=aT O (by simp);obtain rfl:=pg v;obtain⟨z,it,D,M,z3,_,z5,T,G⟩:=Gm hc.1.1;have r:(ty e.P el).ok=true:=by grind [ty,akU]
     obtain⟨I,_,C,_,_,R,K,_⟩:=jG r;rw[D]at C;obtain rfl:=Option.some.inj C;have hs1:it.size=1:=by grind [akU]
     rw[K]at h2;have b:=run_make_row (P:=e.P) t el it z A D M hs1 z3 .i64 .i64 i.toNat h2 kQ1 w
     rw[Int.toNat_of_nonneg h0]at b;have h3:=cY p (.gh d)
     have hn:=fZ p
     have m:∀k,Cs (OD w H (k+1)) (List.replicate i.toNat ((fI e.sh el).getD [.fr])).flatten (List.replicate i.toNat [(ao u (dflt u)).toD]).flatten (λ_=>0) (madeCells #[z] i.toNat).toList:=by
      intro k;rw[Ua];generalize i.toNat=N;induction N with
      |zero=>exact λ_=>rfl
      |succ N ih=>
       rw[am4,am4,am4,List.flatten_cons,List.flatten_cons];have hr:=hc.2
       generalize(fI e.sh el).getD [.fr]=sub at hr ih;unfold Q5 at hr;split at hr
       .exact⟨z,_,λ_=>0,λ_=>0,rfl,λ_=>rfl,fV.2 ⟨λ_=>rfl,z5 H⟩,ih⟩
       .rename_i o u';refine⟨z,_,λ_=>0,λ_=>0,rfl,λ_=>rfl,?_,ih⟩;show OD w H (k+1) (.ow o) (.li []) _ z
        grind [fo]
       grind
     have q:((fI e.sh el).getD [.fr]).length=1:=by
      have hr:=hc.2
      generalize(fI e.sh el).getD [.fr]=sub at hr;unfold Q5 at hr
      grind
     obtain⟨γ',F',j,B⟩:=zi h3 (n:=.gh d) rfl (b9 p (.gh d)) (cs:=madeCells #[z] i.toNat) (ty':=el) (len:=i.toNat) (cap:=i.toNat) (sub:=(fI e.sh el).getD [.fr]) (l:=List.replicate i.toNat [(ao u (dflt u)).toD]) (by simp) (akR _) (by show i.toNat<=2 ^ 62;omega)
      (λx hx=>by grind) (by grind [size_madeCells]) m
     refine⟨_,_,_,γ',F',by rw[f hs,hi];exact b,h,?_⟩;have J:(List.replicate i.toNat (dflt u)).map (ap u)=List.replicate i.toNat [(ao u (dflt u)).toD]:=by
      rw[List.map_replicate]
      congr 1
      rw[<- bZ,kp G];rfl
     have E:((s.fresh (.gh d)).root (.gh d) ⟨false,[.ow ((fI e.sh el).getD [.fr]) u (List.replicate i.toNat (dflt u))],none⟩).toS=(s.toS.fresh (.gh d)).root (.gh d) ⟨false,[.ow ((fI e.sh el).getD [.fr]) (List.replicate i.toNat [(ao u (dflt u)).toD])]⟩:=by rw[<- J,<- bx hn];rfl
     rw[<- E]at j;refine bJ (aQ _ (some d) (.one (.c (.rf ⟨.gh d,0,[]⟩)))) (RX.put j hd (g8 (sub:=(fI e.sh el).getD [.fr]) (l:=List.replicate i.toNat [(ao u (dflt u)).toD]) ?_ B))
     grind [S.root,ah]
    grind
   grind
  grind
 grind
end
end Go.Am
end

section
namespace Go.Am
variable{sub:List Sh}
section
variable {P:Program} {g:G} {s:S} {a:Act} {w:World} {H:FH} {γ:Gam} {F:Nm->Fp}
theorem Md(h:RX g s a w H γ F){n:Nm}(hno:n.isOut=false)(hn:ah s.m n=none){cs:Array Value}{ty':TypeId}{row:List D}{k:Nat}{f:Fp}(hx:row.length=sub.length)(B:cs.size=sub.length)
  (p:Cs (OD w H k) sub row f cs.toList) (hd:∀b,tot F s.m b+f b<=1) (hl:∀b,f b≠0->b<w.heap.size/\(∀o,H b o=none)/\(g.own0 b≠0\/g.w0.heap.size<=b)) :
  ∃γ' F',RX g (s.root n ⟨false,[.ow sub [row]]⟩) a (w.alloc (.cells cs ty')) H γ' F'/\γ' n=.gh (.slice (some ⟨w.heap.size,0,none⟩) 1 1):=by
 obtain⟨hm,hf,r,A⟩:=qM h.mem cs ty' false;simp only[akS,false_and,if_false]at hm hf r A;have u:RX g s a (w.alloc (.cells cs ty')) H γ F:=j4 h hm hf (λi=>dw r (λ_ _ _ h=>h) (h.t i)) (λ_=>rfl)
 have G:tot F s.m w.heap.size=0:=by
  rcases alO (tot F s.m w.heap.size)with h'|h'
  .exact h'
  have:=h.mem.lt w.heap.size kQ1;omega
 have hfz:f w.heap.size=0:=by grind
 have C:∀o,H w.heap.size o=none:=by
  intro o;cases hc:H w.heap.size o with
  |none=>rfl
  |some y=>have:=(h.mem.agree _ _ _ hc).lt;omega
 have q:Cs (OD (w.alloc (.cells cs ty')) H k) sub row f cs.toList:=lM _ _ _ _ (λs x g v E d=>cK (λ_ _ _ h=>h) k k _ _ _ _ (akR _) (λb hb=>cW (hl b (by grind)).1) d) p
 have d:TR (w.alloc (.cells cs ty')) H γ s.m (.ow sub [row]) (λb=>f b+if b=w.heap.size then 1 else 0) (.slice (some ⟨w.heap.size,0,none⟩) 1 1):=by
  refine⟨k+1,zg (l:=[row]) (c:=1) (bw) rfl kQ1 (akR _) (by show 1<=4611686018427387904;omega) (λx z=>by grind) ?_⟩
  grind
 have e:(w.alloc (.cells cs ty')).heap.size=w.heap.size+1:=by simp_all
 refine dR u hno hn d (λb=>?_) (λb hb=>?_) (λb hb=>?_)
 .grind
 .grind
 by_cases j:b=w.heap.size
 .subst j;right;exact h.fr.size
 grind
end
theorem D5:∀{ts:List Tt}{i j:Nat}{q:Pl},Bo ts i=some (j,q)->i<=j/\ts[j-i]? = some (.rf q)
 |[],_,_,_,h=>by cases h
 |t::r,i,j,q,h=>by
  have next:Bo r (i+1)=some (j,q)->i<=j/\(t::r)[j-i]? = some (.rf q):=λh=>by
   obtain⟨h1,h2⟩:=D5 h
   grind
  cases t with
  |rf a=>grind [Bo]
  |_=>exact next h
theorem Jl{n:Nat}{us z:Array Value}(b:us.size=n)(a:z.size=1*n):Instr.fill (λi=>some (i*n,n)) z [(0,.agg us)]=some us:=by
 have hc:(Value.agg us).cells=us:=rfl
 simp only[Instr.fill,hc];rw[if_neg (by grind)]
 congr 1
 have key:∀(k:Nat)(l:List Value)(z:Array Value),k+l.length<=z.size->((l.zipIdx k).foldl (λcs(x:Value×Nat)=>cs.setIfInBounds (0*n+x.2) x.1) z).toList=z.toList.take k++l++z.toList.drop (k+l.length):=by
  intro k l;induction l generalizing k with
  |nil=>simp_all
  |cons x l ih=>
   intro z hk;simp only[akY]at hk;simp only[List.zipIdx_cons,anC];rw[ih (k+1) _ (by grind)];simp only[Nat.zero_mul,amB,Array.toList_setIfInBounds];rw[List.take_set,List.drop_set_of_lt kQ1]
   grind [List.take_add_one,akY]
 apply Array.ext'
 have e:us.zipIdx.foldl (λcs(x:Value×Nat)=>cs.setIfInBounds (0*n+x.2) x.1) z=(us.toList.zipIdx 0).foldl (λcs(x:Value×Nat)=>cs.setIfInBounds (0*n+x.2) x.1) z:=by grind [Array.toList_zipIdx]
 grind
section
variable {P:Program} {g:G} {s:St} {a:Act} {w:World} {H:FH} {γ:Gam} {F:Nm->Fp} {k:St->Prop}
theorem x9{E:Ut}{sub:List Sh}{t:TypeId}{len:Nat}{ps:Array (Nat×Operand)}{d:Tmp}(M:RX g s.toS a w H γ F)(hd:okD g.nt (some d)=true)(J:(ps.toList.all λx=>aI x.2)=true)(h:dA P E sub s t len ps d k) :
  ∃t' y w' γ' F',(Instr.buildSlice t len (ps.map λ(i,x)=>(i,a.eval x))).run P w=.ok y w'/\k t'/\RX g t'.toS (a.put (some d) y) w' H γ' F':=by
 unfold dA at h;split at h
 .rename_i e ht;split at h
  .rename_i u z ts he hz hp;split at h
   .rename_i j q hj;split at h
    .rename_i al am u' l2 U aq;split at h
     .rename_i s1 ai l' hb;split at h
      .rename_i l hc hl;simp only[akP]at hc;obtain⟨⟨⟨⟨⟨⟨c1,c2⟩,c3⟩,c4⟩,c5⟩,c6⟩,c7,c8,c9⟩:=hc;have aw:=akU c2
       obtain rfl:=akU c4;have aj:=akU c5
       have av:=akU c6
       obtain rfl:=kD c7;obtain⟨pl⟩:=ps;have p:pl.map (λx=>(x.1,evA s x.2))=[(0,.one (.agg ts))]:=hp
       match pl,p,J with
       |[],p,_=>cases p
       |_::_::_,p,_=>grind
       |[(i,x)],p,J=>
       simp only[List.map_cons,List.map_nil,List.cons.injEq,Prod.mk.injEq,and_true]at p;obtain⟨rfl,hx⟩:=p;have hop:aI x=true:=by grind
       have hv:=aL M hop
       rw[ak hop,hx]at hv;obtain⟨cs,r,L,A⟩:=hv;have L:cs.size=ts.length:=by grind
       obtain⟨_,C⟩:=D5 hj;rw[Nat.sub_zero]at C;have ar:j<ts.length:=(alR.1 C).1
       have T:(ts.map Tt.toT)[j]? = some (.rf q):=by rw[akT,C];rfl
       obtain⟨_,v,gv,_,af,G,ax⟩:=sC A T;have X:AR w H γ s.toS.m (.one (.c (.rf q))) v:=⟨λ_=>rfl,G.2⟩
       have V:=fZ M
       obtain⟨b1,b2,_⟩:=mX (size:=nc u') rfl V (λq' ad=>by cases ad;exact qh G.2.1) hb
       obtain⟨kb,f,F1,k1,k2,k3,k4,k5⟩:=mY M X b1;have hfz:=vp c9
       obtain⟨_,_,_,fk,fr,_,_,_,a4,_,a6,_⟩:=cX _ _ _ _ j A kQ1;have Q:Ts (TR w H γ s.toS.m) ((ts.set j .nil).map Tt.toT) (λ_=>0) (cs.toList.set j (.slice none 0 0)):=by
        have:=a6 (λ_=>TR w H γ s.toS.m) .nil (.slice none 0 0) (λ_=>0) (λ_ _ _ _ _ h=>h) ⟨λ_=>rfl,rfl⟩
        unfold Ts;rw[akV,amG];rw[akV]at this;rw[alM];exact pv (λb=>by grind) this
       have hC:=Er (k:=kb) (λ_=>rfl) hfz Q
       obtain⟨sj,_,_,au,aa,d1,_,_,d4,_,d6,_⟩:=cX _ _ _ _ j hC (by grind);rw[U]at d1;obtain rfl:=Option.some.inj d1;have B:=d6 (OD w H (kb+1)) (.li (l'.map (ap u'))) v f (λ_ _ _ _ _ h=>h) (cK (λ_ _ _ h=>h) kb (kb+1) _ _ _ _ (alN _) (λ_ _=>rfl) k1)
       rw[amQ,show cs.toList.set j v=cs.toList from qA af]at B;have o:=oC hl
       simp only[List.map_cons,List.map_nil]at o
       match l,hl,o,h with
       |[],_,o,_=>grind
       |_::_::_,_,o,_=>grind
       |[y],hl,o,h=>
       simp only[List.map_cons,List.map_nil,List.cons.injEq,and_true]at o;have e1:((ts.set j .nil).map λt=>t.toT.fz).set j (.li (l'.map (ap u')))=ap u y:=by rw[<- o,alM,amQ,alM];rfl
       rw[e1]at B;have ag:=cY k2 (.gh d)
       have Y:∀b,tot F1 (s1.toS.fresh (.gh d)).m b<=tot F1 s1.toS.m b:=by
        intro b;unfold S.fresh;split
        .omega
        show tot F1 (aM _ _) b<=_
        rw[bg];exact gp
       obtain⟨_,td,_,ac,ab,_⟩:=aT ht (by simp);obtain rfl:=pg ab;obtain⟨N,de,I,_,_,Z,_,_⟩:=jG c1;obtain⟨R,z0,W,O,_,_⟩:=kH hz;rw[I]at W;obtain rfl:N=R:=by grind
       have an:N.size=nc u:=by omega
       obtain⟨us,ao,r1,r2,r3⟩:=jR (P:=P) (w:=w) (t:=t) (len:=1) (vs:=#[(0,a.eval x)]) (cells:=#[]) ac I O (by grind [akZ]) (λus hus=>by refine⟨cs,?_,by omega,.inr trivial⟩;rw[r];exact Jl kQ1 hus)
       have D:Instr.fill (λi=>some (i*N.size,N.size)) us #[(0,a.eval x)].toList=some cs:=by rw[r];exact Jl kQ1 r1
       rw[D]at r2;obtain rfl:=Option.some.inj r2;obtain⟨γ',F',K,ae⟩:=Md (ty':=e) ag (n:=.gh d) rfl (b9 k2 (.gh d)) (by grind) kQ1 (pv (f:=λb=>f b+aa b) (g:=f) (λb=>by grind) B)
        (λb=>by have h1:=Y b;have h2:=k4 b;have h3:=M.mem.le1 b;omega) k5
       have e2:((s1.fresh (.gh d)).root (.gh d) ⟨false,[.ow sub u [y]],none⟩).toS=(s1.toS.fresh (.gh d)).root (.gh d) ⟨false,[.ow sub [ap u y]]⟩:=by rw[<- bx b2];rfl
       rw[<- e2]at K;refine⟨_,_,_,γ',F',by rw[show(Array.map (λ(x:Nat×Operand)=>(x.1,a.eval x.2)) ⟨[(0,x)]⟩)=#[(0,a.eval x)]from by simp];exact r3,h,?_⟩;refine bJ (aQ _ (some d) (.one (.c (.rf ⟨.gh d,0,[]⟩)))) (RX.put K hd (g8 (sub:=sub) (l:=[ap u y]) ?_ ae))
       grind [S.root,ah]
      grind
     grind
    grind
   grind
  grind
 grind
theorem CA{α β:Type}{R:α->β->Fp->Value->Prop}:∀(a:List α)(c:List β){b:List α}{d:List β}{f:Fp}{vs:List Value},a.length=c.length->Cs R (a++b) (c++d) f vs->∃f':Fp,Cs R a c f' vs/\∀x,f' x<=f x
 |[],[],_,_,_,_,_,_=>⟨λ_=>0,λ_=>rfl,λ_=>alL _⟩
 |x::a,y::c,b,d,f,vs,hl,h=>by obtain⟨v,r,f1,e,h1,h2,h3,h4⟩:=h;obtain⟨f',k1,k2⟩:=CA a c (by grind) h4;exact⟨λq=>f1 q+f' q,⟨v,r,f1,f',h1,λ_=>rfl,h3,k1⟩,λq=>by grind⟩
 |[],_::_,_,_,_,_,hl,_=>by grind
 |_::_,[],_,_,_,_,hl,_=>by grind
theorem ZT{k:Nat}{l:List (List D)}{f:Fp}{v:Value}{m:Nat}(hm:m<=l.length)(h:OD w H k (.ow sub) (.li l) f v) :
  ∃ad c,v=.slice ad l.length c/\l.length<=c/\(∀b,ad=some b->b=⟨b.block,0,none⟩)/\∃f':Fp,OD w H k (.ow sub) (.li (l.take m)) f' (.slice ad m c)/\∀x,f' x<=f x:=by
 cases k with
 |zero=>simp[OD]at h
 |succ k=>
 rw[fo]at h;rcases h with⟨rfl,rfl,h0⟩|⟨b,c,cs,ty,fr,g',h1,h2,h3,h4,h5,h6,h7,h8,h9⟩
 .obtain rfl:m=0:=by grind
  exact⟨none,0,rfl,akR _,(λb hb=>by cases hb),f,fo.2 (.inl ⟨rfl,rfl,h0⟩),λ_=>akR _⟩
 subst h1;have e:(List.replicate l.length sub).flatten=(List.replicate m sub).flatten++(List.replicate (l.length-m) sub).flatten:=by grind [List.replicate_append_replicate]
 have i:l.flatten=(l.take m).flatten++(l.drop m).flatten:=by grind [amH]
 have a:(l.take m).length=m:=by grind
 have d:∀x∈l.take m,x.length=sub.length:=λx hx=>h7 x (amE hx)
 rw[e,i]at h8;obtain⟨f',k1,k2⟩:=CA _ _ (by rw[cQ _ _ d,a];simp) h8;refine⟨_,c,rfl,h5,λb' hb=>by grind,λx=>f' x+if x=b then 1 else 0,fo.2 (.inr ⟨b,c,cs,ty,fr,f',by rw[a],h2,h3,h4,by omega,by omega,d,by grind,λ_=>rfl⟩),λx=>by grind⟩
theorem Lf{e:En}{t:TypeId}{x hi:Operand}{d:Tmp}(o:RX g s.toS a w H γ F)(hd:okD g.nt (some d)=true)(hx:aI x=true)(j:aI hi=true)(h:nK e s t x hi d k) :
  ∃t' y γ' F',(∀w:World,(Instr.sliceAt t (a.eval x) none (some (a.eval hi)) none).run e.P w=.ok y w)/\k t'/\RX g t'.toS (a.put (some d) y) w H γ' F':=by
 unfold nK at h;split at h
 .rename_i el Q;split at h
  .rename_i q n J D;split at h
   .rename_i u0 V _;split at h
    .rename_i s1 sub l A hb;obtain⟨⟨O,L⟩,h⟩:=h;have hy:=aL o hx
     have hn:=aL o j
     rw[ak hx,J]at hy;rw[ak j,D]at hn;obtain⟨b1,b2,_⟩:=mX (size:=nc u0) rfl (fZ o) (λU G=>by cases G;exact qh hy.2.1) hb
     obtain⟨kb,f,F1,k1,k2,k3,k4,k5⟩:=mY o hy b1;obtain⟨ad,c,hv,hc,N,f',T,q2⟩:=ZT (m:=n.toNat) (by grind) k1;rw[akV]at hv hc;obtain⟨_,td,_,u,E,_⟩:=aT Q (by simp);obtain rfl:=pg E;obtain⟨i,R,z,_⟩:=jG A;obtain⟨a',b',⟨rfl,rfl,_⟩,C⟩:=kM (P:=e.P) (isS:=true) (len:=l.length) (cap:=c) (vlo:=none) (lo:=none) (k:=λa b=>a=0/\b=n.toNat/\b<=l.length) trivial (show Rv w H γ s.toS.m (some (At.one (.c (.d (.i .i64 n)))).toV) (some (a.eval hi))from hn) hc (show ic none 0 _ from⟨O,rfl,rfl,L⟩) (λa b h=>by omega);have r:∀w:World,(Instr.sliceAt t (a.eval x) none (some (a.eval hi)) none).run e.P w=.ok (.slice ad n.toNat c) w:=by
      intro w;rw[hv];simp only[Instr.sliceAt,Sem.run_bind,run_underlying u,Result.andThen_ok];simp only[Instr.slice,Sem.run_bind,run_underlying u,Result.andThen_ok,C,cv z,Sem.run_pure]
      congr 2
      cases ad<;>grind [eN]
     have K:=cY k2 (.gh d)
     have B:∀b,tot F1 (s1.toS.fresh (.gh d)).m b<=tot F1 s1.toS.m b:=by
      intro b;unfold S.fresh;split
      .omega
      show tot F1 (aM _ _) b<=_
      rw[bg];exact gp
     obtain⟨γ',F',p,I⟩:=dR K (n:=.gh d) rfl (b9 k2 (.gh d)) (v:=.slice ad n.toNat c) (t:=.ow sub ((l.take n.toNat).map (ap u0))) (f:=f') ⟨kb,by grind [amS]⟩
      (λb=>by have h1:=B b;have h2:=k4 b;have h3:=o.mem.le1 b;grind) (λb hb=>by grind) (λb hb=>(k5 b (by grind)).2.2)
     have M:((s1.fresh (.gh d)).root (.gh d) ⟨false,[.ow sub u0 (l.take n.toNat)],none⟩).toS=⟨(s1.toS.fresh (.gh d)).t,(.gh d,⟨false,[.ow sub ((l.take n.toNat).map (ap u0))]⟩)::(s1.toS.fresh (.gh d)).m⟩:=by rw[<- bx b2];rfl
     rw[<- M]at p;refine⟨_,_,γ',F',r,h,?_⟩;refine bJ (aQ _ (some d) (.one (.c (.rf ⟨.gh d,0,[]⟩)))) (RX.put p hd (g8 (sub:=sub) (l:=(l.take n.toNat).map (ap u0)) ?_ I))
     grind [ah]
    grind
   grind
  grind
 grind
end
end Go.Am
end
