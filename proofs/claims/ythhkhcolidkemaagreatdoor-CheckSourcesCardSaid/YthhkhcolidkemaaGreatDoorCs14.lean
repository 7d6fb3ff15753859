/-
  Part 14: AmE3m · AmE3n.
-/
import Derived.Test.YthhkhcolidkemaaGreatDoorCs13
import Derived.Deep.OwnRows
set_option linter.unusedSimpArgs false
set_option linter.unusedVariables false
set_option linter.unusedSectionVars false
set_option linter.unnecessarySimpa false
section
namespace Go.Am
open Go.MapKept
variable{β:Type}
def BH(ku:U)(g:β->Sh×D)(x:El ku×β):D×Sh×D:=((ao ku x.1).toD,g x.2)
abbrev vR(ku vu:U):El ku×El vu->D×Sh×D:=BH ku fun v=>(.fr,(ao vu v).toD)
abbrev uZ(u:U)(l:List (El u)):Sh×D:=(.ow (List.replicate (nc u) .fr),.li (l.map (ap u)))
variable{ku:U}{t:TypeId}
theorem qS{P:Program}(h:fY P t ku=true)(a b:El ku):ng (ao ku a).toD (ao ku b).toD=uq ku a b:=by
 cases ku with
 |i k=>show(decide (k=k)&&decide (a=b))=decide (a=b);simp
 |bo=>rfl
 |s=>rfl
 |_=>cases h
theorem fV{P:Program}(h:fY P t ku=true)(a:El ku):jE (ty P t).k (ao ku a).toD=true:=by
 cases ku with
 |i k=>
  have h:decide ((ty P t).k=.int k)=true:=h
  rw[of_decide_eq_true h];show decide (k=k)=true;simp
 |bo=>
  have h:decide ((ty P t).k=.bool)=true:=h
  rw[of_decide_eq_true h];rfl
 |s=>
  have h:decide ((ty P t).k=.str)=true:=h
  rw[of_decide_eq_true h];rfl
 |_=>cases h
theorem nw{P:Program}(h:fY P t ku=true):(ty P t).k≠.ot:=by
 intro e;cases ku<;>first|grind [fY]|cases h
theorem nR{P:Program}(h:fY P t ku=true)(g:β->Sh×D)(l:List (El ku×β)):((l.map (BH ku g)).all fun x=>jE (ty P t).k x.1)=true:=by
 rw[List.all_map];exact ajM.2 fun x _=>fV h x.1
theorem uw{P:Program}(h:fY P t ku=true)(g:β->Sh×D)(k:El ku):∀l:List (El ku×β),oV (l.map (BH ku g)) (ao ku k).toD=(aL ku l k).map g
 |[]=>rfl
 |x::l=>by
  simp only[List.map_cons,oV,aL,BH,qS h];cases uq ku x.1 k with
  |true=>rfl
  |false=>exact uw h g k l
theorem EM{P:Program}(h:fY P t ku=true)(g:β->Sh×D)(k:El ku)(v:β):∀l:List (El ku×β),jD (l.map (BH ku g)) (ao ku k).toD (g v)=(cQ ku l k v).map (BH ku g)
 |[]=>rfl
 |x::l=>by
  have ih:=EM h g k v l
  simp only[List.map_cons,jD,cQ,BH,qS h];cases uq ku x.1 k with
  |true=>rfl
  |false=>simp only[List.map_cons];rw[<- ih];rfl
theorem PO{P:Program}(h:fY P t ku=true)(g:β->Sh×D)(k:El ku):∀l:List (El ku×β),EA (l.map (BH ku g)) (ao ku k).toD=(Mu ku l k).map (BH ku g)
 |[]=>rfl
 |x::l=>by
  have ih:=PO h g k l
  simp only[List.map_cons,EA,Mu,BH,qS h];cases uq ku x.1 k with
  |true=>rfl
  |false=>simp only[List.map_cons];rw[<- ih];rfl
theorem P4{k:D}(hk:ng k k=true)(a b:Sh×D):∀l:List (D×Sh×D),jD (jD l k a) k b=jD l k b
 |[]=>by grind [jD]
 |x::l=>by
  simp only[jD];cases h:ng x.1 k with
  |true=>grind [jD]
  |false=>simp only[jD,h,P4 hk a b l]
theorem aaX{k:D}(hk:ng k k=true)(b:Sh×D)(l:List (D×Sh×D)):jD (BD l k) k b=jD l k b:=by
 grind [BD,P4]
theorem PD{κ:TK}{k:D}(hk:jE κ k=true)(v:Sh×D):∀{l:List (D×Sh×D)},(l.all fun x=>jE κ x.1)=true->((jD l k v).all fun x=>jE κ x.1)=true
 |[],_=>by simp[jD,hk]
 |x::l,h=>by
  simp only[ajJ,ai9]at h;simp only[jD];split
  ·grind
  simp only[ajJ,h.1,PD hk v h.2,Bool.and_self]
variable{l:List (D×Sh×D)}
theorem Zl{κ:TK}{k:D}(hk:jE κ k=true)(h:(l.all fun x=>jE κ x.1)=true):((BD l k).all fun x=>jE κ x.1)=true:=by
 grind [BD,PD]
variable{u:U}
theorem FR{P:Program}(h:zOK P t u=true):∃z it,P.info? t=some it/\it.zero=some z/\z.cells=#[z]/\(∀w,(zeroValue t).run P w=.ok z w)/\(∀H,FDx H (ao u (dflt u)).toD z)/\(∀v,u=.sl v->z=.slice none 0 0)/\leaf u=true:=by
 unfold zOK at h;have run:∀{z:Value},(P.info? t).bind (·.zero)=some z->∃it,P.info? t=some it/\it.zero=some z/\∀w,(zeroValue t).run P w=.ok z w:=by
  simp_all[ajP,zeroValue,typeInfo]
 split at h
 ·rename_i k n k' a;obtain⟨it,h1,h2,h3⟩:=run a;simp only[ai9,decide_eq_true_eq]at h;obtain⟨⟨rfl,rfl⟩,_⟩:=h;exact⟨_,it,h1,h2,rfl,h3,fun H=>⟨0,rfl,by cases k<;>decide⟩,(fun _ e=>by cases e),rfl⟩
 ·rename_i b a;obtain⟨it,h1,h2,h3⟩:=run a;cases b with
  |true=>cases h
  |false=>exact⟨_,it,h1,h2,rfl,h3,fun H=>⟨0,rfl⟩,(fun _ e=>by cases e),rfl⟩
 ·rename_i str a;obtain⟨it,h1,h2,h3⟩:=run a;refine⟨_,it,h1,h2,rfl,h3,fun H=>⟨0,?_,aj0 _⟩,(fun _ e=>by cases e),rfl⟩;obtain⟨⟨l⟩⟩:=str;cases l with
  |nil=>rfl
  |cons x l=>simp at h
 ·rename_i u a;obtain⟨it,h1,h2,h3⟩:=run a;exact⟨_,it,h1,h2,rfl,h3,fun H=>lJ,fun _ _=>rfl,rfl⟩
 ·rename_i ku vu a;obtain⟨it,h1,h2,h3⟩:=run a;exact⟨_,it,h1,h2,rfl,h3,fun H=>⟨0,rfl⟩,(fun _ e=>by cases e),rfl⟩
 grind
variable{d:Tmp}{key x:At}{kv vv y:Value}{n:Nm}
section
variable {P:Program} {g:G} {a:Act} {w:World} {H:FH} {γ:Gam} {F:Nm->Fp} {s:St} {k k':St->Prop}
theorem E4{E:Ut}{own:Bool}(hk:∀s',Ext s s'->k s'->k' s')(h:fW P E own s t d k):fW P E own s t d k':=by
 unfold fW at h⊢
 (repeat' split at h)<;>first|exact h.elim|exact hk _ (((bQ _ _).trans (da _ _ _)).trans (aA _ _ _)) h
theorem E7{m:List (Nm×Nat×Rt)}{ok:Bool}{k k':At->Prop}(hk:∀v,k v->k' v)(h:l7 P m t x key ok k):l7 P m t x key ok k':=by
 unfold l7 at h⊢
 (repeat' split at h)<;>first|exact h.elim|grind
theorem Kk{v:At}(hk:∀s',Ext s s'->k s'->k' s')(h:l8 P s t x key v k):l8 P s t x key v k':=by
 unfold l8 at h⊢
 (repeat' split at h)<;>first|exact h.elim|exact hk _ ⟨aj2 _,fun _ _ _ h _=>h,dq _ _ (ajB _) _⟩ h
theorem Kg(hk:∀s',Ext s s'->k s'->k' s')(h:l4 P s t x key k):l4 P s t x key k':=by
 unfold l4 at h⊢
 (repeat' split at h)<;>first|exact h.elim|exact hk _ ⟨aj2 _,fun _ _ _ h _=>h,dq _ _ (ajB _) _⟩ h
theorem tF(s:St)(n:Nm)(r:Rt):Ext s ⟨s.nx+1,s.t,dj s.m n s.nx r⟩:=⟨aj2 _,fun _ _ _ h _=>h,dq _ _ (ajB _) _⟩
theorem E9{x key:Operand}(hk:∀s',Ext s s'->k s'->k' s')(h:nu P s t x key d k):nu P s t x key d k':=by
 unfold nu at h⊢;dsimp only at h⊢
 (repeat' split at h)<;>first|exact h.elim|exact hk _ ((((bQ _ _).trans (tF _ _ _)).trans (da _ _ _)).trans (aA _ _ _)) h
theorem Kj{v:At}(hk:∀s',Ext s s'->k s'->k' s')(h:q7 P s t x key v k):q7 P s t x key v k':=by
 unfold q7 at h⊢;dsimp only at h⊢
 (repeat' split at h)<;>first|exact h.elim|exact⟨h.1,hk _ ((tE _ _).trans (tF _ _ _)) h.2⟩
theorem Kh{x:Operand}(hk:∀s',Ext s s'->k s'->k' s')(h:qY s x d k):qY s x d k':=by
 unfold qY at h⊢
 (repeat' split at h)<;>first|exact h.elim|exact hk _ ((tF _ _ _).trans (aA _ _ _)) h
theorem Av{e:En}{n c:At}{b:Bool}(hk:∀s',Ext s s'->k s'->k' s')(h:fi e s t n c b d k):fi e s t n c b d k':=by
 unfold fi at h⊢
 (repeat' split at h)<;>first|exact h.elim|exact⟨h.1,hk _ (((bQ _ _).trans (da _ _ _)).trans (aA _ _ _)) h.2⟩
theorem Kf{E:Ut}{own:Bool}(o:RX g s.toS a w H γ F)(hd:okD g.nt (some d)=true)(h:fW P E own s t d k){r:Option Value}(hr:∀v,r=some v->∃κ n,v=.int κ n) :
  ∃t' y w' γ' F',(Instr.makeMap t r).run P w=.ok y w'/\k t'/\RX g t'.toS (a.put (some d) y) w' H γ' F':=by
 have p:∀{kt et:TypeId}{c:Tt},(ty P t).k=.mp kt et->c.toT=.mp []->k (((s.fresh (.gh d)).root (.gh d) ⟨false,[c],none⟩).put (some d) (.one (.c (.rf ⟨.gh d,0,[]⟩))))->∃t' y w' γ' F',(Instr.makeMap t r).run P w=.ok y w'/\k t'/\RX g t'.toS (a.put (some d) y) w' H γ' F':=by
  intro kt et c f hc hk;obtain⟨_,td,_,q,i,_⟩:=aS f (by simp);obtain rfl:=r9 i;have hn:=fT o
  have h1:=cU o (.gh d)
  obtain⟨γ',F',h2,j⟩:=QW h1 (n:=.gh d) rfl (bZ o (.gh d));have b:(Instr.makeMap t r).run P w=.ok (.map (some w.heap.size)) (w.alloc (.map #[] 0)):=by
   cases r with
   |none=>rfl
   |some v=>
    obtain⟨κ,n,rfl⟩:=hr v rfl
    simp_all[Instr.makeMap,run_underlying,asInt,asIntOf]
  refine⟨_,_,_,γ',F',b,hk,?_⟩;have e:((s.fresh (.gh d)).root (.gh d) ⟨false,[c],none⟩).toS=⟨(s.toS.fresh (.gh d)).t,(.gh d,⟨false,[.mp []]⟩)::(s.toS.fresh (.gh d)).m⟩:=by
   rw[<- bx hn];show(⟨_,(Nm.gh d,(⟨false,[c.toT]⟩:Root))::_⟩:S)=_
   rw[hc];rfl
  rw[<- e]at h2;refine bH (aO _ (some d) (.one (.c (.rf ⟨.gh d,0,[]⟩)))) (h2.put hd ?_);exact vo (l:=[]) (by grind [af]) j
 unfold fW at h;split at h
 ·rename_i kt et f;split at h
  ·exact p f rfl h
  ·exact p f rfl h
  grind
 grind
theorem qX{p:Pl}{vu:U}{l:List (El ku×El vu)}(h:oE s.m p=some ⟨ku,vu,l⟩):∃n,p=⟨n,0,[]⟩/\af s.toS.m n=some ⟨false,[.mp (l.map (vR ku vu))]⟩:=by
 unfold oE at h;split at h
 ·rename_i n;split at h
  ·rename_i hr;cases h;exact⟨n,rfl,bi hr⟩
  grind
 grind
theorem wg{l:List (El ku×List (El u))}{o:Option (El ku)}(h:we s.m n=some ⟨ku,u,l,o⟩):af s.toS.m n=some ⟨false,[.mp (moD ku u l o)]⟩:=by
 unfold we at h;split at h
 ·rename_i hr;cases h;exact bi hr
 grind
theorem s5(o:RX g s.toS a w H γ F)(hr:af s.toS.m n=some ⟨false,[.mp l]⟩)(hy:AR w H γ s.toS.m (.one (.c (.rf ⟨n,0,[]⟩))) y) :
  ∃b es ck,∃f:Fp,y=.map (some b)/\γ n=.gh (.map (some b))/\w.heap[b]? = some (.map es ck)/\Stamped es ck/\MpO w H l es.toList f/\(∀c,F n c=f c+if c=b then 1 else 0)/\f b=0:=by
 obtain⟨b,es,ck,f,d,e,k,i,h,j⟩:=XA o.mem hr;obtain⟨_,_,hv⟩:=hy;refine⟨b,es,ck,f,?_,d,e,k,i,h,j⟩;unfold plV at hv;dsimp only at hv;rw[d]at hv;exact(Option.some.inj hv).symm
theorem AC{P:Program}(h:fY P t u=true):leaf u=true:=by cases u<;>first|rfl|cases h
theorem NB{ok:Bool}{k:At->Prop}(I:RX g s.toS a w H γ F)(hy:AR w H γ s.toS.m x.toV y)(j:AR w H γ s.toS.m key.toV kv)(h:l7 P s.m t x key ok k) :
  ∃z v,(Instr.lookup t y kv ok).run P w=.ok z w/\AR w H γ s.toS.m v.toV z/\k v:=by
 unfold l7 at h;split at h
 ·rename_i kt et J;split at h
  ·rename_i p c;split at h
   ·rename_i ku vu l hm;split at h
    ·rename_i kx hc hk;simp only[ai9]at hc;obtain⟨_,td,_,A,q,_⟩:=aS J (by simp);obtain rfl:=r9 q;obtain⟨_,G,_,i,D,_⟩:=aS rfl (nw hc.1);obtain⟨n,rfl,hr⟩:=qX hm;obtain⟨b,es,ck,f,rfl,_,C,O,r,_⟩:=s5 I hr hy;obtain⟨z,_,_,_,_,B,K,_,M⟩:=FR hc.2;have d:FDx H (ao ku kx).toD kv:=by rw[dQ hk]at j;exact j.2
     obtain⟨v,u,E⟩:=s7 (P:=P) A i C r (by grind [nR]) (by grind [fV]) d (B w) ok;rw[uw hc.1]at u E;have hv:FDx H (ao vu ((aL ku l kx).getD (dflt vu))).toD v:=by
      cases hl:aL ku l kx<;>grind [fO]
     refine⟨_,_,u,?_,h⟩;unfold Oa;cases ok with
     |true=>exact⟨_,rfl,⟨fun _=>rfl,hv⟩,⟨fun _=>rfl,0,by rw[Option.isSome_map];rfl⟩,trivial⟩
     |false=>exact⟨fun _=>rfl,hv⟩
    grind
   grind
  ·rename_i ku vu z c;split at h
   ·rename_i kx hc hk;simp only[ai9]at hc;obtain⟨_,td,_,A,q,_⟩:=aS J (by simp);obtain rfl:=r9 q;obtain⟨_,G,_,i,D,_⟩:=aS rfl (nw hc.1);obtain⟨N,_,_,_,_,B,K,_,M⟩:=FR hc.2.1;have d:FDx H (ao ku kx).toD kv:=by rw[dQ hk]at j;exact j.2
    have o:jE (gf P G) (ao ku kx).toD=true:=by grind [fV]
    have hd:FDx H (.mp (z.map fun l=>l.map fun x=>((ap ku x.1).headD .any,(ap vu x.2).headD .any))) y:=hy.2
    cases z with
    |none=>
     obtain⟨b,rfl⟩:=LA hd;have hb:b=none:=by
      obtain⟨m,hd⟩:=hd;have hd:Value.map b=.map none:=by cases m<;>exact hd
      grind
     subst hb;refine⟨_,_,Be A i o d (B w) ok,?_,h⟩;have hv:FDx H (ao vu (dflt vu)).toD N:=K H
     unfold Oa;cases ok with
     |true=>exact⟨_,rfl,⟨fun _=>rfl,hv⟩,⟨fun _=>rfl,0,rfl⟩,trivial⟩
     |false=>exact⟨fun _=>rfl,hv⟩
    |some l=>
     have el:(l.map fun x=>((ap ku x.1).headD .any,(ap vu x.2).headD .any))=l.map fun x=>((ao ku x.1).toD,(ao vu x.2).toD):=ajN fun x _=>by grind [pE,AC]
     have hd:FDx H (.mp (some (l.map fun x=>((ap ku x.1).headD .any,(ap vu x.2).headD .any)))) y:=hd
     rw[el]at hd;obtain⟨b,es,ck,rfl,C,_,r⟩:=UF I.mem.agree (fun e L=>by
      obtain⟨x,_,rfl⟩:=ajX.1 L;exact oy (fV hc.1 x.1)) hd
     rw[akA]at r;have r:MpO w H (l.map (vR ku vu)) es.toList (fun _=>0):=r
     obtain⟨v,u,E⟩:=s7 (P:=P) A i C r (by grind [nR]) o d (B w) ok;rw[uw hc.1]at u E;have hv:FDx H (ao vu ((aL ku l kx).getD (dflt vu))).toD v:=by
      cases hl:aL ku l kx<;>grind [fO]
     refine⟨_,_,u,?_,h⟩;unfold Oa;cases ok with
     |true=>exact⟨_,rfl,⟨fun _=>rfl,hv⟩,⟨fun _=>rfl,0,by rw[Option.isSome_map];rfl⟩,trivial⟩
     |false=>exact⟨fun _=>rfl,hv⟩
   grind
  grind
 grind
theorem RZ{vu:U}{tv:Tt}{a:El vu}(hl:leaf vu=true)(h:lF vu [tv]=some a){m:Mm}(hy:TR w H γ m tv.toT (fun _=>0) y):FDx H (ao vu a).toD y:=by
 have h1:BG vu tv=some a:=by cases vu<;>first|exact h|cases hl
 unfold BG at h1;split at h1
 ·split at h1
  ·simp only[ai8]at h1;subst h1;exact hy.2
  grind
 ·rw[dQ h1]at hy;exact hy.2
 ·split at h1
  ·simp only[ai8]at h1;subst h1;obtain⟨_,rfl⟩:=hy;exact lJ
  grind
 grind
theorem nH{s:St}{c:Tt}(hc:c.toT=.mp l):(⟨s.nx+1,s.t,dj s.m n s.nx ⟨false,[c],none⟩⟩:St).toS=⟨s.toS.t,cv s.toS.m n ⟨false,[.mp l]⟩⟩:=by
 refine bE.S_ext rfl ?_;show toM (dj s.m n s.nx _)=_
 rw[fA]
 congr 1
 show(⟨false,[c.toT]⟩:Root)=_
 rw[hc]
theorem NG{v:At}(d:RX g s.toS a w H γ F)(hy:AR w H γ s.toS.m x.toV y)(j:AR w H γ s.toS.m key.toV kv)(z:AR w H γ s.toS.m v.toV vv)(h:l8 P s t x key v k) :
  ∃t' w' F',(Instr.mapUpdate t y kv vv).run P w=.ok () w'/\k t'/\RX g t'.toS a w' H γ F':=by
 unfold l8 at h;split at h
 ·rename_i kt et K;split at h
  ·rename_i p c tv;split at h
   ·rename_i ku vu l hm;split at h
    ·rename_i kx o hc hk u;simp only[ai9]at hc;obtain⟨_,td,_,J,q,_⟩:=aS K (by simp);obtain rfl:=r9 q;obtain⟨_,R,_,r,M,_⟩:=aS rfl (nw hc.1);obtain⟨n,rfl,hr⟩:=qX hm;obtain⟨b,es,ck,f,rfl,E,B,D,G,I,N⟩:=s5 d hr hy;have i:FDx H (ao ku kx).toD kv:=by rw[dQ hk]at j;exact j.2
     have e:FDx H (ao vu o).toD vv:=RZ hc.2 u z
     obtain⟨es',ck',S,Q,O,C,A⟩:=Bg (P:=P) J r B D G N (by grind [nR]) (by grind [fV]) i (v:=(.fr,(ao vu o).toD)) (n:=0) (fv:=fun _=>0) rfl (fO.2 ⟨fun _=>rfl,e⟩);rw[EM hc.1 (fun v=>(.fr,(ao vu v).toD))]at A;have L:∀c,F n c<=tot F s.toS.m c:=fun c=>bC (F:=F) (ah hr) c
     have:=vB d hr E B I O A (fun c=>by have:=C c;have:=d.mem.le1 c;omega) (fun c hc=>by
      have h3:tot F s.toS.m c≠0:=by grind
      exact⟨d.mem.lt c h3,d.mem.nofz c h3,d.fr.tt c h3⟩)
     rw[<- nH (s:=s) (c:=.mp ku vu (cQ ku l kx o)) (l:=(cQ ku l kx o).map (vR ku vu)) rfl]at this
     grind
    grind
   grind
  grind
 grind
theorem Ny{tt:TypeId}{ts:List TypeId}(d:RX g s.toS a w H γ F)(hy:AR w H γ s.toS.m x.toV y)(i:AR w H γ s.toS.m key.toV kv)(h:l4 P s t x key k) :
  ∃t' w' F',(Builtin.delete_ (t::ts).toArray tt #[y,kv]).run P w=.ok (.tuple #[]) w'/\k t'/\RX g t'.toS a w' H γ F':=by
 unfold l4 at h;split at h
 ·rename_i kt et D;split at h
  ·rename_i p c;split at h
   ·rename_i ku vu l hm;split at h
    ·rename_i kx hc hk;obtain⟨_,td,_,C,j,_⟩:=aS D (by simp);obtain rfl:=r9 j;obtain⟨_,L,_,o,G,_⟩:=aS rfl (nw hc);obtain⟨n,rfl,hr⟩:=qX hm;obtain⟨b,es,ck,f,rfl,z,r,v,A,B,I⟩:=s5 d hr hy;have e:FDx H (ao ku kx).toD kv:=by rw[dQ hk]at i;exact i.2
     obtain⟨es',M,K,J,u,q⟩:=Oc (P:=P) (ty:=tt) C o r v A I (by grind [nR]) (by grind [fV]) e (t::ts).toArray (by simp);rw[PO hc]at q;have E:∀c,F n c<=tot F s.toS.m c:=fun c=>bC (F:=F) (ah hr) c
     have:=vB d hr z r B J q (fun c=>by have:=u c;have:=d.mem.le1 c;omega) (fun c hc=>by
      have h3:tot F s.toS.m c≠0:=by grind
      exact⟨d.mem.lt c h3,d.mem.nofz c h3,d.fr.tt c h3⟩)
     rw[<- nH (s:=s) (c:=.mp ku vu (Mu ku l kx)) (l:=(Mu ku l kx).map (vR ku vu)) rfl]at this
     grind
    grind
   grind
  grind
 grind
theorem MO{P:Program}(h:fY P t ku=true)(k:El ku):ng (ao ku k).toD (ao ku k).toD=true:=by
 rw[qS h];cases ku with
 |i _=>show decide (k=k)=true;simp
 |bo=>cases(k:Bool)<;>rfl
 |s=>show decide (k=k)=true;simp
 |_=>cases h
theorem Kl{x key:Operand}(hX:RX g s.toS a w H γ F)(hd:okD g.nt (some d)=true)(hx:aF x=true)(q:aF key=true)(h:nu P s t x key d k) :
  ∃t' y γ' F',(Instr.lookup t (a.eval x) (a.eval key) false).run P w=.ok y w/\k t'/\RX g t'.toS (a.put (some d) y) w H γ' F':=by
 unfold nu at h;split at h
 ·rename_i kt et V;dsimp only at h;have e:RX g (s.fresh (.gh d)).toS a w H γ F:=by grind [bx,fT,cU]
  have o:af (s.fresh (.gh d)).toS.m (.gh d)=none:=by grind [bx,fT,bZ]
  generalize s.fresh (.gh d)=s1 at h e o;split at h
  ·rename_i n c E C;split at h
   ·rename_i ku u l hm;split at h
    ·rename_i kx hc hk;simp only[ai9]at hc;obtain⟨_,td,_,T,A,_⟩:=aS V (by simp);obtain rfl:=r9 A;obtain⟨_,Z,_,B,W,_⟩:=aS rfl (nw hc.1);have hr:=wg hm
     have hy:=aH e hx
     have j:=aH e q
     rw[aj hx,E]at hy;rw[aj q,C]at j;obtain⟨b,es,ck,f,X,O,J,N,Q,R,c6⟩:=s5 e hr hy;obtain⟨z,_,_,_,_,U,_,zs,_⟩:=FR hc.2;have p:FDx H (ao ku kx).toD (a.eval key):=by rw[dQ hk]at j;exact j.2
     have I:((moD ku u l none).all fun x=>jE (ty P kt).k x.1)=true:=nR hc.1 (uZ u) l
     obtain⟨v,Y,L⟩:=s7 (P:=P) T B J Q (by grind) (by grind [fV]) p (U w) false;have i:oV (moD ku u l none) (ao ku kx).toD=(aL ku l kx).map (uZ u):=uw hc.1 (uZ u) kx l
     have fin:∀(f1 G:Fp)(n':Nat),(∀c,f c=f1 c+G c)->OD w H n' (.ow (List.replicate (nc u) .fr)) (.li (((aL ku l kx).getD []).map (ap u))) f1 v->MpO w H (BD (moD ku u l none) (ao ku kx).toD) es.toList G ->
       ∃t' y γ' F',(Instr.lookup t (a.eval x) (a.eval key) false).run P w=.ok y w/\k t'/\RX g t'.toS (a.put (some d) y) w H γ' F':=by
      intro f1 G n' hf r D;obtain⟨γ',F',K,q2⟩:=QX e hr O J N R hf D (n2:=.gh d) rfl o r;refine⟨_,v,γ',F',by grind,h,?_⟩;have M:((⟨s1.nx+1,s1.t,dj s1.m n s1.nx ⟨false,[.mo ku u l (some kx)],none⟩⟩:St).root (.gh d) ⟨false,[.ow (List.replicate (nc u) .fr) u ((aL ku l kx).getD [])],none⟩).toS=⟨s1.toS.t,(.gh d,⟨false,[.ow (List.replicate (nc u) .fr) (((aL ku l kx).getD []).map (ap u))]⟩)::cv s1.toS.m n ⟨false,[.mp (BD (moD ku u l none) (ao ku kx).toD)]⟩⟩:=by
       have:=nH (s:=s1) (n:=n) (c:=.mo ku u l (some kx)) (l:=BD (moD ku u l none) (ao ku kx).toD) rfl
       have h2:=congrArg S.m this
       have h1:=congrArg S.t this
       exact bE.S_ext h1 (congrArg (List.cons _) h2)
      rw[<- M]at K;refine bH (aO _ (some d) (.one (.c (.rf ⟨.gh d,0,[]⟩)))) (K.put hd (gX (sub:=List.replicate (nc u) .fr) (l:=((aL ku l kx).getD []).map (ap u)) ?_ q2))
      grind [af]
     rw[i]at L;cases hl:aL ku l kx with
     |none=>
      rw[hl]at L;refine fin (fun _=>0) f 1 (fun c=>(akX _).symm) ?_ ?_
      all_goals grind [fd,BD]
     |some rows=>
      grind [BD]
    grind
   grind
  grind
 grind
theorem NE{v:At}(i:RX g s.toS a w H γ F)(hy:AR w H γ s.toS.m x.toV y)(D:AR w H γ s.toS.m key.toV kv)(U:AR w H γ s.toS.m v.toV vv)(h:q7 P s t x key v k) :
  ∃t' w' F',(Instr.mapUpdate t y kv vv).run P w=.ok () w'/\k t'/\RX g t'.toS a w' H γ F':=by
 unfold q7 at h;split at h
 ·rename_i kt et ht;split at h
  ·rename_i n c q;split at h
   ·rename_i ku u l o sub u' rows hm hq;split at h
    ·rename_i kx T hc hk j;simp only[ai9,ajY,decide_eq_false_iff_not]at hc;obtain⟨d,S,r⟩:=hc;obtain⟨eu,rfl⟩:=jj j;subst eu;obtain rfl:=kp S;obtain⟨h0,h⟩:=h;dsimp only at h;obtain⟨_,td,_,hu,M,_⟩:=aS ht (by simp);obtain rfl:=r9 M;obtain⟨_,kd,_,Q,ab,_⟩:=aS rfl (nw d);have hr:=wg hm
     have p:af s.toS.m q=some ⟨false,[.ow (List.replicate (nc u') .fr) (rows.map (ap u'))]⟩:=bi hq
     have I:=i.mem.roots _ (ah p)
     unfold bv at I;dsimp only at I;rw[if_neg (by simp)]at I;obtain⟨vq,tq,B,G,N⟩:=I;obtain rfl:tq=.ow (List.replicate (nc u') .fr) (rows.map (ap u')):=by grind
     obtain⟨nq,K⟩:=N;have W:vv=vq:=by
      obtain⟨_,_,hv⟩:=U;unfold plV at hv;dsimp only at hv;rw[B]at hv;exact(Option.some.inj hv).symm
     subst W;have aa:∀c,F q c<=tot F s.toS.m c:=fun c=>bC (F:=F) (ah p) c
     have C:∀c,F n c+F q c<=tot F s.toS.m c:=fun c=>vh (F:=F) (ah hr) (ah p) (fun e=>r e.symm) c
     have L:=tK i q
     have ed:(s.drop q).toS=s.toS.drop q:=bE (fT i)
     have z:∀c,tot F (s.toS.drop q).m c+F q c=tot F s.toS.m c:=fun c=>by
      show tot F (aJ _ _) c+_=_
      grind [bh,mm]
     have R:af (s.toS.drop q).m n=some ⟨false,[.mp (moD ku u' l o)]⟩:=by
      show af (aJ (bq q) (bP s.toS.m q)) n=_
      rw[kS,m0 (fun e=>r e.symm),hr];rfl
     obtain⟨b,es,ck,f,V,c1,Z,c3,c4,c5,c6⟩:=s5 i hr hy;subst V;have A:FDx H (ao ku kx).toD kv:=by rw[dQ hk]at D;exact D.2
     have O:=MO d kx
     have X:((moD ku u' l o).all fun x=>jE (ty P kt).k x.1)=true:=by
      cases o with
      |none=>exact nR d (uZ u') l
      |some k0=>exact Zl (fV d k0) (nR d (uZ u') l)
     have E:jD (moD ku u' l o) (ao ku kx).toD (uZ u' rows)=moD ku u' (cQ ku l kx rows) none:=by
      have e0:jD (l.map (Wy ku u')) (ao ku kx).toD (uZ u' rows)=(cQ ku l kx rows).map (Wy ku u'):=EM d (uZ u') kx rows l
      cases o with
      |none=>exact e0
      |some k0=>
       have h0:kx=k0:=h0
       subst h0;exact(aaX O _ _).trans e0
     have J:F q b=0:=by have:=C b;have:=i.mem.le1 b;grind
     obtain⟨es',ck',f2,e1,e2,e3,Y⟩:=Bg (P:=P) hu Q Z c3 c4 c6 (by grind) (by grind [fV]) A (v:=uZ u' rows) (n:=nq) (fv:=F q) J K;rw[E]at Y;have:=vB L R c1 Z c5 e2 Y (fun c=>by have:=e3 c;have:=z c;have:=i.mem.le1 c;omega) (fun c hc=>by
      have h3:tot F s.toS.m c≠0:=by grind
      exact⟨i.mem.lt c h3,i.mem.nofz c h3,i.fr.tt c h3⟩)
     rw[<- ed,<- nH (s:=s.drop q) (c:=.mo ku u' (cQ ku l kx rows) none) (l:=moD ku u' (cQ ku l kx rows) none) rfl]at this
     grind
    grind
   grind
  grind
 grind
theorem Nz{x:Operand}(e:RX g s.toS a w H γ F)(hd:okD g.nt (some d)=true)(hx:aF x=true)(h:qY s x d k) :
  ∃t' H' F',k t'/\RX g t'.toS (a.put (some d) (a.eval x)) w H' γ F':=by
 unfold qY at h;split at h
 ·rename_i n j;split at h
  ·rename_i ku u l hm;have hr:=wg hm
   have hy:=aH e hx
   rw[aj hx,j]at hy;obtain⟨b,es,ck,f,i,m,_⟩:=s5 e hr hy;obtain⟨H',F',h2⟩:=Vg e hr;have hfz:afL (moD ku u l none)=l.map (vR ku (.sl u)):=by
    show(l.map (Wy ku u)).map _=_
    rw[akA];rfl
   rw[hfz,<- nH (s:=s) (c:=.mp ku (.sl u) l) (l:=l.map (vR ku (.sl u))) rfl]at h2;refine⟨_,H',F',h,bH (aO _ (some d) (.one (.c (.rf ⟨n,0,[]⟩)))) (h2.put hd ?_)⟩;rw[i];refine vo (l:=l.map (vR ku (.sl u))) ?_ m;rw[nH (s:=s) (c:=.mp ku (.sl u) l) (l:=l.map (vR ku (.sl u))) rfl]
   grind [fF]
  grind
 grind
theorem Tk(z:Value)(n:Nat):(madeCells #[z] n).toList=List.replicate n z:=by
 unfold madeCells;apply List.ext_getElem
 all_goals grind
theorem B5{e:En}{n c:Operand}(p:RX g s.toS a w H γ F)(hd:okD g.nt (some d)=true)(hno:aF n=true)(h:fi e s t (evA s n) (evA s c) (Bk n c) d k) :
  ∃t' y w' γ' F',(Instr.makeSlice t (a.eval n) (a.eval c)).run e.P w=.ok y w'/\k t'/\RX g t'.toS (a.put (some d) y) w' H γ' F':=by
 have f:Bk n c=true->a.eval c=a.eval n:=by
  intro hs;unfold Bk at hs
  grind [ajF]
 have hv:=aH p hno
 rw[aj hno]at hv;unfold fi at h;split at h
 ·rename_i el K hs;split at h
  ·rename_i i J;rw[J]at hv;obtain⟨hi,hw⟩:=nM hv;split at h
   ·rename_i u R;split at h
    ·rename_i hc;simp only[ai9]at hc;obtain⟨⟨h0,h1,h2⟩,h⟩:=h;obtain⟨_,td,_,v,r,_⟩:=aS K (by simp);obtain rfl:=oX r;obtain⟨z,it,C,L,z3,_,z5,Q,G⟩:=FR hc.1.1;have q:(ty e.P el).ok=true:=by
      grind [ty,ajF]
     obtain⟨E,_,D,_,_,T,I,_⟩:=jx q;rw[C]at D;obtain rfl:=Option.some.inj D;have hs1:it.size=1:=by grind [ajF]
     rw[I]at h2;have b:=run_make_row (P:=e.P) t el it z v C L hs1 z3 .i64 .i64 i.toNat h2 kQ1 w
     rw[Int.toNat_of_nonneg h0]at b;have h3:=cU p (.gh d)
     have hn:=fT p
     have j:∀k,Cs (OD w H (k+1)) (List.replicate i.toNat ((fB e.sh el).getD [.fr])).flatten (List.replicate i.toNat [(ao u (dflt u)).toD]).flatten (fun _=>0) (madeCells #[z] i.toNat).toList:=by
      intro k;rw[Tk];generalize i.toNat=N;induction N with
      |zero=>exact fun _=>rfl
      |succ N ih=>
       rw[alB,alB,alB,List.flatten_cons,List.flatten_cons];have hr:=hc.2
       generalize(fB e.sh el).getD [.fr]=sub at hr ih;unfold Qt at hr;split at hr
       ·exact⟨z,_,fun _=>0,fun _=>0,rfl,fun _=>rfl,fO.2 ⟨fun _=>rfl,z5 H⟩,ih⟩
       ·rename_i m u';refine⟨z,_,fun _=>0,fun _=>0,rfl,fun _=>rfl,?_,ih⟩;show OD w H (k+1) (.ow m) (.li []) _ z
        grind [fd]
       grind
     have B:((fB e.sh el).getD [.fr]).length=1:=by
      have hr:=hc.2
      generalize(fB e.sh el).getD [.fr]=sub at hr;unfold Qt at hr
      grind
     obtain⟨γ',F',o,A⟩:=yV h3 (n:=.gh d) rfl (bZ p (.gh d)) (cs:=madeCells #[z] i.toNat) (ty':=el) (len:=i.toNat) (cap:=i.toNat) (sub:=(fB e.sh el).getD [.fr]) (l:=List.replicate i.toNat [(ao u (dflt u)).toD]) (by simp) (ajB _) (by show i.toNat<=2 ^ 62;omega)
      (fun x hx=>by grind) (by grind [size_madeCells]) j
     refine⟨_,_,_,γ',F',by rw[f hs,hi];exact b,h,?_⟩;have M:(List.replicate i.toNat (dflt u)).map (ap u)=List.replicate i.toNat [(ao u (dflt u)).toD]:=by
      rw[List.map_replicate]
      congr 1
      rw[<- bR,kj G];rfl
     have O:((s.fresh (.gh d)).root (.gh d) ⟨false,[.ow ((fB e.sh el).getD [.fr]) u (List.replicate i.toNat (dflt u))],none⟩).toS=(s.toS.fresh (.gh d)).root (.gh d) ⟨false,[.ow ((fB e.sh el).getD [.fr]) (List.replicate i.toNat [(ao u (dflt u)).toD])]⟩:=by
      rw[<- M,<- bx hn];rfl
     rw[<- O]at o;refine bH (aO _ (some d) (.one (.c (.rf ⟨.gh d,0,[]⟩)))) (RX.put o hd (gX (sub:=(fB e.sh el).getD [.fr]) (l:=List.replicate i.toNat [(ao u (dflt u)).toD]) ?_ A))
     grind [S.root,af]
    grind
   grind
  grind
 grind
end
end Go.Am
end

section
namespace Go.Am
variable{sub:List Sh}
section
variable {P:Program} {g:G} {s:S} {a:Act} {w:World} {H:FH} {γ:Gam} {F:Nm->Fp}
theorem LK(h:RX g s a w H γ F){n:Nm}(hno:n.isOut=false)(hn:af s.m n=none){cs:Array Value}{ty':TypeId}{row:List D}{k:Nat}{f:Fp}(hx:row.length=sub.length)(A:cs.size=sub.length)
  (j:Cs (OD w H k) sub row f cs.toList) (hd:∀b,tot F s.m b+f b<=1) (hl:∀b,f b≠0->b<w.heap.size/\(∀o,H b o=none)/\(g.own0 b≠0\/g.w0.heap.size<=b)) :
  ∃γ' F',RX g (s.root n ⟨false,[.ow sub [row]]⟩) a (w.alloc (.cells cs ty')) H γ' F'/\γ' n=.gh (.slice (some ⟨w.heap.size,0,none⟩) 1 1):=by
 obtain⟨hm,hf,r,z⟩:=qA h.mem cs ty' false;simp only[ajC,false_and,if_false]at hm hf r z;have C:RX g s a (w.alloc (.cells cs ty')) H γ F:=jS h hm hf (fun i=>dp r (fun _ _ _ h=>h) (h.t i)) (fun _=>rfl)
 have G:tot F s.m w.heap.size=0:=by
  rcases aj5 (tot F s.m w.heap.size)with h'|h'
  ·exact h'
  have:=h.mem.lt w.heap.size kQ1;omega
 have hfz:f w.heap.size=0:=by
  grind
 have u:∀o,H w.heap.size o=none:=by
  intro o;cases hc:H w.heap.size o with
  |none=>rfl
  |some y=>have:=(h.mem.agree _ _ _ hc).lt;omega
 have q:Cs (OD (w.alloc (.cells cs ty')) H k) sub row f cs.toList:=
  lI _ _ _ _ (fun s x g v E d=>cF (fun _ _ _ h=>h) k k _ _ _ _ (ajB _) (fun b hb=>cP (hl b (by grind)).1) d) j
 have d:TR (w.alloc (.cells cs ty')) H γ s.m (.ow sub [row]) (fun b=>f b+if b=w.heap.size then 1 else 0) (.slice (some ⟨w.heap.size,0,none⟩) 1 1):=by
  refine⟨k+1,yT (l:=[row]) (c:=1) (bw) rfl kQ1 (ajB _) (by show 1<=4611686018427387904;omega) (fun x B=>by grind) ?_⟩
  grind
 have e:(w.alloc (.cells cs ty')).heap.size=w.heap.size+1:=by simp_all
 refine dN C hno hn d (fun b=>?_) (fun b hb=>?_) (fun b hb=>?_)
 ·grind
 ·grind
 by_cases p:b=w.heap.size
 ·subst p;right;exact h.fr.size
 grind
end
theorem DN:∀{ts:List Tt}{i j:Nat}{q:Pl},Ba ts i=some (j,q)->i<=j/\ts[j-i]? = some (.rf q)
 |[],_,_,_,h=>by cases h
 |t::r,i,j,q,h=>by
  have next:Ba r (i+1)=some (j,q)->i<=j/\(t::r)[j-i]? = some (.rf q):=fun h=>by
   obtain⟨h1,h2⟩:=DN h
   grind
  cases t with
  |rf a=>
   grind [Ba]
  |_=>exact next h
theorem IW{n:Nat}{us z:Array Value}(b:us.size=n)(a:z.size=1*n):Instr.fill (fun i=>some (i*n,n)) z [(0,.agg us)]=some us:=by
 have hc:(Value.agg us).cells=us:=rfl
 simp only[Instr.fill,hc];rw[if_neg (by grind)]
 congr 1
 have key:∀(k:Nat)(l:List Value)(z:Array Value),k+l.length<=z.size->((l.zipIdx k).foldl (fun cs(x:Value×Nat)=>cs.setIfInBounds (0*n+x.2) x.1) z).toList=z.toList.take k++l++z.toList.drop (k+l.length):=by
  intro k l;induction l generalizing k with
  |nil=>simp_all
  |cons x l ih=>
   intro z hk;simp only[ajK]at hk;simp only[List.zipIdx_cons,alI];rw[ih (k+1) _ (by grind)];simp only[Nat.zero_mul,akX,Array.toList_setIfInBounds];rw[List.take_set,List.drop_set_of_lt kQ1]
   grind [List.take_add_one,ajK]
 apply Array.ext'
 have e:us.zipIdx.foldl (fun cs(x:Value×Nat)=>cs.setIfInBounds (0*n+x.2) x.1) z=(us.toList.zipIdx 0).foldl (fun cs(x:Value×Nat)=>cs.setIfInBounds (0*n+x.2) x.1) z:=by
  grind [Array.toList_zipIdx]
 grind
section
variable {P:Program} {g:G} {s:St} {a:Act} {w:World} {H:FH} {γ:Gam} {F:Nm->Fp} {k:St->Prop}
theorem xJ{E:Ut}{sub:List Sh}{t:TypeId}{len:Nat}{ps:Array (Nat×Operand)}{d:Tmp}(M:RX g s.toS a w H γ F)(hd:okD g.nt (some d)=true)(L:(ps.toList.all fun x=>aF x.2)=true)(h:dx P E sub s t len ps d k) :
  ∃t' y w' γ' F',(Instr.buildSlice t len (ps.map fun(i,x)=>(i,a.eval x))).run P w=.ok y w'/\k t'/\RX g t'.toS (a.put (some d) y) w' H γ' F':=by
 unfold dx at h;split at h
 ·rename_i e ht;split at h
  ·rename_i u z ts he hz hp;split at h
   ·rename_i j q hj;split at h
    ·rename_i al ao u' l2 ae ar;split at h
     ·rename_i s1 ai l' hb;split at h
      ·rename_i l hc hl;simp only[ai9]at hc;obtain⟨⟨⟨⟨⟨⟨c1,c2⟩,c3⟩,c4⟩,c5⟩,c6⟩,c7,c8,c9⟩:=hc;have ax:=ajF c2
       obtain rfl:=ajF c4;have ak:=ajF c5
       have an:=ajF c6
       obtain rfl:=kp c7;obtain⟨pl⟩:=ps;have p:pl.map (fun x=>(x.1,evA s x.2))=[(0,.one (.agg ts))]:=hp
       match pl,p,L with
       |[],p,_=>cases p
       |_::_::_,p,_=>grind
       |[(i,x)],p,L=>
       simp only[List.map_cons,List.map_nil,List.cons.injEq,Prod.mk.injEq,and_true]at p;obtain⟨rfl,hx⟩:=p;have hop:aF x=true:=by grind
       have hv:=aH M hop
       rw[aj hop,hx]at hv;obtain⟨cs,A,G,r⟩:=hv;have G:cs.size=ts.length:=by grind
       obtain⟨_,B⟩:=DN hj;rw[Nat.sub_zero]at B;have au:j<ts.length:=(akH.1 B).1
       have W:(ts.map Tt.toT)[j]? = some (.rf q):=by rw[ajD,B];rfl
       obtain⟨_,v,gv,_,T,K,am⟩:=sg r W;have R:AR w H γ s.toS.m (.one (.c (.rf q))) v:=⟨fun _=>rfl,K.2⟩
       have ad:=fT M
       obtain⟨b1,b2,_⟩:=mT (size:=nc u') rfl ad (fun q' X=>by
        cases X;exact pY K.2.1) hb
       obtain⟨kb,f,F1,k1,k2,k3,k4,k5⟩:=mU M R b1;have hfz:=vb c9
       obtain⟨_,_,_,fk,fr,_,_,_,a4,_,a6,_⟩:=cT _ _ _ _ j r kQ1;have aa:Ts (TR w H γ s.toS.m) ((ts.set j .nil).map Tt.toT) (fun _=>0) (cs.toList.set j (.slice none 0 0)):=by
        have:=a6 (fun _=>TR w H γ s.toS.m) .nil (.slice none 0 0) (fun _=>0) (fun _ _ _ _ _ h=>h) ⟨fun _=>rfl,rfl⟩
        unfold Ts;rw[ajH,akS];rw[ajH]at this;rw[ajZ];exact o8 (fun b=>by grind) this
       have hC:=D6 (k:=kb) (fun _=>rfl) hfz aa
       obtain⟨sj,_,_,aw,ag,d1,_,_,d4,_,d6,_⟩:=cT _ _ _ _ j hC (by grind);rw[ae]at d1;obtain rfl:=Option.some.inj d1;have D:=d6 (OD w H (kb+1)) (.li (l'.map (ap u'))) v f (fun _ _ _ _ _ h=>h) (cF (fun _ _ _ h=>h) kb (kb+1) _ _ _ _ (aj2 _) (fun _ _=>rfl) k1)
       rw[akY,show cs.toList.set j v=cs.toList from qk T]at D;have o:=om hl
       simp only[List.map_cons,List.map_nil]at o
       match l,hl,o,h with
       |[],_,o,_=>grind
       |_::_::_,_,o,_=>grind
       |[y],hl,o,h=>
       simp only[List.map_cons,List.map_nil,List.cons.injEq,and_true]at o;have e1:((ts.set j .nil).map fun t=>t.toT.fz).set j (.li (l'.map (ap u')))=ap u y:=by
        rw[<- o,ajZ,akY,ajZ];rfl
       rw[e1]at D;have ah:=cU k2 (.gh d)
       have ac:∀b,tot F1 (s1.toS.fresh (.gh d)).m b<=tot F1 s1.toS.m b:=by
        intro b;unfold S.fresh;split
        ·omega
        show tot F1 (aJ _ _) b<=_
        rw[bh];exact gi
       obtain⟨_,td,_,Q,O,_⟩:=aS ht (by simp);obtain rfl:=oX O;obtain⟨N,de,I,_,_,Y,_,_⟩:=jx c1;obtain⟨U,z0,ab,V,_,_⟩:=kw hz;rw[I]at ab;obtain rfl:N=U:=by grind
       have av:N.size=nc u:=by omega
       obtain⟨us,aq,r1,r2,r3⟩:=jL (P:=P) (w:=w) (t:=t) (len:=1) (vs:=#[(0,a.eval x)]) (cells:=#[]) Q I V (by grind [ajG]) (fun us hus=>by
        refine⟨cs,?_,by omega,.inr trivial⟩;rw[A];exact IW kQ1 hus)
       have C:Instr.fill (fun i=>some (i*N.size,N.size)) us #[(0,a.eval x)].toList=some cs:=by
        rw[A];exact IW kQ1 r1
       rw[C]at r2;obtain rfl:=Option.some.inj r2;obtain⟨γ',F',J,Z⟩:=LK (ty':=e) ah (n:=.gh d) rfl (bZ k2 (.gh d)) (by grind) kQ1 (o8 (f:=fun b=>f b+ag b) (g:=f) (fun b=>by grind) D)
        (fun b=>by have h1:=ac b;have h2:=k4 b;have h3:=M.mem.le1 b;omega) k5
       have e2:((s1.fresh (.gh d)).root (.gh d) ⟨false,[.ow sub u [y]],none⟩).toS=(s1.toS.fresh (.gh d)).root (.gh d) ⟨false,[.ow sub [ap u y]]⟩:=by
        rw[<- bx b2];rfl
       rw[<- e2]at J;refine⟨_,_,_,γ',F',by rw[show(Array.map (fun(x:Nat×Operand)=>(x.1,a.eval x.2)) ⟨[(0,x)]⟩)=#[(0,a.eval x)]from by simp];exact r3,h,?_⟩;refine bH (aO _ (some d) (.one (.c (.rf ⟨.gh d,0,[]⟩)))) (RX.put J hd (gX (sub:=sub) (l:=[ap u y]) ?_ Z))
       grind [S.root,af]
      grind
     grind
    grind
   grind
  grind
 grind
theorem Cj{α β:Type}{R:α->β->Fp->Value->Prop}:∀(a:List α)(c:List β){b:List α}{d:List β}{f:Fp}{vs:List Value},a.length=c.length->Cs R (a++b) (c++d) f vs->∃f':Fp,Cs R a c f' vs/\∀x,f' x<=f x
 |[],[],_,_,_,_,_,_=>⟨fun _=>0,fun _=>rfl,fun _=>aj0 _⟩
 |x::a,y::c,b,d,f,vs,hl,h=>by
  obtain⟨v,r,f1,e,h1,h2,h3,h4⟩:=h;obtain⟨f',k1,k2⟩:=Cj a c (by grind) h4;exact⟨fun q=>f1 q+f' q,⟨v,r,f1,f',h1,fun _=>rfl,h3,k1⟩,fun q=>by grind⟩
 |[],_::_,_,_,_,_,hl,_=>by grind
 |_::_,[],_,_,_,_,hl,_=>by grind
theorem Y8{k:Nat}{l:List (List D)}{f:Fp}{v:Value}{m:Nat}(hm:m<=l.length)(h:OD w H k (.ow sub) (.li l) f v) :
  ∃ad c,v=.slice ad l.length c/\l.length<=c/\(∀b,ad=some b->b=⟨b.block,0,none⟩)/\∃f':Fp,OD w H k (.ow sub) (.li (l.take m)) f' (.slice ad m c)/\∀x,f' x<=f x:=by
 cases k with
 |zero=>simp[OD]at h
 |succ k=>
 rw[fd]at h;rcases h with⟨rfl,rfl,h0⟩|⟨b,c,cs,ty,fr,g',h1,h2,h3,h4,h5,h6,h7,h8,h9⟩
 ·obtain rfl:m=0:=by grind
  exact⟨none,0,rfl,ajB _,(fun b hb=>by cases hb),f,fd.2 (.inl ⟨rfl,rfl,h0⟩),fun _=>ajB _⟩
 subst h1;have e:(List.replicate l.length sub).flatten=(List.replicate m sub).flatten++(List.replicate (l.length-m) sub).flatten:=by
  grind [List.replicate_append_replicate]
 have i:l.flatten=(l.take m).flatten++(l.drop m).flatten:=by grind [akN]
 have a:(l.take m).length=m:=by grind
 have d:∀x∈l.take m,x.length=sub.length:=fun x hx=>h7 x (List.mem_of_mem_take hx)
 rw[e,i]at h8;obtain⟨f',k1,k2⟩:=Cj _ _ (by rw[cM _ _ d,a];simp) h8;refine⟨_,c,rfl,h5,fun b' hb=>by grind,fun x=>f' x+if x=b then 1 else 0,fd.2 (.inr ⟨b,c,cs,ty,fr,f',by rw[a],h2,h3,h4,by omega,by omega,d,by grind,fun _=>rfl⟩),fun x=>by grind⟩
theorem KM{e:En}{t:TypeId}{x hi:Operand}{d:Tmp}(r:RX g s.toS a w H γ F)(hd:okD g.nt (some d)=true)(hx:aF x=true)(j:aF hi=true)(h:nC e s t x hi d k) :
  ∃t' y γ' F',(∀w:World,(Instr.sliceAt t (a.eval x) none (some (a.eval hi)) none).run e.P w=.ok y w)/\k t'/\RX g t'.toS (a.put (some d) y) w H γ' F':=by
 unfold nC at h;split at h
 ·rename_i el O;split at h
  ·rename_i q n E C;split at h
   ·rename_i u0 U _;split at h
    ·rename_i s1 sub l z hb;obtain⟨⟨N,M⟩,h⟩:=h;have hy:=aH r hx
     have hn:=aH r j
     rw[aj hx,E]at hy;rw[aj j,C]at hn;obtain⟨b1,b2,_⟩:=mT (size:=nc u0) rfl (fT r) (fun V D=>by
      cases D;exact pY hy.2.1) hb
     obtain⟨kb,f,F1,k1,k2,k3,k4,k5⟩:=mU r hy b1;obtain⟨ad,c,hv,hc,L,f',T,q2⟩:=Y8 (m:=n.toNat) (by grind) k1;rw[ajH]at hv hc;obtain⟨_,td,_,p,A,_⟩:=aS O (by simp);obtain rfl:=oX A;obtain⟨i,R,I,_⟩:=jx z;obtain⟨a',b',⟨rfl,rfl,_⟩,B⟩:=kI (P:=e.P) (isS:=true) (len:=l.length) (cap:=c) (vlo:=none) (lo:=none) (k:=fun a b=>a=0/\b=n.toNat/\b<=l.length) trivial (show QR w H γ s.toS.m (some (At.one (.c (.d (.i .i64 n)))).toV) (some (a.eval hi))from hn) hc (show g8 none 0 _ from⟨N,rfl,rfl,M⟩) (fun a b h=>by omega);have u:∀w:World,(Instr.sliceAt t (a.eval x) none (some (a.eval hi)) none).run e.P w=.ok (.slice ad n.toNat c) w:=by
      intro w;rw[hv];simp only[Instr.sliceAt,Sem.run_bind,run_underlying p,Result.andThen_ok];simp only[Instr.slice,Sem.run_bind,run_underlying p,Result.andThen_ok,B,cq I,Sem.run_pure]
      congr 2
      cases ad<;>grind [eH]
     have K:=cU k2 (.gh d)
     have J:∀b,tot F1 (s1.toS.fresh (.gh d)).m b<=tot F1 s1.toS.m b:=by
      intro b;unfold S.fresh;split
      ·omega
      show tot F1 (aJ _ _) b<=_
      rw[bh];exact gi
     obtain⟨γ',F',o,G⟩:=dN K (n:=.gh d) rfl (bZ k2 (.gh d)) (v:=.slice ad n.toNat c) (t:=.ow sub ((l.take n.toNat).map (ap u0))) (f:=f') ⟨kb,by grind [ak0]⟩
      (fun b=>by have h1:=J b;have h2:=k4 b;have h3:=r.mem.le1 b;grind) (fun b hb=>by grind) (fun b hb=>(k5 b (by grind)).2.2)
     have Q:((s1.fresh (.gh d)).root (.gh d) ⟨false,[.ow sub u0 (l.take n.toNat)],none⟩).toS=⟨(s1.toS.fresh (.gh d)).t,(.gh d,⟨false,[.ow sub ((l.take n.toNat).map (ap u0))]⟩)::(s1.toS.fresh (.gh d)).m⟩:=by
      rw[<- bx b2];rfl
     rw[<- Q]at o;refine⟨_,_,γ',F',u,h,?_⟩;refine bH (aO _ (some d) (.one (.c (.rf ⟨.gh d,0,[]⟩)))) (RX.put o hd (gX (sub:=sub) (l:=(l.take n.toNat).map (ap u0)) ?_ G))
     grind [af]
    grind
   grind
  grind
 grind
end
end Go.Am
end
