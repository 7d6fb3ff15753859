/-
  Part 14: AmE3m · AmE3n.
-/
import Derived.Test.YtgpedlcblhiklaaGreatDoorSo13
import Derived.Deep.OwnRows
set_option linter.unusedSimpArgs false
set_option linter.unusedVariables false
set_option linter.unusedSectionVars false
set_option linter.unnecessarySimpa false
section
namespace Go.Am
open Go.MapKept
variable{β:Type}
def BD(ku:U)(g:β->Sh×D)(x:El ku×β):D×Sh×D:=((am ku x.1).toD,g x.2)
abbrev vE(ku vu:U):El ku×El vu->D×Sh×D:=BD ku fun v=>(.fr,(am vu v).toD)
abbrev uE(u:U)(l:List (El u)):Sh×D:=(.ow (List.replicate (nc u) .fr),.li (l.map (ap u)))
variable{ku:U}{t:TypeId}
theorem qt{P:Program}(h:jl P t ku=true)(a b:El ku):mz (am ku a).toD (am ku b).toD=ua ku a b:=by
 cases ku with
 |i k=>show(decide (k=k)&&decide (a=b))=decide (a=b);simp
 |bo=>rfl
 |s=>rfl
 |_=>cases h
theorem fU{P:Program}(h:jl P t ku=true)(a:El ku):jv (ty P t).k (am ku a).toD=true:=by
 cases ku with
 |i k=>
  have h:decide ((ty P t).k=.int k)=true:=h
  rw[of_decide_eq_true h];show decide (k=k)=true;simp
 |bo=>
  have h:decide ((ty P t).k=.bool)=true:=h
  rw[of_decide_eq_true h];rfl
 |s=>
  have h:decide ((ty P t).k=.str)=true:=h
  rw[of_decide_eq_true h];rfl
 |_=>cases h
theorem mJ{P:Program}(h:jl P t ku=true):(ty P t).k≠.ot:=by
 intro e;cases ku<;>first|grind [jl]|cases h
theorem m9{P:Program}(h:jl P t ku=true)(g:β->Sh×D)(l:List (El ku×β)):((l.map (BD ku g)).all fun x=>jv (ty P t).k x.1)=true:=by
 rw[List.all_map];exact agH.2 fun x _=>fU h x.1
theorem ug{P:Program}(h:jl P t ku=true)(g:β->Sh×D)(k:El ku):∀l:List (El ku×β),oA (l.map (BD ku g)) (am ku k).toD=(aP ku l k).map g
 |[]=>rfl
 |x::l=>by
  simp only[af3,oA,aP,BD,qt h];cases ua ku x.1 k with
  |true=>rfl
  |false=>exact ug h g k l
theorem ED{P:Program}(h:jl P t ku=true)(g:β->Sh×D)(k:El ku)(v:β):∀l:List (El ku×β),ju (l.map (BD ku g)) (am ku k).toD (g v)=(cT ku l k v).map (BD ku g)
 |[]=>rfl
 |x::l=>by
  have ih:=ED h g k v l
  simp only[af3,ju,cT,BD,qt h];cases ua ku x.1 k with
  |true=>rfl
  |false=>simp only[af3];rw[<- ih];rfl
theorem OW{P:Program}(h:jl P t ku=true)(g:β->Sh×D)(k:El ku):∀l:List (El ku×β),Er (l.map (BD ku g)) (am ku k).toD=(Q1 ku l k).map (BD ku g)
 |[]=>rfl
 |x::l=>by
  have ih:=OW h g k l
  simp only[af3,Er,Q1,BD,qt h];cases ua ku x.1 k with
  |true=>rfl
  |false=>simp only[af3];rw[<- ih];rfl
theorem O7{k:D}(hk:mz k k=true)(a b:Sh×D):∀l:List (D×Sh×D),ju (ju l k a) k b=ju l k b
 |[]=>by grind [ju]
 |x::l=>by
  simp only[ju];cases h:mz x.1 k with
  |true=>grind [ju]
  |false=>simp only[ju,h,O7 hk a b l]
theorem YW{k:D}(hk:mz k k=true)(b:Sh×D)(l:List (D×Sh×D)):ju (Bz l k) k b=ju l k b:=by
 grind [Bz,O7]
theorem OL{κ:TK}{k:D}(hk:jv κ k=true)(v:Sh×D):∀{l:List (D×Sh×D)},(l.all fun x=>jv κ x.1)=true->((ju l k v).all fun x=>jv κ x.1)=true
 |[],_=>by simp[ju,hk]
 |x::l,h=>by
  simp only[agF,afZ]at h;simp only[ju];split
  ·grind
  ·simp only[agF,h.1,OL hk v h.2,Bool.and_self]
variable{l:List (D×Sh×D)}
theorem XX{κ:TK}{k:D}(hk:jv κ k=true)(h:(l.all fun x=>jv κ x.1)=true):((Bz l k).all fun x=>jv κ x.1)=true:=by
 grind [Bz,OL]
variable{u:U}
theorem FJ{P:Program}(h:zOK P t u=true):∃z it,P.info? t=some it/\it.zero=some z/\z.cells=#[z]/\(∀w,(zeroValue t).run P w=.ok z w)/\(∀H,FDx H (am u (dflt u)).toD z)/\(∀v,u=.sl v->z=.slice none 0 0)/\leaf u=true:=by
 unfold zOK at h;have run:∀{z:Value},(P.info? t).bind (·.zero)=some z->∃it,P.info? t=some it/\it.zero=some z/\∀w,(zeroValue t).run P w=.ok z w:=by
  simp_all[agK,zeroValue,typeInfo]
 split at h
 ·rename_i k n k' hz;obtain⟨it,h1,h2,h3⟩:=run hz;simp only[afZ,decide_eq_true_eq]at h;obtain⟨⟨rfl,rfl⟩,_⟩:=h;exact⟨_,it,h1,h2,rfl,h3,fun H=>⟨0,rfl,by cases k<;>decide⟩,(fun _ e=>by cases e),rfl⟩
 ·rename_i b hz;obtain⟨it,h1,h2,h3⟩:=run hz;cases b with
  |true=>cases h
  |false=>exact⟨_,it,h1,h2,rfl,h3,fun H=>⟨0,rfl⟩,(fun _ e=>by cases e),rfl⟩
 ·rename_i str hz;obtain⟨it,h1,h2,h3⟩:=run hz;refine⟨_,it,h1,h2,rfl,h3,fun H=>⟨0,?_,agW _⟩,(fun _ e=>by cases e),rfl⟩;obtain⟨⟨l⟩⟩:=str;cases l with
  |nil=>rfl
  |cons x l=>simp at h
 ·rename_i u hz;obtain⟨it,h1,h2,h3⟩:=run hz;exact⟨_,it,h1,h2,rfl,h3,fun H=>kX,fun _ _=>rfl,rfl⟩
 ·rename_i ku vu hz;obtain⟨it,h1,h2,h3⟩:=run hz;exact⟨_,it,h1,h2,rfl,h3,fun H=>⟨0,rfl⟩,(fun _ e=>by cases e),rfl⟩
 grind
variable{d:Tmp}{key x:At}{kv vv y:Value}{n:Nm}
section
variable {P:Program} {g:G} {a:Act} {w:World} {H:FH} {γ:Gam} {F:Nm->Fp} {s:St} {k k':St->Prop}
theorem ET{E:Ut}{own:Bool}(hk:∀s',Ext s s'->k s'->k' s')(h:jj P E own s t d k):jj P E own s t d k':=by
 unfold jj at h⊢
 (repeat' split at h)<;>first|exact h.elim|exact hk _ (((bT _ _).trans (dh _ _ _)).trans (aA _ _ _)) h
theorem EU{m:List (Nm×Nat×Rt)}{ok:Bool}{k k':At->Prop}(hk:∀v,k v->k' v)(h:qA P m t x key ok k):qA P m t x key ok k':=by
 unfold qA at h⊢
 (repeat' split at h)<;>first|exact h.elim|grind
theorem JF{v:At}(hk:∀s',Ext s s'->k s'->k' s')(h:qD P s t x key v k):qD P s t x key v k':=by
 unfold qD at h⊢
 (repeat' split at h)<;>first|exact h.elim|exact hk _ ⟨agU _,fun _ _ _ h _=>h,dw _ _ (af2 _) _⟩ h
theorem JB(hk:∀s',Ext s s'->k s'->k' s')(h:qy P s t x key k):qy P s t x key k':=by
 unfold qy at h⊢
 (repeat' split at h)<;>first|exact h.elim|exact hk _ ⟨agU _,fun _ _ _ h _=>h,dw _ _ (af2 _) _⟩ h
theorem s6(s:St)(n:Nm)(r:Rt):Ext s ⟨s.nx+1,s.t,eA s.m n s.nx r⟩:=⟨agU _,fun _ _ _ h _=>h,dw _ _ (af2 _) _⟩
theorem EV{x key:Operand}(hk:∀s',Ext s s'->k s'->k' s')(h:mH P s t x key d k):mH P s t x key d k':=by
 unfold mH at h⊢;dsimp only at h⊢
 (repeat' split at h)<;>first|exact h.elim|exact hk _ ((((bT _ _).trans (s6 _ _ _)).trans (dh _ _ _)).trans (aA _ _ _)) h
theorem JE{v:At}(hk:∀s',Ext s s'->k s'->k' s')(h:qC P s t x key v k):qC P s t x key v k':=by
 unfold qC at h⊢;dsimp only at h⊢
 (repeat' split at h)<;>first|exact h.elim|exact⟨h.1,hk _ ((s5 _ _).trans (s6 _ _ _)) h.2⟩
theorem JC{x:Operand}(hk:∀s',Ext s s'->k s'->k' s')(h:qz s x d k):qz s x d k':=by
 unfold qz at h⊢
 (repeat' split at h)<;>first|exact h.elim|exact hk _ ((s6 _ _ _).trans (aA _ _ _)) h
theorem Av{e:En}{n c:At}{b:Bool}(hk:∀s',Ext s s'->k s'->k' s')(h:iM e s t n c b d k):iM e s t n c b d k':=by
 unfold iM at h⊢
 (repeat' split at h)<;>first|exact h.elim|exact⟨h.1,hk _ (((bT _ _).trans (dh _ _ _)).trans (aA _ _ _)) h.2⟩
theorem JA{E:Ut}{own:Bool}(hX:RX g s.toS a w H γ F)(hd:okD g.nt (some d)=true)(h:jj P E own s t d k){r:Option Value}(hr:∀v,r=some v->∃κ n,v=.int κ n) :
  ∃t' y w' γ' F',(Instr.makeMap t r).run P w=.ok y w'/\k t'/\RX g t'.toS (a.put (some d) y) w' H γ' F':=by
 have o:∀{kt et:TypeId}{c:Tt},(ty P t).k=.mp kt et->c.toT=.mp []->k (((s.fresh (.gh d)).root (.gh d) ⟨false,[c],none⟩).put (some d) (.one (.c (.rf ⟨.gh d,0,[]⟩))))->∃t' y w' γ' F',(Instr.makeMap t r).run P w=.ok y w'/\k t'/\RX g t'.toS (a.put (some d) y) w' H γ' F':=by
  intro kt et c f hc hk;obtain⟨_,td,_,p,i,_⟩:=aV f (by simp);obtain rfl:=rE i;have hn:=gD hX
  have h1:=cR hX (.gh d)
  obtain⟨γ',F',h2,j⟩:=P6 h1 (n:=.gh d) rfl (cv hX (.gh d));have b:(Instr.makeMap t r).run P w=.ok (.map (some w.heap.size)) (w.alloc (.map #[] 0)):=by
   cases r with
   |none=>rfl
   |some v=>
    obtain⟨κ,n,rfl⟩:=hr v rfl
    simp_all[Instr.makeMap,run_underlying,asInt,asIntOf]
  refine⟨_,_,_,γ',F',b,hk,?_⟩;have e:((s.fresh (.gh d)).root (.gh d) ⟨false,[c],none⟩).toS=⟨(s.toS.fresh (.gh d)).t,(.gh d,⟨false,[.mp []]⟩)::(s.toS.fresh (.gh d)).m⟩:=by
   rw[<- bw hn];show(⟨_,(Nm.gh d,(⟨false,[c.toT]⟩:Root))::_⟩:S)=_
   rw[hc];rfl
  rw[<- e]at h2;refine bj (aI _ (some d) (.one (.c (.rf ⟨.gh d,0,[]⟩)))) (h2.put hd ?_);exact uY (l:=[]) (by grind [ae]) j
 unfold jj at h;split at h
 ·rename_i kt et f;split at h
  ·exact o f rfl h
  ·exact o f rfl h
  grind
 grind
theorem qx{p:Pl}{vu:U}{l:List (El ku×El vu)}(h:vX s.m p=some ⟨ku,vu,l⟩):∃n,p=⟨n,0,[]⟩/\ae s.toS.m n=some ⟨false,[.mp (l.map (vE ku vu))]⟩:=by
 unfold vX at h;split at h
 ·rename_i n;split at h
  ·rename_i hr;cases h;exact⟨n,rfl,br hr⟩
  grind
 grind
theorem vW{l:List (El ku×List (El u))}{o:Option (El ku)}(h:vV s.m n=some ⟨ku,u,l,o⟩):ae s.toS.m n=some ⟨false,[.mp (moD ku u l o)]⟩:=by
 unfold vV at h;split at h
 ·rename_i hr;cases h;exact br hr
 grind
theorem sM(hX:RX g s.toS a w H γ F)(hr:ae s.toS.m n=some ⟨false,[.mp l]⟩)(hy:AR w H γ s.toS.m (.one (.c (.rf ⟨n,0,[]⟩))) y) :
  ∃b es ck,∃f:Fp,y=.map (some b)/\γ n=.gh (.map (some b))/\w.heap[b]? = some (.map es ck)/\Stamped es ck/\MpO w H l es.toList f/\(∀c,F n c=f c+if c=b then 1 else 0)/\f b=0:=by
 obtain⟨b,es,ck,f,d,c2,c3,c4,c5,e⟩:=Wl hX.mem hr;obtain⟨_,_,hv⟩:=hy;refine⟨b,es,ck,f,?_,d,c2,c3,c4,c5,e⟩;unfold plV at hv;dsimp only at hv;rw[d]at hv;exact(Option.some.inj hv).symm
theorem AC{P:Program}(h:jl P t u=true):leaf u=true:=by cases u<;>first|rfl|cases h
theorem MR{ok:Bool}{k:At->Prop}(hX:RX g s.toS a w H γ F)(hy:AR w H γ s.toS.m x.toV y)(j:AR w H γ s.toS.m key.toV kv)(h:qA P s.m t x key ok k) :
  ∃z v,(Instr.lookup t y kv ok).run P w=.ok z w/\AR w H γ s.toS.m v.toV z/\k v:=by
 unfold qA at h;split at h
 ·rename_i kt et E;split at h
  ·rename_i p c;split at h
   ·rename_i ku vu l K;split at h
    ·rename_i kx hc hk;simp only[afZ]at hc;obtain⟨_,td,_,A,q,_⟩:=aV E (by simp);obtain rfl:=rE q;obtain⟨_,G,_,i,C,_⟩:=aV rfl (mJ hc.1);obtain⟨n,rfl,hr⟩:=qx K;obtain⟨b,es,ck,f,rfl,_,c2,c3,c4,_⟩:=sM hX hr hy;obtain⟨z,_,_,_,_,u,D,_,I⟩:=FJ hc.2;have d:FDx H (am ku kx).toD kv:=by rw[dS hk]at j;exact j.2
     obtain⟨v,r,B⟩:=sN (P:=P) A i c2 c4 (by grind [m9]) (by grind [fU]) d (u w) ok;rw[ug hc.1]at r B;have hv:FDx H (am vu ((aP ku l kx).getD (dflt vu))).toD v:=by
      cases hl:aP ku l kx<;>grind [fK]
     refine⟨_,_,r,?_,h⟩;unfold WV;cases ok with
     |true=>exact⟨_,rfl,⟨fun _=>rfl,hv⟩,⟨fun _=>rfl,0,by rw[Option.isSome_map];rfl⟩,trivial⟩
     |false=>exact⟨fun _=>rfl,hv⟩
    grind
   grind
  ·rename_i ku vu z c;split at h
   ·rename_i kx hc hk;simp only[afZ]at hc;obtain⟨_,td,_,A,q,_⟩:=aV E (by simp);obtain rfl:=rE q;obtain⟨_,G,_,i,C,_⟩:=aV rfl (mJ hc.1);obtain⟨J,_,_,_,_,u,D,_,I⟩:=FJ hc.2.1;have d:FDx H (am ku kx).toD kv:=by rw[dS hk]at j;exact j.2
    have o:jv (fX P G) (am ku kx).toD=true:=by grind [fU]
    have hd:FDx H (.mp (z.map fun l=>l.map fun x=>((ap ku x.1).headD .any,(ap vu x.2).headD .any))) y:=hy.2
    cases z with
    |none=>
     obtain⟨b,rfl⟩:=Lb hd;have hb:b=none:=by
      obtain⟨m,hd⟩:=hd;have hd:Value.map b=.map none:=by cases m<;>exact hd
      grind
     subst hb;refine⟨_,_,Bb A i o d (u w) ok,?_,h⟩;have hv:FDx H (am vu (dflt vu)).toD J:=D H
     unfold WV;cases ok with
     |true=>exact⟨_,rfl,⟨fun _=>rfl,hv⟩,⟨fun _=>rfl,0,rfl⟩,trivial⟩
     |false=>exact⟨fun _=>rfl,hv⟩
    |some l=>
     have el:(l.map fun x=>((ap ku x.1).headD .any,(ap vu x.2).headD .any))=l.map fun x=>((am ku x.1).toD,(am vu x.2).toD):=agJ fun x _=>by grind [o4,AC]
     have hd:FDx H (.mp (some (l.map fun x=>((ap ku x.1).headD .any,(ap vu x.2).headD .any)))) y:=hd
     rw[el]at hd;obtain⟨b,es,ck,rfl,c2,_,c4⟩:=Tr hX.mem.agree (fun e he=>by
      obtain⟨x,_,rfl⟩:=agL.1 he;exact nI (fU hc.1 x.1)) hd
     rw[ag6]at c4;have c4:MpO w H (l.map (vE ku vu)) es.toList (fun _=>0):=c4
     obtain⟨v,r,B⟩:=sN (P:=P) A i c2 c4 (by grind [m9]) o d (u w) ok;rw[ug hc.1]at r B;have hv:FDx H (am vu ((aP ku l kx).getD (dflt vu))).toD v:=by
      cases hl:aP ku l kx<;>grind [fK]
     refine⟨_,_,r,?_,h⟩;unfold WV;cases ok with
     |true=>exact⟨_,rfl,⟨fun _=>rfl,hv⟩,⟨fun _=>rfl,0,by rw[Option.isSome_map];rfl⟩,trivial⟩
     |false=>exact⟨fun _=>rfl,hv⟩
   grind
  grind
 grind
theorem QV{vu:U}{tv:Tt}{a:El vu}(hl:leaf vu=true)(h:nk vu [tv]=some a){m:Mm}(hy:TR w H γ m tv.toT (fun _=>0) y):FDx H (am vu a).toD y:=by
 have h1:BB vu tv=some a:=by cases vu<;>first|exact h|cases hl
 unfold BB at h1;split at h1
 ·split at h1
  ·simp only[af0]at h1;subst h1;exact hy.2
  grind
 ·rw[dS h1]at hy;exact hy.2
 ·split at h1
  ·simp only[af0]at h1;subst h1;obtain⟨_,rfl⟩:=hy;exact kX
  grind
 grind
theorem mS{s:St}{c:Tt}(hc:c.toT=.mp l):(⟨s.nx+1,s.t,eA s.m n s.nx ⟨false,[c],none⟩⟩:St).toS=⟨s.toS.t,cE s.toS.m n ⟨false,[.mp l]⟩⟩:=by
 refine bV.S_ext rfl ?_;show toM (eA s.m n s.nx _)=_
 rw[fj]
 congr 1
 show(⟨false,[c.toT]⟩:Root)=_
 rw[hc]
theorem MU{v:At}(hX:RX g s.toS a w H γ F)(hy:AR w H γ s.toS.m x.toV y)(d:AR w H γ s.toS.m key.toV kv)(q:AR w H γ s.toS.m v.toV vv)(h:qD P s t x key v k) :
  ∃t' w' F',(Instr.mapUpdate t y kv vv).run P w=.ok () w'/\k t'/\RX g t'.toS a w' H γ F':=by
 unfold qD at h;split at h
 ·rename_i kt et J;split at h
  ·rename_i p c tv;split at h
   ·rename_i ku vu l K;split at h
    ·rename_i kx j hc hk r;simp only[afZ]at hc;obtain⟨_,td,_,E,u,_⟩:=aV J (by simp);obtain rfl:=rE u;obtain⟨_,N,_,o,I,_⟩:=aV rfl (mJ hc.1);obtain⟨n,rfl,hr⟩:=qx K;obtain⟨b,es,ck,f,rfl,A,c2,c3,c4,c5,B⟩:=sM hX hr hy;have i:FDx H (am ku kx).toD kv:=by rw[dS hk]at d;exact d.2
     have e:FDx H (am vu j).toD vv:=QV hc.2 r q
     obtain⟨es',ck',L,M,G,D,z⟩:=Be (P:=P) E o c2 c3 c4 B (by grind [m9]) (by grind [fU]) i (v:=(.fr,(am vu j).toD)) (n:=0) (fv:=fun _=>0) rfl (fK.2 ⟨fun _=>rfl,e⟩);rw[ED hc.1 (fun v=>(.fr,(am vu v).toD))]at z;have C:∀c,F n c<=tot F s.toS.m c:=fun c=>bR (F:=F) (aj hr) c
     have:=vd hX hr A c2 c5 G z (fun c=>by have:=D c;have:=hX.mem.le1 c;omega) (fun c hc=>by
      have h3:tot F s.toS.m c≠0:=by grind
      exact⟨hX.mem.lt c h3,hX.mem.nofz c h3,hX.fr.tt c h3⟩)
     rw[<- mS (s:=s) (c:=.mp ku vu (cT ku l kx j)) (l:=(cT ku l kx j).map (vE ku vu)) rfl]at this
     grind
    grind
   grind
  grind
 grind
theorem MP{tt:TypeId}{ts:List TypeId}(hX:RX g s.toS a w H γ F)(hy:AR w H γ s.toS.m x.toV y)(e:AR w H γ s.toS.m key.toV kv)(h:qy P s t x key k) :
  ∃t' w' F',(Builtin.delete_ (t::ts).toArray tt #[y,kv]).run P w=.ok (.tuple #[]) w'/\k t'/\RX g t'.toS a w' H γ F':=by
 unfold qy at h;split at h
 ·rename_i kt et A;split at h
  ·rename_i p c;split at h
   ·rename_i ku vu l C;split at h
    ·rename_i kx hc hk;obtain⟨_,td,_,B,i,_⟩:=aV A (by simp);obtain rfl:=rE i;obtain⟨_,I,_,j,D,_⟩:=aV rfl (mJ hc);obtain⟨n,rfl,hr⟩:=qx C;obtain⟨b,es,ck,f,rfl,q,c2,c3,c4,c5,r⟩:=sM hX hr hy;have d:FDx H (am ku kx).toD kv:=by rw[dS hk]at e;exact e.2
     obtain⟨es',G,E,u,v,o⟩:=Nu (P:=P) (ty:=tt) B j c2 c3 c4 r (by grind [m9]) (by grind [fU]) d (t::ts).toArray (by simp);rw[OW hc]at o;have z:∀c,F n c<=tot F s.toS.m c:=fun c=>bR (F:=F) (aj hr) c
     have:=vd hX hr q c2 c5 u o (fun c=>by have:=v c;have:=hX.mem.le1 c;omega) (fun c hc=>by
      have h3:tot F s.toS.m c≠0:=by grind
      exact⟨hX.mem.lt c h3,hX.mem.nofz c h3,hX.fr.tt c h3⟩)
     rw[<- mS (s:=s) (c:=.mp ku vu (Q1 ku l kx)) (l:=(Q1 ku l kx).map (vE ku vu)) rfl]at this
     grind
    grind
   grind
  grind
 grind
theorem Mh{P:Program}(h:jl P t ku=true)(k:El ku):mz (am ku k).toD (am ku k).toD=true:=by
 rw[qt h];cases ku with
 |i _=>show decide (k=k)=true;simp
 |bo=>cases(k:Bool)<;>rfl
 |s=>show decide (k=k)=true;simp
 |_=>cases h
theorem JG{x key:Operand}(hX:RX g s.toS a w H γ F)(hd:okD g.nt (some d)=true)(hx:aG x=true)(o:aG key=true)(h:mH P s t x key d k) :
  ∃t' y γ' F',(Instr.lookup t (a.eval x) (a.eval key) false).run P w=.ok y w/\k t'/\RX g t'.toS (a.put (some d) y) w H γ' F':=by
 unfold mH at h;split at h
 ·rename_i kt et R;dsimp only at h;have e:RX g (s.fresh (.gh d)).toS a w H γ F:=by grind [bw,gD,cR]
  have p:ae (s.fresh (.gh d)).toS.m (.gh d)=none:=by grind [bw,gD,cv]
  generalize s.fresh (.gh d)=s1 at h e p;split at h
  ·rename_i n c C G;split at h
   ·rename_i ku u l U;split at h
    ·rename_i kx hc hk;simp only[afZ]at hc;obtain⟨_,td,_,O,E,_⟩:=aV R (by simp);obtain rfl:=rE E;obtain⟨_,X,_,A,Q,_⟩:=aV rfl (mJ hc.1);have hr:=vW U
     have hy:=aJ e hx
     have i:=aJ e o
     rw[af hx,C]at hy;rw[af o,G]at i;obtain⟨b,es,ck,f,T,L,c2,c3,c4,c5,V⟩:=sM e hr hy;obtain⟨z,_,_,_,_,M,_,zs,_⟩:=FJ hc.2;have q:FDx H (am ku kx).toD (a.eval key):=by rw[dS hk]at i;exact i.2
     have K:((moD ku u l none).all fun x=>jv (ty P kt).k x.1)=true:=m9 hc.1 (uE u) l
     obtain⟨v,W,J⟩:=sN (P:=P) O A c2 c4 (by grind) (by grind [fU]) q (M w) false;have j:oA (moD ku u l none) (am ku kx).toD=(aP ku l kx).map (uE u):=ug hc.1 (uE u) kx l
     have fin:∀(f1 D:Fp)(n':Nat),(∀c,f c=f1 c+D c)->OD w H n' (.ow (List.replicate (nc u) .fr)) (.li (((aP ku l kx).getD []).map (ap u))) f1 v->MpO w H (Bz (moD ku u l none) (am ku kx).toD) es.toList D ->
       ∃t' y γ' F',(Instr.lookup t (a.eval x) (a.eval key) false).run P w=.ok y w/\k t'/\RX g t'.toS (a.put (some d) y) w H γ' F':=by
      intro f1 D n' hf B r;obtain⟨γ',F',I,q2⟩:=P7 e hr L c2 c3 c5 hf r (n2:=.gh d) rfl p B;refine⟨_,v,γ',F',by grind,h,?_⟩;have N:((⟨s1.nx+1,s1.t,eA s1.m n s1.nx ⟨false,[.mo ku u l (some kx)],none⟩⟩:St).root (.gh d) ⟨false,[.ow (List.replicate (nc u) .fr) u ((aP ku l kx).getD [])],none⟩).toS=⟨s1.toS.t,(.gh d,⟨false,[.ow (List.replicate (nc u) .fr) (((aP ku l kx).getD []).map (ap u))]⟩)::cE s1.toS.m n ⟨false,[.mp (Bz (moD ku u l none) (am ku kx).toD)]⟩⟩:=by
       have:=mS (s:=s1) (n:=n) (c:=.mo ku u l (some kx)) (l:=Bz (moD ku u l none) (am ku kx).toD) rfl
       have h2:=congrArg S.m this
       have h1:=congrArg S.t this
       exact bV.S_ext h1 (congrArg (List.cons _) h2)
      rw[<- N]at I;refine bj (aI _ (some d) (.one (.c (.rf ⟨.gh d,0,[]⟩)))) (I.put hd (gQ (sub:=List.replicate (nc u) .fr) (l:=((aP ku l kx).getD []).map (ap u)) ?_ q2))
      grind [ae]
     rw[j]at J;cases hl:aP ku l kx with
     |none=>
      rw[hl]at J;refine fin (fun _=>0) f 1 (fun c=>(ahY _).symm) ?_ ?_
      all_goals grind [e9,Bz]
     |some rows=>
      grind [Bz]
    grind
   grind
  grind
 grind
theorem MT{v:At}(hX:RX g s.toS a w H γ F)(hy:AR w H γ s.toS.m x.toV y)(r:AR w H γ s.toS.m key.toV kv)(L:AR w H γ s.toS.m v.toV vv)(h:qC P s t x key v k) :
  ∃t' w' F',(Instr.mapUpdate t y kv vv).run P w=.ok () w'/\k t'/\RX g t'.toS a w' H γ F':=by
 unfold qC at h;split at h
 ·rename_i kt et ht;split at h
  ·rename_i n c q;split at h
   ·rename_i ku u l o sub u' rows hm hq;split at h
    ·rename_i kx N hc hk j;simp only[afZ,agS,decide_eq_false_iff_not]at hc;obtain⟨d,T,p⟩:=hc;obtain⟨eu,rfl⟩:=mh j;subst eu;obtain rfl:=jZ T;obtain⟨h0,h⟩:=h;dsimp only at h;obtain⟨_,td,_,hu,Q,_⟩:=aV ht (by simp);obtain rfl:=rE Q;obtain⟨_,kd,_,I,ab,_⟩:=aV rfl (mJ d);have hr:=vW hm
     have i:ae s.toS.m q=some ⟨false,[.ow (List.replicate (nc u') .fr) (rows.map (ap u'))]⟩:=br hq
     have E:=hX.mem.roots _ (aj i)
     unfold bU at E;dsimp only at E;rw[if_neg (by simp)]at E;obtain⟨vq,tq,A,G,V⟩:=E;obtain rfl:tq=.ow (List.replicate (nc u') .fr) (rows.map (ap u')):=by grind
     obtain⟨nq,J⟩:=V;have K:vv=vq:=by
      obtain⟨_,_,hv⟩:=L;unfold plV at hv;dsimp only at hv;rw[A]at hv;exact(Option.some.inj hv).symm
     subst K;have aa:∀c,F q c<=tot F s.toS.m c:=fun c=>bR (F:=F) (aj i) c
     have B:∀c,F n c+F q c<=tot F s.toS.m c:=fun c=>uR (F:=F) (aj hr) (aj i) (fun e=>p e.symm) c
     have O:=xU hX q
     have Y:(s.drop q).toS=s.toS.drop q:=bV (gD hX)
     have C:∀c,tot F (s.toS.drop q).m c+F q c=tot F s.toS.m c:=fun c=>by
      show tot F (aM _ _) c+_=_
      grind [bk,pP]
     have M:ae (s.toS.drop q).m n=some ⟨false,[.mp (moD ku u' l o)]⟩:=by
      show ae (aM (bO q) (cm s.toS.m q)) n=_
      rw[km,mn (fun e=>p e.symm),hr];rfl
     obtain⟨b,es,ck,f,U,Z,c2,c3,c4,c5,c6⟩:=sM hX hr hy;subst U;have D:FDx H (am ku kx).toD kv:=by rw[dS hk]at r;exact r.2
     have S:=Mh d kx
     have W:((moD ku u' l o).all fun x=>jv (ty P kt).k x.1)=true:=by
      cases o with
      |none=>exact m9 d (uE u') l
      |some k0=>exact XX (fU d k0) (m9 d (uE u') l)
     have z:ju (moD ku u' l o) (am ku kx).toD (uE u' rows)=moD ku u' (cT ku l kx rows) none:=by
      have e0:ju (l.map (Vf ku u')) (am ku kx).toD (uE u' rows)=(cT ku l kx rows).map (Vf ku u'):=ED d (uE u') kx rows l
      cases o with
      |none=>exact e0
      |some k0=>
       have h0:kx=k0:=h0
       subst h0;exact(YW S _ _).trans e0
     have R:F q b=0:=by have:=B b;have:=hX.mem.le1 b;grind
     obtain⟨es',ck',f2,e1,e2,e3,X⟩:=Be (P:=P) hu I c2 c3 c4 c6 (by grind) (by grind [fU]) D (v:=uE u' rows) (n:=nq) (fv:=F q) R J;rw[z]at X;have:=vd O M Z c2 c5 e2 X (fun c=>by have:=e3 c;have:=C c;have:=hX.mem.le1 c;omega) (fun c hc=>by
      have h3:tot F s.toS.m c≠0:=by grind
      exact⟨hX.mem.lt c h3,hX.mem.nofz c h3,hX.fr.tt c h3⟩)
     rw[<- Y,<- mS (s:=s.drop q) (c:=.mo ku u' (cT ku l kx rows) none) (l:=moD ku u' (cT ku l kx rows) none) rfl]at this
     grind
    grind
   grind
  grind
 grind
theorem MQ{x:Operand}(hX:RX g s.toS a w H γ F)(hd:okD g.nt (some d)=true)(hx:aG x=true)(h:qz s x d k) :
  ∃t' H' F',k t'/\RX g t'.toS (a.put (some d) (a.eval x)) w H' γ F':=by
 unfold qz at h;split at h
 ·rename_i n e;split at h
  ·rename_i ku u l m;have hr:=vW m
   have hy:=aJ hX hx
   rw[af hx,e]at hy;obtain⟨b,es,ck,f,i,j,_⟩:=sM hX hr hy;obtain⟨H',F',h2⟩:=T7 hX hr;have hfz:acM (moD ku u l none)=l.map (vE ku (.sl u)):=by
    show(l.map (Vf ku u)).map _=_
    rw[ag6];rfl
   rw[hfz,<- mS (s:=s) (c:=.mp ku (.sl u) l) (l:=l.map (vE ku (.sl u))) rfl]at h2;refine⟨_,H',F',h,bj (aI _ (some d) (.one (.c (.rf ⟨n,0,[]⟩)))) (h2.put hd ?_)⟩;rw[i];refine uY (l:=l.map (vE ku (.sl u))) ?_ j;rw[mS (s:=s) (c:=.mp ku (.sl u) l) (l:=l.map (vE ku (.sl u))) rfl]
   grind [fC]
  grind
 grind
theorem R6(z:Value)(n:Nat):(madeCells #[z] n).toList=List.replicate n z:=by
 unfold madeCells;apply List.ext_getElem
 all_goals grind
theorem B2{e:En}{n c:Operand}(hX:RX g s.toS a w H γ F)(hd:okD g.nt (some d)=true)(hno:aG n=true)(h:iM e s t (evA s n) (evA s c) (Fq n c) d k) :
  ∃t' y w' γ' F',(Instr.makeSlice t (a.eval n) (a.eval c)).run e.P w=.ok y w'/\k t'/\RX g t'.toS (a.put (some d) y) w' H γ' F':=by
 have f:Fq n c=true->a.eval c=a.eval n:=by
  intro hs;unfold Fq at hs
  grind [af8]
 have hv:=aJ hX hno
 rw[af hno]at hv;unfold iM at h;split at h
 ·rename_i el K hs;split at h
  ·rename_i i he;rw[he]at hv;obtain⟨hi,hw⟩:=mZ hv;split at h
   ·rename_i u M;split at h
    ·rename_i hc;simp only[afZ]at hc;obtain⟨⟨h0,h1,h2⟩,h⟩:=h;obtain⟨_,td,_,r,A,_⟩:=aV K (by simp);obtain rfl:=oD A;obtain⟨z,it,B,E,z3,_,z5,O,G⟩:=FJ hc.1.1;have p:(ty e.P el).ok=true:=by
      grind [ty,af8]
     obtain⟨D,_,C,_,_,Q,J,_⟩:=jq p;rw[B]at C;obtain rfl:=Option.some.inj C;have hs1:it.size=1:=by grind [af8]
     rw[J]at h2;have b:=run_make_row (P:=e.P) t el it z r B E hs1 z3 .i64 .i64 i.toNat h2 kQ1 w
     rw[Int.toNat_of_nonneg h0]at b;have h3:=cR hX (.gh d)
     have hn:=gD hX
     have m:∀k,Cs (OD w H (k+1)) (List.replicate i.toNat ((il e.sh el).getD [.fr])).flatten (List.replicate i.toNat [(am u (dflt u)).toD]).flatten (fun _=>0) (madeCells #[z] i.toNat).toList:=by
      intro k;rw[R6];generalize i.toNat=N;induction N with
      |zero=>exact fun _=>rfl
      |succ N ih=>
       rw[aiA,aiA,aiA,List.flatten_cons,List.flatten_cons];have hr:=hc.2
       generalize(il e.sh el).getD [.fr]=sub at hr ih;unfold W2 at hr;split at hr
       ·exact⟨z,_,fun _=>0,fun _=>0,rfl,fun _=>rfl,fK.2 ⟨fun _=>rfl,z5 H⟩,ih⟩
       ·rename_i o u';refine⟨z,_,fun _=>0,fun _=>0,rfl,fun _=>rfl,?_,ih⟩;show OD w H (k+1) (.ow o) (.li []) _ z
        grind [e9]
       grind
     have v:((il e.sh el).getD [.fr]).length=1:=by
      have hr:=hc.2
      generalize(il e.sh el).getD [.fr]=sub at hr;unfold W2 at hr
      grind
     obtain⟨γ',F',j,q⟩:=yY h3 (n:=.gh d) rfl (cv hX (.gh d)) (cs:=madeCells #[z] i.toNat) (ty':=el) (len:=i.toNat) (cap:=i.toNat) (sub:=(il e.sh el).getD [.fr]) (l:=List.replicate i.toNat [(am u (dflt u)).toD]) (by simp) (af2 _) (by show i.toNat<=2 ^ 62;omega)
      (fun x hx=>by grind) (by grind [size_madeCells]) m
     refine⟨_,_,_,γ',F',by rw[f hs,hi];exact b,h,?_⟩;have L:(List.replicate i.toNat (dflt u)).map (ap u)=List.replicate i.toNat [(am u (dflt u)).toD]:=by
      rw[List.map_replicate]
      congr 1
      rw[<- bX,jU G];rfl
     have I:((s.fresh (.gh d)).root (.gh d) ⟨false,[.ow ((il e.sh el).getD [.fr]) u (List.replicate i.toNat (dflt u))],none⟩).toS=(s.toS.fresh (.gh d)).root (.gh d) ⟨false,[.ow ((il e.sh el).getD [.fr]) (List.replicate i.toNat [(am u (dflt u)).toD])]⟩:=by
      rw[<- L,<- bw hn];rfl
     rw[<- I]at j;refine bj (aI _ (some d) (.one (.c (.rf ⟨.gh d,0,[]⟩)))) (RX.put j hd (gQ (sub:=(il e.sh el).getD [.fr]) (l:=List.replicate i.toNat [(am u (dflt u)).toD]) ?_ q))
     grind [S.root,ae]
    grind
   grind
  grind
 grind
end
end Go.Am
end

section
namespace Go.Am
variable{sub:List Sh}
section
variable {P:Program} {g:G} {s:S} {a:Act} {w:World} {H:FH} {γ:Gam} {F:Nm->Fp}
theorem Li(h:RX g s a w H γ F){n:Nm}(hno:n.isOut=false)(hn:ae s.m n=none){cs:Array Value}{ty':TypeId}{row:List D}{k:Nat}{f:Fp}(hx:row.length=sub.length)(B:cs.size=sub.length)
  (p:Cs (OD w H k) sub row f cs.toList) (hd:∀b,tot F s.m b+f b<=1) (hl:∀b,f b≠0->b<w.heap.size/\(∀o,H b o=none)/\(g.own0 b≠0\/g.w0.heap.size<=b)) :
  ∃γ' F',RX g (s.root n ⟨false,[.ow sub [row]]⟩) a (w.alloc (.cells cs ty')) H γ' F'/\γ' n=.gh (.slice (some ⟨w.heap.size,0,none⟩) 1 1):=by
 obtain⟨u,hf,r,z⟩:=pZ h.mem cs ty' false;simp only[agA,false_and,if_false]at u hf r z;have hX:RX g s a (w.alloc (.cells cs ty')) H γ F:=jE h u hf (fun i=>dv r (fun _ _ _ h=>h) (h.t i)) (fun _=>rfl)
 have hz:tot F s.m w.heap.size=0:=by
  rcases agY (tot F s.m w.heap.size)with h'|h'
  ·exact h'
  ·have:=h.mem.lt w.heap.size kQ1;omega
 have hfz:f w.heap.size=0:=by
  grind
 have C:∀o,H w.heap.size o=none:=by
  intro o;cases hc:H w.heap.size o with
  |none=>rfl
  |some y=>have:=(h.mem.agree _ _ _ hc).lt;omega
 have q:Cs (OD (w.alloc (.cells cs ty')) H k) sub row f cs.toList:=
  kW _ _ _ _ (fun s x g v E d=>cH (fun _ _ _ h=>h) k k _ _ _ _ (af2 _) (fun b hb=>cP (hl b (by grind)).1) d) p
 have d:TR (w.alloc (.cells cs ty')) H γ s.m (.ow sub [row]) (fun b=>f b+if b=w.heap.size then 1 else 0) (.slice (some ⟨w.heap.size,0,none⟩) 1 1):=by
  refine⟨k+1,yU (l:=[row]) (c:=1) (bu) rfl kQ1 (af2 _) (by show 1<=4611686018427387904;omega) (fun x A=>by grind) ?_⟩
  grind
 have j:(w.alloc (.cells cs ty')).heap.size=w.heap.size+1:=by simp_all
 refine dL hX hno hn d (fun b=>?_) (fun b hb=>?_) (fun b hb=>?_)
 ·grind
 ·grind
 ·by_cases e:b=w.heap.size
  ·subst e;right;exact h.fr.size
  grind
end
theorem DG:∀{ts:List Tt}{i j:Nat}{q:Pl},DE ts i=some (j,q)->i<=j/\ts[j-i]? = some (.rf q)
 |[],_,_,_,h=>by cases h
 |t::r,i,j,q,h=>by
  have next:DE r (i+1)=some (j,q)->i<=j/\(t::r)[j-i]? = some (.rf q):=fun h=>by
   obtain⟨h1,h2⟩:=DG h
   grind
  cases t with
  |rf a=>
   grind [DE]
  |_=>exact next h
theorem IA{n:Nat}{us z:Array Value}(a:us.size=n)(hz:z.size=1*n):Instr.fill (fun i=>some (i*n,n)) z [(0,.agg us)]=some us:=by
 have hc:(Value.agg us).cells=us:=rfl
 simp only[Instr.fill,hc];rw[if_neg (by grind)]
 congr 1
 have key:∀(k:Nat)(l:List Value)(z:Array Value),k+l.length<=z.size->((l.zipIdx k).foldl (fun cs(x:Value×Nat)=>cs.setIfInBounds (0*n+x.2) x.1) z).toList=z.toList.take k++l++z.toList.drop (k+l.length):=by
  intro k l;induction l generalizing k with
  |nil=>simp_all
  |cons x l ih=>
   intro z hk;simp only[af4]at hk;simp only[List.zipIdx_cons,ahJ];rw[ih (k+1) _ (by grind)];simp only[Nat.zero_mul,ahY,Array.toList_setIfInBounds];rw[List.take_set,List.drop_set_of_lt kQ1]
   grind [List.take_add_one,af4]
 apply Array.ext'
 have e:us.zipIdx.foldl (fun cs(x:Value×Nat)=>cs.setIfInBounds (0*n+x.2) x.1) z=(us.toList.zipIdx 0).foldl (fun cs(x:Value×Nat)=>cs.setIfInBounds (0*n+x.2) x.1) z:=by
  grind [Array.toList_zipIdx]
 grind
section
variable {P:Program} {g:G} {s:St} {a:Act} {w:World} {H:FH} {γ:Gam} {F:Nm->Fp} {k:St->Prop}
theorem xK{E:Ut}{sub:List Sh}{t:TypeId}{len:Nat}{ps:Array (Nat×Operand)}{d:Tmp}(hX:RX g s.toS a w H γ F)(hd:okD g.nt (some d)=true)(I:(ps.toList.all fun x=>aG x.2)=true)(h:fw P E sub s t len ps d k) :
  ∃t' y w' γ' F',(Instr.buildSlice t len (ps.map fun(i,x)=>(i,a.eval x))).run P w=.ok y w'/\k t'/\RX g t'.toS (a.put (some d) y) w' H γ' F':=by
 unfold fw at h;split at h
 ·rename_i e ht;split at h
  ·rename_i u z ts he hz hp;split at h
   ·rename_i j q hj;split at h
    ·rename_i aj aq u' l2 W ar;split at h
     ·rename_i s1 al l' hb;split at h
      ·rename_i l hc hl;simp only[afZ]at hc;obtain⟨⟨⟨⟨⟨⟨c1,c2⟩,c3⟩,c4⟩,c5⟩,c6⟩,c7,c8,c9⟩:=hc;have ax:=af8 c2
       obtain rfl:=af8 c4;have ak:=af8 c5
       have am:=af8 c6
       obtain rfl:=jZ c7;obtain⟨pl⟩:=ps;have p:pl.map (fun x=>(x.1,evA s x.2))=[(0,.one (.agg ts))]:=hp
       match pl,p,I with
       |[],p,_=>cases p
       |_::_::_,p,_=>grind
       |[(i,x)],p,I=>
       simp only[af3,ag5,List.cons.injEq,Prod.mk.injEq,and_true]at p;obtain⟨rfl,hx⟩:=p;have hop:aG x=true:=by grind
       have hv:=aJ hX hop
       rw[af hop,hx]at hv;obtain⟨cs,r,G,A⟩:=hv;have G:cs.size=ts.length:=by grind
       obtain⟨_,C⟩:=DG hj;rw[Nat.sub_zero]at C;have an:j<ts.length:=(ahB.1 C).1
       have X:(ts.map Tt.toT)[j]? = some (.rf q):=by rw[af5,C];rfl
       obtain⟨_,v,gv,_,aa,L,ao⟩:=rK A X;have O:AR w H γ s.toS.m (.one (.c (.rf q))) v:=⟨fun _=>rfl,L.2⟩
       have ai:=gD hX
       obtain⟨b1,b2,_⟩:=l8 (size:=nc u') rfl ai (fun q' Y=>by
        cases Y;exact pz L.2.1) hb
       obtain⟨M,f,F1,k1,k2,k3,k4,k5⟩:=l9 hX O b1;have hfz:=uM c9
       obtain⟨_,_,_,fk,fr,_,_,_,a4,_,a6,_⟩:=cQ _ _ _ _ j A kQ1;have U:Ts (TR w H γ s.toS.m) ((ts.set j .nil).map Tt.toT) (fun _=>0) (cs.toList.set j (.slice none 0 0)):=by
        have:=a6 (fun _=>TR w H γ s.toS.m) .nil (.slice none 0 0) (fun _=>0) (fun _ _ _ _ _ h=>h) ⟨fun _=>rfl,rfl⟩
        unfold Ts;rw[af7,ahO];rw[af7]at this;rw[agR];exact oI (fun b=>by grind) this
       have hC:=DX (k:=M) (fun _=>rfl) hfz U
       obtain⟨sj,_,_,av,ah,d1,_,_,d4,_,d6,_⟩:=cQ _ _ _ _ j hC (by grind);rw[W]at d1;obtain rfl:=Option.some.inj d1;have D:=d6 (OD w H (M+1)) (.li (l'.map (ap u'))) v f (fun _ _ _ _ _ h=>h) (cH (fun _ _ _ h=>h) M (M+1) _ _ _ _ (agU _) (fun _ _=>rfl) k1)
       rw[ahZ,show cs.toList.set j v=cs.toList from pL aa]at D;have o:=nD hl
       simp only[af3,ag5]at o
       match l,hl,o,h with
       |[],_,o,_=>grind
       |_::_::_,_,o,_=>grind
       |[y],hl,o,h=>
       simp only[af3,ag5,List.cons.injEq,and_true]at o;have e1:((ts.set j .nil).map fun t=>t.toT.fz).set j (.li (l'.map (ap u')))=ap u y:=by
        rw[<- o,agR,ahZ,agR];rfl
       rw[e1]at D;have R:=cR k2 (.gh d)
       have ac:∀b,tot F1 (s1.toS.fresh (.gh d)).m b<=tot F1 s1.toS.m b:=by
        intro b;unfold S.fresh;split
        ·omega
        ·show tot F1 (aM _ _) b<=_
         rw[bk];exact fY
       obtain⟨_,td,_,Z,ad,_⟩:=aV ht (by simp);obtain rfl:=oD ad;obtain⟨N,de,J,_,_,ab,_,_⟩:=jq c1;obtain⟨T,z0,ag,Q,_,_⟩:=j6 hz;rw[J]at ag;obtain rfl:N=T:=by grind
       have au:N.size=nc u:=by omega
       obtain⟨us,aw,r1,r2,r3⟩:=jz (P:=P) (w:=w) (t:=t) (len:=1) (vs:=#[(0,a.eval x)]) (cells:=#[]) Z J Q (by grind [agD]) (fun us hus=>by
        refine⟨cs,?_,by omega,.inr trivial⟩;rw[r];exact IA kQ1 hus)
       have B:Instr.fill (fun i=>some (i*N.size,N.size)) us #[(0,a.eval x)].toList=some cs:=by
        rw[r];exact IA kQ1 r1
       rw[B]at r2;obtain rfl:=Option.some.inj r2;obtain⟨γ',F',K,V⟩:=Li (ty':=e) R (n:=.gh d) rfl (cv k2 (.gh d)) (by grind) kQ1 (oI (f:=fun b=>f b+ah b) (g:=f) (fun b=>by grind) D)
        (fun b=>by have h1:=ac b;have h2:=k4 b;have h3:=hX.mem.le1 b;omega) k5
       have e2:((s1.fresh (.gh d)).root (.gh d) ⟨false,[.ow sub u [y]],none⟩).toS=(s1.toS.fresh (.gh d)).root (.gh d) ⟨false,[.ow sub [ap u y]]⟩:=by
        rw[<- bw b2];rfl
       rw[<- e2]at K;refine⟨_,_,_,γ',F',by rw[show(Array.map (fun(x:Nat×Operand)=>(x.1,a.eval x.2)) ⟨[(0,x)]⟩)=#[(0,a.eval x)]from by simp];exact r3,h,?_⟩;refine bj (aI _ (some d) (.one (.c (.rf ⟨.gh d,0,[]⟩)))) (RX.put K hd (gQ (sub:=sub) (l:=[ap u y]) ?_ V))
       grind [S.root,ae]
      grind
     grind
    grind
   grind
  grind
 grind
theorem Cg{α β:Type}{R:α->β->Fp->Value->Prop}:∀(a:List α)(c:List β){b:List α}{d:List β}{f:Fp}{vs:List Value},a.length=c.length->Cs R (a++b) (c++d) f vs->∃f':Fp,Cs R a c f' vs/\∀x,f' x<=f x
 |[],[],_,_,_,_,_,_=>⟨fun _=>0,fun _=>rfl,fun _=>agW _⟩
 |x::a,y::c,b,d,f,vs,hl,h=>by
  obtain⟨v,r,f1,e,h1,h2,h3,h4⟩:=h;obtain⟨f',k1,k2⟩:=Cg a c (by grind) h4;exact⟨fun q=>f1 q+f' q,⟨v,r,f1,f',h1,fun _=>rfl,h3,k1⟩,fun q=>by grind⟩
 |[],_::_,_,_,_,_,hl,_=>by grind
 |_::_,[],_,_,_,_,hl,_=>by grind
theorem XJ{k:Nat}{l:List (List D)}{f:Fp}{v:Value}{m:Nat}(j:m<=l.length)(h:OD w H k (.ow sub) (.li l) f v) :
  ∃ad c,v=.slice ad l.length c/\l.length<=c/\(∀b,ad=some b->b=⟨b.block,0,none⟩)/\∃f':Fp,OD w H k (.ow sub) (.li (l.take m)) f' (.slice ad m c)/\∀x,f' x<=f x:=by
 cases k with
 |zero=>simp[OD]at h
 |succ k=>
 rw[e9]at h;rcases h with⟨rfl,rfl,h0⟩|⟨b,c,cs,ty,fr,g',h1,h2,h3,h4,h5,h6,h7,h8,h9⟩
 ·obtain rfl:m=0:=by grind
  exact⟨none,0,rfl,af2 _,(fun b hb=>by cases hb),f,e9.2 (.inl ⟨rfl,rfl,h0⟩),fun _=>af2 _⟩
 ·subst h1;have e:(List.replicate l.length sub).flatten=(List.replicate m sub).flatten++(List.replicate (l.length-m) sub).flatten:=by
   grind [List.replicate_append_replicate]
  have i:l.flatten=(l.take m).flatten++(l.drop m).flatten:=by grind [ahE]
  have a:(l.take m).length=m:=by grind
  have d:∀x∈l.take m,x.length=sub.length:=fun x hx=>h7 x (List.mem_of_mem_take hx)
  rw[e,i]at h8;obtain⟨f',k1,k2⟩:=Cg _ _ (by rw[cM _ _ d,a];simp) h8;refine⟨_,c,rfl,h5,fun b' hb=>by grind,fun x=>f' x+if x=b then 1 else 0,e9.2 (.inr ⟨b,c,cs,ty,fr,f',by rw[a],h2,h3,h4,by omega,by omega,d,by grind,fun _=>rfl⟩),fun x=>by grind⟩
theorem Kj{e:En}{t:TypeId}{x hi:Operand}{d:Tmp}(hX:RX g s.toS a w H γ F)(hd:okD g.nt (some d)=true)(hx:aG x=true)(r:aG hi=true)(h:mN e s t x hi d k) :
  ∃t' y γ' F',(∀w:World,(Instr.sliceAt t (a.eval x) none (some (a.eval hi)) none).run e.P w=.ok y w)/\k t'/\RX g t'.toS (a.put (some d) y) w H γ' F':=by
 unfold mN at h;split at h
 ·rename_i el O;split at h
  ·rename_i q n D u;split at h
   ·rename_i u0 V _;split at h
    ·rename_i s1 sub l B hb;obtain⟨⟨L,N⟩,h⟩:=h;have hy:=aJ hX hx
     have hn:=aJ hX r
     rw[af hx,D]at hy;rw[af r,u]at hn;obtain⟨b1,b2,_⟩:=l8 (size:=nc u0) rfl (gD hX) (fun T E=>by
      cases E;exact pz hy.2.1) hb
     obtain⟨Q,f,F1,k1,k2,k3,k4,k5⟩:=l9 hX hy b1;obtain⟨ad,c,hv,hc,K,f',U,q2⟩:=XJ (m:=n.toNat) (by grind) k1;rw[af7]at hv hc;obtain⟨_,td,_,o,I,_⟩:=aV O (by simp);obtain rfl:=oD I;obtain⟨i,R,J,_⟩:=jq B;obtain⟨a',b',⟨rfl,rfl,_⟩,A⟩:=ke (P:=e.P) (isS:=true) (len:=l.length) (cap:=c) (vlo:=none) (lo:=none) (k:=fun a b=>a=0/\b=n.toNat/\b<=l.length) trivial (show PZ w H γ s.toS.m (some (At.one (.c (.d (.i .i64 n)))).toV) (some (a.eval hi))from hn) hc (show gU none 0 _ from⟨L,rfl,rfl,N⟩) (fun a b h=>by omega);have p:∀w:World,(Instr.sliceAt t (a.eval x) none (some (a.eval hi)) none).run e.P w=.ok (.slice ad n.toNat c) w:=by
      intro w;rw[hv];simp only[Instr.sliceAt,Sem.run_bind,run_underlying o,Result.andThen_ok];simp only[Instr.slice,Sem.run_bind,run_underlying o,Result.andThen_ok,A,cz J,Sem.run_pure]
      congr 2
      cases ad<;>grind [dx]
     have z:=cR k2 (.gh d)
     have G:∀b,tot F1 (s1.toS.fresh (.gh d)).m b<=tot F1 s1.toS.m b:=by
      intro b;unfold S.fresh;split
      ·omega
      ·show tot F1 (aM _ _) b<=_
       rw[bk];exact fY
     obtain⟨γ',F',j,C⟩:=dL z (n:=.gh d) rfl (cv k2 (.gh d)) (v:=.slice ad n.toNat c) (t:=.ow sub ((l.take n.toNat).map (ap u0))) (f:=f') ⟨Q,by grind [ah0]⟩
      (fun b=>by have h1:=G b;have h2:=k4 b;have h3:=hX.mem.le1 b;grind) (fun b hb=>by grind) (fun b hb=>(k5 b (by grind)).2.2)
     have M:((s1.fresh (.gh d)).root (.gh d) ⟨false,[.ow sub u0 (l.take n.toNat)],none⟩).toS=⟨(s1.toS.fresh (.gh d)).t,(.gh d,⟨false,[.ow sub ((l.take n.toNat).map (ap u0))]⟩)::(s1.toS.fresh (.gh d)).m⟩:=by
      rw[<- bw b2];rfl
     rw[<- M]at j;refine⟨_,_,γ',F',p,h,?_⟩;refine bj (aI _ (some d) (.one (.c (.rf ⟨.gh d,0,[]⟩)))) (RX.put j hd (gQ (sub:=sub) (l:=(l.take n.toNat).map (ap u0)) ?_ C))
     grind [ae]
    grind
   grind
  grind
 grind
end
end Go.Am
end
