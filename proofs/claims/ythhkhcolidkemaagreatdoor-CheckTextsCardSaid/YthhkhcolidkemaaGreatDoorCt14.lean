/-
  Part 14: AmE3m · AmE3n.
-/
import Derived.Test.YthhkhcolidkemaaGreatDoorCt13
import Derived.Deep.OwnRows
set_option linter.unusedSimpArgs false
set_option linter.unusedVariables false
set_option linter.unusedSectionVars false
set_option linter.unnecessarySimpa false
section
namespace Go.Am
open Go.MapKept
variable{β:Type}
def BY(ku:U)(g:β->Sh×D)(x:El ku×β):D×Sh×D:=((au ku x.1).toD,g x.2)
abbrev wy(ku vu:U):El ku×El vu->D×Sh×D:=BY ku λv=>(.fr,(au vu v).toD)
abbrev xM(u:U)(l:List (El u)):Sh×D:=(.ow (List.replicate (nc u) .fr),.li (l.map (aw u)))
variable{ku:U}{t:TypeId}
theorem rC{P:Program}(h:jQ P t ku=true)(a b:El ku):nD (au ku a).toD (au ku b).toD=uV ku a b:=by
 cases ku with
 |i k=>show(decide (k=k)&&decide (a=b))=decide (a=b);simp
 |bo=>rfl
 |s=>rfl
 |_=>cases h
theorem gD{P:Program}(h:jQ P t ku=true)(a:El ku):j8 (ty P t).k (au ku a).toD=true:=by
 cases ku with
 |i k=>rw[of_decide_eq_true h];show decide (k=k)=true;simp
 |bo=>rw[of_decide_eq_true h];rfl
 |s=>rw[of_decide_eq_true h];rfl
 |_=>cases h
theorem nO{P:Program}(h:jQ P t ku=true):(ty P t).k≠.ot:=by cases ku<;>first|grind [jQ]|cases h
theorem oz{P:Program}(h:jQ P t ku=true)(g:β->Sh×D)(l:List (El ku×β)):((l.map (BY ku g)).all λx=>j8 (ty P t).k x.1)=true:=by rw[List.all_map];exact akZ.2 λx _=>gD h x.1
theorem u5{P:Program}(h:jQ P t ku=true)(g:β->Sh×D)(k:El ku):∀l:List (El ku×β),pI (l.map (BY ku g)) (au ku k).toD=(aU ku l k).map g
 |[]=>rfl
 |x::l=>by
  simp only[akM,pI,aU,BY,rC h];cases uV ku x.1 k with
  |true=>rfl
  |false=>exact u5 h g k l
theorem E4{P:Program}(h:jQ P t ku=true)(g:β->Sh×D)(k:El ku)(v:β):∀l:List (El ku×β),lw (l.map (BY ku g)) (au ku k).toD (g v)=(dz ku l k v).map (BY ku g)
 |[]=>rfl
 |x::l=>by
  have ih:=E4 h g k v l
  simp only[akM,lw,dz,BY,rC h];cases uV ku x.1 k with
  |true=>rfl
  |false=>simp only[akM];rw[<- ih];rfl
theorem Qq{P:Program}(h:jQ P t ku=true)(g:β->Sh×D)(k:El ku):∀l:List (El ku×β),ES (l.map (BY ku g)) (au ku k).toD=(S5 ku l k).map (BY ku g)
 |[]=>rfl
 |x::l=>by
  have ih:=Qq h g k l
  simp only[akM,ES,S5,BY,rC h];cases uV ku x.1 k with
  |true=>rfl
  |false=>simp only[akM];rw[<- ih];rfl
theorem QE{k:D}(hk:nD k k=true)(a b:Sh×D):∀l:List (D×Sh×D),lw (lw l k a) k b=lw l k b
 |[]=>by grind [lw]
 |x::l=>by
  cases h:nD x.1 k with
  |true=>grind [lw]
  |false=>simp only[lw,h,QE hk a b l]
theorem acU{k:D}(hk:nD k k=true)(b:Sh×D)(l:List (D×Sh×D)):lw (BS l k) k b=lw l k b:=by grind [BS,QE]
theorem Qf{κ:TK}{k:D}(hk:j8 κ k=true)(v:Sh×D):∀{l:List (D×Sh×D)},(l.all λx=>j8 κ x.1)=true->((lw l k v).all λx=>j8 κ x.1)=true
 |[],_=>by simp[lw,hk]
 |x::l,h=>by
  simp only[akW,akI]at h;simp only[lw];split
  .grind
  simp only[akW,h.1,Qf hk v h.2,Bool.and_self]
variable{l:List (D×Sh×D)}
theorem aaZ{κ:TK}{k:D}(hk:j8 κ k=true)(h:(l.all λx=>j8 κ x.1)=true):((BS l k).all λx=>j8 κ x.1)=true:=by grind [BS,Qf]
variable{u:U}
theorem Gj{P:Program}(h:zOK P t u=true):∃z it,P.info? t=some it/\it.zero=some z/\z.cells=#[z]/\(∀w,(zeroValue t).run P w=.ok z w)/\(∀H,FDx H (au u (dflt u)).toD z)/\(∀v,u=.sl v->z=.slice none 0 0)/\leaf u=true:=by
 unfold zOK at h;have run:∀{z:Value},(P.info? t).bind (·.zero)=some z->∃it,P.info? t=some it/\it.zero=some z/\∀w,(zeroValue t).run P w=.ok z w:=by simp_all[ak4,zeroValue,typeInfo]
 split at h
 .rename_i k n k' hz;obtain⟨it,h1,h2,h3⟩:=run hz;simp only[akI,decide_eq_true_eq]at h;obtain⟨⟨rfl,rfl⟩,_⟩:=h;exact⟨_,it,h1,h2,rfl,h3,λH=>⟨0,rfl,by cases k<;>decide⟩,(λ_ e=>by cases e),rfl⟩
 .rename_i b hz;obtain⟨it,h1,h2,h3⟩:=run hz;cases b with
  |true=>cases h
  |false=>exact⟨_,it,h1,h2,rfl,h3,λH=>⟨0,rfl⟩,(λ_ e=>by cases e),rfl⟩
 .rename_i str hz;obtain⟨it,h1,h2,h3⟩:=run hz;refine⟨_,it,h1,h2,rfl,h3,λH=>⟨0,?_,alJ _⟩,(λ_ e=>by cases e),rfl⟩;obtain⟨⟨l⟩⟩:=str;cases l with
  |nil=>rfl
  |cons x l=>simp at h
 .rename_i u hz;obtain⟨it,h1,h2,h3⟩:=run hz;exact⟨_,it,h1,h2,rfl,h3,λH=>oq,λ_ _=>rfl,rfl⟩
 .rename_i ku vu hz;obtain⟨it,h1,h2,h3⟩:=run hz;exact⟨_,it,h1,h2,rfl,h3,λH=>⟨0,rfl⟩,(λ_ e=>by cases e),rfl⟩
 grind
variable{d:Tmp}{key x:At}{kv vv y:Value}{n:Nm}
section
variable {P:Program} {g:G} {a:Act} {w:World} {H:FH} {γ:Gam} {F:Nm->Fp} {s:St} {k k':St->Prop}
theorem Fx{E:Ut}{own:Bool}(hk:∀s',Ext s s'->k s'->k' s')(h:jO P E own s t d k):jO P E own s t d k':=by
 unfold jO at h|-
 (repeat' split at h)<;>first|exact h.elim|exact hk _ (((cg _ _).trans (dB _ _ _)).trans (aC _ _ _)) h
theorem Fy{m:List (Nm×Nat×Rt)}{ok:Bool}{k k':At->Prop}(hk:∀v,k v->k' v)(h:rJ P m t x key ok k):rJ P m t x key ok k':=by
 unfold rJ at h|-
 (repeat' split at h)<;>first|exact h.elim|grind
theorem KD{v:At}(hk:∀s',Ext s s'->k s'->k' s')(h:rM P s t x key v k):rM P s t x key v k':=by
 unfold rM at h|-
 (repeat' split at h)<;>first|exact h.elim|exact hk _ ⟨alD _,λ_ _ _ h _=>h,dL _ _ (akK _) _⟩ h
theorem Kz(hk:∀s',Ext s s'->k s'->k' s')(h:rG P s t x key k):rG P s t x key k':=by
 unfold rG at h|-
 (repeat' split at h)<;>first|exact h.elim|exact hk _ ⟨alD _,λ_ _ _ h _=>h,dL _ _ (akK _) _⟩ h
theorem ui(s:St)(n:Nm)(r:Rt):Ext s ⟨s.nx+1,s.t,fp s.m n s.nx r⟩:=⟨alD _,λ_ _ _ h _=>h,dL _ _ (akK _) _⟩
theorem Fz{x key:Operand}(hk:∀s',Ext s s'->k s'->k' s')(h:nM P s t x key d k):nM P s t x key d k':=by
 unfold nM at h|-;dsimp only at h|-
 (repeat' split at h)<;>first|exact h.elim|exact hk _ ((((cg _ _).trans (ui _ _ _)).trans (dB _ _ _)).trans (aC _ _ _)) h
theorem KC{v:At}(hk:∀s',Ext s s'->k s'->k' s')(h:rL P s t x key v k):rL P s t x key v k':=by
 unfold rL at h|-
 (repeat' split at h)<;>first|exact h.elim|exact⟨h.1,hk _ ((uh _ _).trans (ui _ _ _)) h.2⟩
theorem KA{x:Operand}(hk:∀s',Ext s s'->k s'->k' s')(h:rH s x d k):rH s x d k':=by
 unfold rH at h|-
 (repeat' split at h)<;>first|exact h.elim|exact hk _ ((ui _ _ _).trans (aC _ _ _)) h
theorem AM{e:En}{n c:At}{b:Bool}(hk:∀s',Ext s s'->k s'->k' s')(h:ju e s t n c b d k):ju e s t n c b d k':=by
 unfold ju at h|-
 (repeat' split at h)<;>first|exact h.elim|exact⟨h.1,hk _ (((cg _ _).trans (dB _ _ _)).trans (aC _ _ _)) h.2⟩
theorem Ky{E:Ut}{own:Bool}(o:RX g s.toS a w H γ F)(hd:okD g.nt (some d)=true)(h:jO P E own s t d k){r:Option Value}(hr:∀v,r=some v->∃κ n,v=.int κ n) :
  ∃t' y w' γ' F',(Instr.makeMap t r).run P w=.ok y w'/\k t'/\RX g t'.toS (a.put (some d) y) w' H γ' F':=by
 have p:∀{kt et:TypeId}{c:Tt},(ty P t).k=.mp kt et->c.toT=.mp []->k (((s.fresh (.gh d)).root (.gh d) ⟨false,[c],none⟩).put (some d) (.one (.c (.rf ⟨.gh d,0,[]⟩))))->∃t' y w' γ' F',(Instr.makeMap t r).run P w=.ok y w'/\k t'/\RX g t'.toS (a.put (some d) y) w' H γ' F':=by
  intro kt et c f hc hk;obtain⟨_,td,_,q,i,_⟩:=bh f (by simp);obtain rfl:=sK i;have hn:=gB o
  have h1:=dv o (.gh d)
  obtain⟨γ',F',h2,j⟩:=RL h1 (n:=.gh d) rfl (cE o (.gh d));have b:(Instr.makeMap t r).run P w=.ok (.map (some w.heap.size)) (w.alloc (.map #[] 0)):=by
   cases r with
   |none=>rfl
   |some v=>
    obtain⟨κ,n,rfl⟩:=hr v rfl
    simp_all[Instr.makeMap,run_underlying,asInt,asIntOf]
  refine⟨_,_,_,γ',F',b,hk,?_⟩;have e:((s.fresh (.gh d)).root (.gh d) ⟨false,[c],none⟩).toS=⟨(s.toS.fresh (.gh d)).t,(.gh d,⟨false,[.mp []]⟩)::(s.toS.fresh (.gh d)).m⟩:=by
   rw[<- bN hn];show(⟨_,(Nm.gh d,(⟨false,[c.toT]⟩:Root))::_⟩:S)=_
   rw[hc];rfl
  rw[<- e]at h2;refine bH (aM _ (some d) (.one (.c (.rf ⟨.gh d,0,[]⟩)))) (h2.put hd ?_);exact vT (l:=[]) (by grind [ah]) j
 unfold jO at h;split at h
 .rename_i kt et f;split at h
  .exact p f rfl h
  .exact p f rfl h
  grind
 grind
theorem rF{p:Pl}{vu:U}{l:List (El ku×El vu)}(h:wN s.m p=some ⟨ku,vu,l⟩):∃n,p=⟨n,0,[]⟩/\ah s.toS.m n=some ⟨false,[.mp (l.map (wy ku vu))]⟩:=by
 unfold wN at h;split at h
 .rename_i n;split at h
  .rename_i hr;cases h;exact⟨n,rfl,bz hr⟩
  grind
 grind
theorem wM{l:List (El ku×List (El u))}{o:Option (El ku)}(h:wL s.m n=some ⟨ku,u,l,o⟩):ah s.toS.m n=some ⟨false,[.mp (moD ku u l o)]⟩:=by
 unfold wL at h;split at h
 .rename_i hr;cases h;exact bz hr
 grind
theorem tQ(k:RX g s.toS a w H γ F)(hr:ah s.toS.m n=some ⟨false,[.mp l]⟩)(hy:AR w H γ s.toS.m (.one (.c (.rf ⟨n,0,[]⟩))) y) :
  ∃b es ck,∃f:Fp,y=.map (some b)/\γ n=.gh (.map (some b))/\w.heap[b]? = some (.map es ck)/\Stamped es ck/\MpO w H l es.toList f/\(∀c,F n c=f c+if c=b then 1 else 0)/\f b=0:=by
 obtain⟨b,es,ck,f,d,e,c3,i,h,j⟩:=YX k.mem hr;obtain⟨_,_,hv⟩:=hy;refine⟨b,es,ck,f,?_,d,e,c3,i,h,j⟩;unfold plV at hv;rw[d]at hv;exact(Option.some.inj hv).symm
theorem AX{P:Program}(h:jQ P t u=true):leaf u=true:=by cases u<;>first|rfl|cases h
theorem N3{ok:Bool}{k:At->Prop}(G:RX g s.toS a w H γ F)(hy:AR w H γ s.toS.m x.toV y)(j:AR w H γ s.toS.m key.toV kv)(h:rJ P s.m t x key ok k) :
  ∃z v,(Instr.lookup t y kv ok).run P w=.ok z w/\AR w H γ s.toS.m v.toV z/\k v:=by
 unfold rJ at h;split at h
 .rename_i kt et E;split at h
  .split at h
   .rename_i ku vu l hm;split at h
    .rename_i kx hc hk;simp only[akI]at hc;obtain⟨_,td,_,A,p,_⟩:=bh E (by simp);obtain rfl:=sK p;obtain⟨_,J,_,i,C,_⟩:=bh rfl (nO hc.1);obtain⟨n,rfl,hr⟩:=rF hm;obtain⟨b,es,ck,f,rfl,_,D,c3,q,_⟩:=tQ G hr hy;obtain⟨z,_,_,_,_,u,I,_,K⟩:=Gj hc.2;have d:FDx H (au ku kx).toD kv:=by rw[eL hk]at j;exact j.2
     obtain⟨v,r,B⟩:=tR (P:=P) A i D q (by grind [oz]) (by grind [gD]) d (u w) ok;rw[u5 hc.1]at r B;have hv:FDx H (au vu ((aU ku l kx).getD (dflt vu))).toD v:=by cases hl:aU ku l kx<;>grind [gr]
     refine⟨_,_,r,?_,h⟩;cases ok with
     |true=>exact⟨_,rfl,⟨λ_=>rfl,hv⟩,⟨λ_=>rfl,0,by rw[Option.isSome_map];rfl⟩,trivial⟩
     |false=>exact⟨λ_=>rfl,hv⟩
    grind
   grind
  .rename_i ku vu z c;split at h
   .rename_i kx hc hk;simp only[akI]at hc;obtain⟨_,td,_,A,p,_⟩:=bh E (by simp);obtain rfl:=sK p;obtain⟨_,J,_,i,C,_⟩:=bh rfl (nO hc.1);obtain⟨M,_,_,_,_,u,I,_,K⟩:=Gj hc.2.1;have d:FDx H (au ku kx).toD kv:=by rw[eL hk]at j;exact j.2
    have o:j8 (gJ P J) (au ku kx).toD=true:=by grind [gD]
    have hd:=hy.2
    cases z with
    |none=>
     obtain⟨b,rfl⟩:=L0 hd;have hb:b=none:=by
      obtain⟨m,hd⟩:=hd;have hd:Value.map b=.map none:=by cases m<;>exact hd
      grind
     subst hb;refine⟨_,_,Br A i o d (u w) ok,?_,h⟩;have hv:=I H
     cases ok with
     |true=>exact⟨_,rfl,⟨λ_=>rfl,hv⟩,⟨λ_=>rfl,0,rfl⟩,trivial⟩
     |false=>exact⟨λ_=>rfl,hv⟩
    |some l=>
     have el:(l.map λx=>((aw ku x.1).headD .any,(aw vu x.2).headD .any))=l.map λx=>((au ku x.1).toD,(au vu x.2).toD):=ak2 λx _=>by grind [p6,AX]
     have hd:FDx H (.mp (some (l.map λx=>((aw ku x.1).headD .any,(aw vu x.2).headD .any)))) y:=hd
     rw[el]at hd;obtain⟨b,es,ck,rfl,D,_,q⟩:=VA G.mem.agree (λe L=>by obtain⟨x,_,rfl⟩:=ak5.1 L;exact oU (gD hc.1 x.1)) hd
     rw[alW]at q;have q:MpO w H (l.map (wy ku vu)) es.toList (λ_=>0):=q
     obtain⟨v,r,B⟩:=tR (P:=P) A i D q (by grind [oz]) o d (u w) ok;rw[u5 hc.1]at r B;have hv:FDx H (au vu ((aU ku l kx).getD (dflt vu))).toD v:=by cases hl:aU ku l kx<;>grind [gr]
     refine⟨_,_,r,?_,h⟩;cases ok with
     |true=>exact⟨_,rfl,⟨λ_=>rfl,hv⟩,⟨λ_=>rfl,0,by rw[Option.isSome_map];rfl⟩,trivial⟩
     |false=>exact⟨λ_=>rfl,hv⟩
   grind
  grind
 grind
theorem S0{vu:U}{tv:Tt}{a:El vu}(hl:leaf vu=true)(h:oE vu [tv]=some a){m:Mm}(hy:TR w H γ m tv.toT (λ_=>0) y):FDx H (au vu a).toD y:=by
 have h1:BW vu tv=some a:=by cases vu<;>first|exact h|cases hl
 unfold BW at h1;split at h1
 .split at h1
  .simp only[akJ]at h1;subst h1;exact hy.2
  grind
 .rw[eL h1]at hy;exact hy.2
 .split at h1
  .simp only[akJ]at h1;subst h1;obtain⟨_,rfl⟩:=hy;exact oq
  grind
 grind
theorem nY{s:St}{c:Tt}(hc:c.toT=.mp l):(⟨s.nx+1,s.t,fp s.m n s.nx ⟨false,[c],none⟩⟩:St).toS=⟨s.toS.t,cY s.toS.m n ⟨false,[.mp l]⟩⟩:=by
 refine bT.S_ext rfl ?_;show toM (fp s.m n s.nx _)=_
 rw[fV]
 congr 1
 show(⟨false,[c.toT]⟩:Root)=_
 rw[hc]
theorem N6{v:At}(d:RX g s.toS a w H γ F)(hy:AR w H γ s.toS.m x.toV y)(j:AR w H γ s.toS.m key.toV kv)(u:AR w H γ s.toS.m v.toV vv)(h:rM P s t x key v k) :
  ∃t' w' F',(Instr.mapUpdate t y kv vv).run P w=.ok () w'/\k t'/\RX g t'.toS a w' H γ F':=by
 unfold rM at h;split at h
 .rename_i kt et B;split at h
  .split at h
   .rename_i ku vu l hm;split at h
    .rename_i kx o hc hk p;simp only[akI]at hc;obtain⟨_,td,_,M,r,_⟩:=bh B (by simp);obtain rfl:=sK r;obtain⟨_,O,_,q,E,_⟩:=bh rfl (nO hc.1);obtain⟨n,rfl,hr⟩:=rF hm;obtain⟨b,es,ck,f,rfl,G,z,c3,L,I,C⟩:=tQ d hr hy;have e:FDx H (au ku kx).toD kv:=by rw[eL hk]at j;exact j.2
     have i:=S0 hc.2 p u
     obtain⟨es',ck',N,Q,D,K,A⟩:=Bu (P:=P) M q z c3 L C (by grind [oz]) (by grind [gD]) e (v:=(.fr,(au vu o).toD)) (n:=0) (fv:=λ_=>0) rfl (gr.2 ⟨λ_=>rfl,i⟩);rw[E4 hc.1 (λv=>(.fr,(au vu v).toD))]at A;have J:∀c,F n c<=tot F s.toS.m c:=λc=>bV (F:=F) (al hr) c
     have:=vZ d hr G z I D A (λc=>by have:=K c;have:=d.mem.le1 c;omega) (λc hc=>by
      have h3:tot F s.toS.m c≠0:=by grind
      exact⟨d.mem.lt c h3,d.mem.nofz c h3,d.fr.tt c h3⟩)
     rw[<- nY (s:=s) (c:=.mp ku vu (dz ku l kx o)) (l:=(dz ku l kx o).map (wy ku vu)) rfl]at this
     grind
    grind
   grind
  grind
 grind
theorem N1{tt:TypeId}{ts:List TypeId}(d:RX g s.toS a w H γ F)(hy:AR w H γ s.toS.m x.toV y)(i:AR w H γ s.toS.m key.toV kv)(h:rG P s t x key k) :
  ∃t' w' F',(Builtin.delete_ (t::ts).toArray tt #[y,kv]).run P w=.ok (.tuple #[]) w'/\k t'/\RX g t'.toS a w' H γ F':=by
 unfold rG at h;split at h
 .rename_i kt et r;split at h
  .split at h
   .rename_i ku vu l hm;split at h
    .rename_i kx hc hk;obtain⟨_,td,_,G,o,_⟩:=bh r (by simp);obtain rfl:=sK o;obtain⟨_,J,_,j,z,_⟩:=bh rfl (nO hc);obtain⟨n,rfl,hr⟩:=rF hm;obtain⟨b,es,ck,f,rfl,A,p,c3,E,B,u⟩:=tQ d hr hy;have e:FDx H (au ku kx).toD kv:=by rw[eL hk]at i;exact i.2
     obtain⟨es',I,K,v,D,q⟩:=OK (P:=P) (ty:=tt) G j p c3 E u (by grind [oz]) (by grind [gD]) e (t::ts).toArray (by simp);rw[Qq hc]at q;have C:∀c,F n c<=tot F s.toS.m c:=λc=>bV (F:=F) (al hr) c
     have:=vZ d hr A p B v q (λc=>by have:=D c;have:=d.mem.le1 c;omega) (λc hc=>by
      have h3:tot F s.toS.m c≠0:=by grind
      exact⟨d.mem.lt c h3,d.mem.nofz c h3,d.fr.tt c h3⟩)
     rw[<- nY (s:=s) (c:=.mp ku vu (S5 ku l kx)) (l:=(S5 ku l kx).map (wy ku vu)) rfl]at this
     grind
    grind
   grind
  grind
 grind
theorem M6{P:Program}(h:jQ P t ku=true)(k:El ku):nD (au ku k).toD (au ku k).toD=true:=by
 rw[rC h];cases ku with
 |i _=>show decide (k=k)=true;simp
 |bo=>cases(k:Bool)<;>rfl
 |s=>show decide (k=k)=true;simp
 |_=>cases h
theorem KE{x key:Operand}(Y:RX g s.toS a w H γ F)(hd:okD g.nt (some d)=true)(hx:aH x=true)(p:aH key=true)(h:nM P s t x key d k) :
  ∃t' y γ' F',(Instr.lookup t (a.eval x) (a.eval key) false).run P w=.ok y w/\k t'/\RX g t'.toS (a.put (some d) y) w H γ' F':=by
 unfold nM at h;split at h
 .rename_i kt et M;dsimp only at h;have e:RX g (s.fresh (.gh d)).toS a w H γ F:=by grind [bN,gB,dv]
  have q:ah (s.fresh (.gh d)).toS.m (.gh d)=none:=by grind [bN,gB,cE]
  generalize s.fresh (.gh d)=s1 at h e q;split at h
  .rename_i n c C E;split at h
   .rename_i ku u l hm;split at h
    .rename_i kx hc hk;simp only[akI]at hc;obtain⟨_,td,_,W,A,_⟩:=bh M (by simp);obtain rfl:=sK A;obtain⟨_,Z,_,r,N,_⟩:=bh rfl (nO hc.1);have hr:=wM hm
     have hy:=aJ e hx
     have j:=aJ e p
     rw[aj hx,C]at hy;rw[aj p,E]at j;obtain⟨b,es,ck,f,T,O,L,c3,V,R,X⟩:=tQ e hr hy;obtain⟨z,_,_,_,_,Q,_,zs,_⟩:=Gj hc.2;have o:FDx H (au ku kx).toD (a.eval key):=by rw[eL hk]at j;exact j.2
     have K:((moD ku u l none).all λx=>j8 (ty P kt).k x.1)=true:=oz hc.1 (xM u) l
     obtain⟨v,e1,I⟩:=tR (P:=P) W r L V (by grind) (by grind [gD]) o (Q w) false;have i:pI (moD ku u l none) (au ku kx).toD=(aU ku l kx).map (xM u):=u5 hc.1 (xM u) kx l
     have fin:∀(f1 B:Fp)(n':Nat),(∀c,f c=f1 c+B c)->OD w H n' (.ow (List.replicate (nc u) .fr)) (.li (((aU ku l kx).getD []).map (aw u))) f1 v->MpO w H (BS (moD ku u l none) (au ku kx).toD) es.toList B ->
       ∃t' y γ' F',(Instr.lookup t (a.eval x) (a.eval key) false).run P w=.ok y w/\k t'/\RX g t'.toS (a.put (some d) y) w H γ' F':=by
      intro f1 B n' hf G D;obtain⟨γ',F',J,q2⟩:=RN e hr O L c3 R hf D (n2:=.gh d) rfl q G;refine⟨_,v,γ',F',by grind,h,?_⟩;have U:((⟨s1.nx+1,s1.t,fp s1.m n s1.nx ⟨false,[.mo ku u l (some kx)],none⟩⟩:St).root (.gh d) ⟨false,[.ow (List.replicate (nc u) .fr) u ((aU ku l kx).getD [])],none⟩).toS=⟨s1.toS.t,(.gh d,⟨false,[.ow (List.replicate (nc u) .fr) (((aU ku l kx).getD []).map (aw u))]⟩)::cY s1.toS.m n ⟨false,[.mp (BS (moD ku u l none) (au ku kx).toD)]⟩⟩:=by
       have:=nY (s:=s1) (n:=n) (c:=.mo ku u l (some kx)) (l:=BS (moD ku u l none) (au ku kx).toD) rfl
       have h2:=congrArg S.m this
       have h1:=congrArg S.t this
       exact bT.S_ext h1 (congrArg (List.cons _) h2)
      rw[<- U]at J;refine bH (aM _ (some d) (.one (.c (.rf ⟨.gh d,0,[]⟩)))) (J.put hd (iE (sub:=List.replicate (nc u) .fr) (l:=((aU ku l kx).getD []).map (aw u)) ?_ q2))
      grind [ah]
     rw[i]at I;cases hl:aU ku l kx with
     |none=>
      rw[hl]at I;refine fin (λ_=>0) f 1 (λc=>(am1 _).symm) ?_ ?_
      all_goals grind [im,BS]
     |some rows=>grind [BS]
    grind
   grind
  grind
 grind
theorem N5{v:At}(i:RX g s.toS a w H γ F)(hy:AR w H γ s.toS.m x.toV y)(D:AR w H γ s.toS.m key.toV kv)(Q:AR w H γ s.toS.m v.toV vv)(h:rL P s t x key v k) :
  ∃t' w' F',(Instr.mapUpdate t y kv vv).run P w=.ok () w'/\k t'/\RX g t'.toS a w' H γ F':=by
 unfold rL at h;split at h
 .rename_i kt et X;split at h
  .rename_i n c q;split at h
   .rename_i ku u l o sub u' rows hm hq;split at h
    .rename_i kx L hc hk j;simp only[akI,alC,decide_eq_false_iff_not]at hc;obtain⟨d,N,z⟩:=hc;obtain⟨eu,rfl⟩:=jM j;subst eu;obtain rfl:=kX N;obtain⟨h0,h⟩:=h;obtain⟨_,td,_,hu,M,_⟩:=bh X (by simp);obtain rfl:=sK M;obtain⟨_,kd,_,I,ab,_⟩:=bh rfl (nO d);have hr:=wM hm
     have C:ah s.toS.m q=some ⟨false,[.ow (List.replicate (nc u') .fr) (rows.map (aw u'))]⟩:=bz hq
     have hR:=i.mem.roots _ (al C)
     obtain⟨vq,tq,p,E,O⟩:=hR;obtain rfl:tq=.ow (List.replicate (nc u') .fr) (rows.map (aw u')):=by grind
     obtain⟨nq,S⟩:=O;have aa:vv=vq:=by obtain⟨_,_,hv⟩:=Q;unfold plV at hv;rw[p]at hv;exact(Option.some.inj hv).symm
     have V:∀c,F n c+F q c<=tot F s.toS.m c:=λc=>vQ (F:=F) (al hr) (al C) (λe=>z e.symm) c
     have J:=um i q
     have ed:(s.drop q).toS=s.toS.drop q:=bT (gB i)
     have B:∀c,tot F (s.toS.drop q).m c+F q c=tot F s.toS.m c:=λc=>by
      show tot F (aP _ _) c+_=_
      grind [bC,mz]
     have K:ah (s.toS.drop q).m n=some ⟨false,[.mp (moD ku u' l o)]⟩:=by
      show ah (aP (bJ q) (ci s.toS.m q)) n=_
      rw[lr,nu (λe=>z e.symm),hr];rfl
     obtain⟨b,es,ck,f,ac,c1,W,c3,c4,c5,Y⟩:=tQ i hr hy;have r:FDx H (au ku kx).toD kv:=by rw[eL hk]at D;exact D.2
     have G:=M6 d kx
     have U:((moD ku u' l o).all λx=>j8 (ty P kt).k x.1)=true:=by
      cases o with
      |none=>exact oz d (xM u') l
      |some k0=>exact aaZ (gD d k0) (oz d (xM u') l)
     have A:lw (moD ku u' l o) (au ku kx).toD (xM u' rows)=moD ku u' (dz ku l kx rows) none:=by
      have e0:=E4 d (xM u') kx rows l
      cases o with
      |none=>exact e0
      |some k0=>subst h0;exact(acU G _ _).trans e0
     have R:F q b=0:=by have:=i.mem.le1 b;grind
     obtain⟨es',ck',f2,e1,Z,e3,T⟩:=Bu (P:=P) hu I W c3 c4 Y (by grind) (by grind [gD]) r (v:=xM u' rows) (n:=nq) (fv:=F q) R S;rw[A]at T;have:=vZ J K c1 W c5 Z T (λc=>by have:=e3 c;have:=B c;have:=i.mem.le1 c;omega) (λc hc=>by
      have h3:tot F s.toS.m c≠0:=by grind
      exact⟨i.mem.lt c h3,i.mem.nofz c h3,i.fr.tt c h3⟩)
     rw[<- ed,<- nY (s:=s.drop q) (c:=.mo ku u' (dz ku l kx rows) none) (l:=moD ku u' (dz ku l kx rows) none) rfl]at this
     grind
    grind
   grind
  grind
 grind
theorem N2{x:Operand}(j:RX g s.toS a w H γ F)(hd:okD g.nt (some d)=true)(hx:aH x=true)(h:rH s x d k) :
  ∃t' H' F',k t'/\RX g t'.toS (a.put (some d) (a.eval x)) w H' γ F':=by
 unfold rH at h;split at h
 .rename_i n e;split at h
  .rename_i ku u l hm;have hr:=wM hm
   have hy:=aJ j hx
   rw[aj hx,e]at hy;obtain⟨b,es,ck,f,i,m,_⟩:=tQ j hr hy;obtain⟨H',F',h2⟩:=Wp j hr;have hfz:ag9 (moD ku u l none)=l.map (wy ku (.sl u)):=by
    show(l.map (ag2 ku u)).map _=_
    rw[alW];rfl
   rw[hfz,<- nY (s:=s) (c:=.mp ku (.sl u) l) (l:=l.map (wy ku (.sl u))) rfl]at h2;refine⟨_,H',F',h,bH (aM _ (some d) (.one (.c (.rf ⟨n,0,[]⟩)))) (h2.put hd ?_)⟩;rw[i];refine vT (l:=l.map (wy ku (.sl u))) ?_ m;rw[nY (s:=s) (c:=.mp ku (.sl u) l) (l:=l.map (wy ku (.sl u))) rfl]
   grind [gj]
  grind
 grind
theorem Uh(z:Value)(n:Nat):(madeCells #[z] n).toList=List.replicate n z:=by
 unfold madeCells;apply List.ext_getElem
 all_goals grind
theorem Ck{e:En}{n c:Operand}(p:RX g s.toS a w H γ F)(hd:okD g.nt (some d)=true)(hno:aH n=true)(h:ju e s t (evA s n) (evA s c) (F7 n c) d k) :
  ∃t' y w' γ' F',(Instr.makeSlice t (a.eval n) (a.eval c)).run e.P w=.ok y w'/\k t'/\RX g t'.toS (a.put (some d) y) w' H γ' F':=by
 have f:F7 n c=true->a.eval c=a.eval n:=by
  intro hs;unfold F7 at hs
  grind [akO]
 have hv:=aJ p hno
 rw[aj hno]at hv;unfold ju at h;split at h
 .rename_i el G hs;split at h
  .rename_i i M;rw[M]at hv;obtain⟨hi,hw⟩:=oh hv;split at h
   .rename_i u T;split at h
    .rename_i hc;simp only[akI]at hc;obtain⟨⟨h0,h1,h2⟩,h⟩:=h;obtain⟨_,td,_,B,A,_⟩:=bh G (by simp);obtain rfl:=pJ A;obtain⟨z,it,C,J,z3,_,z5,Q,E⟩:=Gj hc.1.1;have r:(ty e.P el).ok=true:=by grind [ty,akO]
     obtain⟨K,_,D,_,_,R,O,_⟩:=jY r;rw[C]at D;obtain rfl:=Option.some.inj D;have hs1:it.size=1:=by grind [akO]
     rw[O]at h2;have b:=run_make_row (P:=e.P) t el it z B C J hs1 z3 .i64 .i64 i.toNat h2 kQ1 w
     rw[Int.toNat_of_nonneg h0]at b;have h3:=dv p (.gh d)
     have hn:=gB p
     have m:∀k,Cs (OD w H (k+1)) (List.replicate i.toNat ((jb e.sh el).getD [.fr])).flatten (List.replicate i.toNat [(au u (dflt u)).toD]).flatten (λ_=>0) (madeCells #[z] i.toNat).toList:=by
      intro k;rw[Uh];generalize i.toNat=N;induction N with
      |zero=>exact λ_=>rfl
      |succ N ih=>
       have hr:=hc.2
       generalize(jb e.sh el).getD [.fr]=sub at hr ih;unfold ZJ at hr;split at hr
       .exact⟨z,_,λ_=>0,λ_=>0,rfl,λ_=>rfl,gr.2 ⟨λ_=>rfl,z5 H⟩,ih⟩
       .rename_i j u';refine⟨z,_,λ_=>0,λ_=>0,rfl,λ_=>rfl,?_,ih⟩;show OD w H (k+1) (.ow j) (.li []) _ z
        grind [im]
       grind
     have v:((jb e.sh el).getD [.fr]).length=1:=by
      have hr:=hc.2
      unfold ZJ at hr
      grind
     obtain⟨γ',F',o,q⟩:=zn h3 (n:=.gh d) rfl (cE p (.gh d)) (cs:=madeCells #[z] i.toNat) (ty':=el) (len:=i.toNat) (cap:=i.toNat) (sub:=(jb e.sh el).getD [.fr]) (l:=List.replicate i.toNat [(au u (dflt u)).toD]) (by simp) (akK _) (by show i.toNat<=2 ^ 62;omega)
      (λx hx=>by grind) (by grind [size_madeCells]) m
     refine⟨_,_,_,γ',F',by rw[f hs,hi];exact b,h,?_⟩;have L:(List.replicate i.toNat (dflt u)).map (aw u)=List.replicate i.toNat [(au u (dflt u)).toD]:=by rw[List.map_replicate];rw[<- cj,nl E];rfl
     have I:((s.fresh (.gh d)).root (.gh d) ⟨false,[.ow ((jb e.sh el).getD [.fr]) u (List.replicate i.toNat (dflt u))],none⟩).toS=(s.toS.fresh (.gh d)).root (.gh d) ⟨false,[.ow ((jb e.sh el).getD [.fr]) (List.replicate i.toNat [(au u (dflt u)).toD])]⟩:=by rw[<- L,<- bN hn];rfl
     rw[<- I]at o;refine bH (aM _ (some d) (.one (.c (.rf ⟨.gh d,0,[]⟩)))) (RX.put o hd (iE (sub:=(jb e.sh el).getD [.fr]) (l:=List.replicate i.toNat [(au u (dflt u)).toD]) ?_ q))
     grind [S.root,ah]
    grind
   grind
  grind
 grind
end
end Go.Am
end

section
namespace Go.Am
variable{sub:List Sh}
section
variable {P:Program} {g:G} {s:S} {a:Act} {w:World} {H:FH} {γ:Gam} {F:Nm->Fp}
theorem Me(h:RX g s a w H γ F){n:Nm}(hno:n.isOut=false)(hn:ah s.m n=none){cs:Array Value}{ty':TypeId}{row:List D}{k:Nat}{f:Fp}(hx:row.length=sub.length)(u:cs.size=sub.length)
  (p:Cs (OD w H k) sub row f cs.toList) (hd:∀b,tot F s.m b+f b<=1) (hl:∀b,f b≠0->b<w.heap.size/\(∀o,H b o=none)/\(g.own0 b≠0\/g.w0.heap.size<=b)) :
  ∃γ' F',RX g (s.root n ⟨false,[.ow sub [row]]⟩) a (w.alloc (.cells cs ty')) H γ' F'/\γ' n=.gh (.slice (some ⟨w.heap.size,0,none⟩) 1 1):=by
 obtain⟨hm,hf,z,C⟩:=qV h.mem cs ty' false;have A:=kl h hm hf (λi=>dK z (λ_ _ _ h=>h) (h.t i)) (λ_=>rfl)
 have hz:tot F s.m w.heap.size=0:=by
  rcases alI (tot F s.m w.heap.size)with h'|h'
  .exact h'
  have:=h.mem.lt w.heap.size kQ1;omega
 have B:∀o,H w.heap.size o=none:=by
  intro o;cases hc:H w.heap.size o with
  |none=>rfl
  |some y=>have:=(h.mem.agree _ _ _ hc).lt;omega
 have q:Cs (OD (w.alloc (.cells cs ty')) H k) sub row f cs.toList:=lY _ _ _ _ (λs x g v E d=>cZ (λ_ _ _ h=>h) k k _ _ _ _ (akK _) (λb hb=>dl (hl b (by grind)).1) d) p
 have d:TR (w.alloc (.cells cs ty')) H γ s.m (.ow sub [row]) (λb=>f b+if b=w.heap.size then 1 else 0) (.slice (some ⟨w.heap.size,0,none⟩) 1 1):=by
  refine⟨k+1,zk (l:=[row]) (c:=1) (bL) rfl kQ1 (akK _) (by show 1<=4611686018427387904;omega) (λx r=>by grind) ?_⟩
  grind
 have j:(w.alloc (.cells cs ty')).heap.size=w.heap.size+1:=by simp_all
 refine eE A hno hn d (λb=>?_) (λb hb=>?_) (λb hb=>?_)
 .grind
 .grind
 by_cases e:b=w.heap.size
 .subst e;right;exact h.fr.size
 grind
end
theorem Ea:∀{ts:List Tt}{i j:Nat}{q:Pl},D9 ts i=some (j,q)->i<=j/\ts[j-i]? = some (.rf q)
 |[],_,_,_,h=>by cases h
 |t::r,i,j,q,h=>by
  have next:D9 r (i+1)=some (j,q)->i<=j/\(t::r)[j-i]? = some (.rf q):=λh=>by
   obtain⟨h1,h2⟩:=Ea h
   grind
  cases t with
  |rf a=>grind [D9]
  |_=>exact next h
theorem I8{n:Nat}{us z:Array Value}(a:us.size=n)(hz:z.size=1*n):Instr.fill (λi=>some (i*n,n)) z [(0,.agg us)]=some us:=by
 have hc:(Value.agg us).cells=us:=rfl
 simp only[Instr.fill,hc];rw[if_neg (by grind)]
 congr 1
 have key:∀(k:Nat)(l:List Value)(z:Array Value),k+l.length<=z.size->((l.zipIdx k).foldl (λcs(x:Value×Nat)=>cs.setIfInBounds (0*n+x.2) x.1) z).toList=z.toList.take k++l++z.toList.drop (k+l.length):=by
  intro k l;induction l generalizing k with
  |nil=>simp_all
  |cons x l ih=>
   intro z hk;simp only[List.zipIdx_cons,alZ];rw[ih (k+1) _ (by grind)];simp only[Array.toList_setIfInBounds];rw[List.take_set,List.drop_set_of_lt kQ1]
   grind [List.take_add_one,ak3]
 apply Array.ext'
 have e:us.zipIdx.foldl (λcs(x:Value×Nat)=>cs.setIfInBounds (0*n+x.2) x.1) z=(us.toList.zipIdx 0).foldl (λcs(x:Value×Nat)=>cs.setIfInBounds (0*n+x.2) x.1) z:=by grind [Array.toList_zipIdx]
 grind
section
variable {P:Program} {g:G} {s:St} {a:Act} {w:World} {H:FH} {γ:Gam} {F:Nm->Fp} {k:St->Prop}
theorem yd{E:Ut}{sub:List Sh}{t:TypeId}{len:Nat}{ps:Array (Nat×Operand)}{d:Tmp}(N:RX g s.toS a w H γ F)(hd:okD g.nt (some d)=true)(J:(ps.toList.all λx=>aH x.2)=true)(h:gf P E sub s t len ps d k) :
  ∃t' y w' γ' F',(Instr.buildSlice t len (ps.map λ(i,x)=>(i,a.eval x))).run P w=.ok y w'/\k t'/\RX g t'.toS (a.put (some d) y) w' H γ' F':=by
 unfold gf at h;split at h
 .rename_i e ht;split at h
  .rename_i u z ts he hz hp;split at h
   .rename_i j q hj;split at h
    .rename_i ak aq u' l2 Z ao;split at h
     .rename_i s1 al l' hb;split at h
      .rename_i l hc hl;simp only[akI]at hc;obtain⟨⟨⟨⟨⟨⟨c1,c2⟩,c3⟩,c4⟩,c5⟩,c6⟩,c7,c8,c9⟩:=hc;have an:=akO c2
       obtain rfl:=akO c4;have am:=akO c5
       have ay:=akO c6
       obtain rfl:=kX c7;obtain⟨pl⟩:=ps;have p:pl.map (λx=>(x.1,evA s x.2))=[(0,.one (.agg ts))]:=hp
       match pl,p,J with
       |[],p,_=>cases p
       |_::_::_,p,_=>grind
       |[(i,x)],p,J=>
       simp only[akM,alN,List.cons.injEq,Prod.mk.injEq,and_true]at p;obtain⟨rfl,hx⟩:=p;have hop:aH x=true:=by grind
       have hv:=aJ N hop
       rw[aj hop,hx]at hv;obtain⟨cs,r,L,A⟩:=hv;have L:cs.size=ts.length:=by grind
       obtain⟨_,D⟩:=Ea hj;rw[Nat.sub_zero]at D;have au:j<ts.length:=(al3.1 D).1
       have V:(ts.map Tt.toT)[j]? = some (.rf q):=by rw[akN,D];rfl
       obtain⟨_,v,gv,_,ag,K,av⟩:=sP A V;have R:AR w H γ s.toS.m (.one (.c (.rf q))) v:=⟨λ_=>rfl,K.2⟩
       have U:=gB N
       obtain⟨b1,b2,_⟩:=m8 (size:=nc u') rfl U (λq' ac=>by cases ac;exact qq K.2.1) hb
       obtain⟨M,f,F1,k1,k2,k3,k4,k5⟩:=m9 N R b1;have hfz:=vL c9
       obtain⟨_,_,_,fk,fr,_,_,_,a4,_,a6,_⟩:=dq _ _ _ _ j A kQ1;have aa:Ts (TR w H γ s.toS.m) ((ts.set j .nil).map Tt.toT) (λ_=>0) (cs.toList.set j (.slice none 0 0)):=by
        have:=a6 (λ_=>TR w H γ s.toS.m) .nil (.slice none 0 0) (λ_=>0) (λ_ _ _ _ _ h=>h) ⟨λ_=>rfl,rfl⟩
        unfold Ts;rw[akT,amL];rw[akT]at this;rw[alB];exact pL (λb=>by grind) this
       have hC:=Ey (k:=M) (λ_=>rfl) hfz aa
       obtain⟨sj,_,_,ap,X,d1,_,_,d4,_,d6,_⟩:=dq _ _ _ _ j hC (by grind);rw[Z]at d1;obtain rfl:=Option.some.inj d1;have C:=d6 (OD w H (M+1)) (.li (l'.map (aw u'))) v f (λ_ _ _ _ _ h=>h) (cZ (λ_ _ _ h=>h) M (M+1) _ _ _ _ (alD _) (λ_ _=>rfl) k1)
       rw[amD,show cs.toList.set j v=cs.toList from qJ ag]at C;have o:=oO hl
       simp only[akM,alN]at o
       match l,hl,o,h with
       |[],_,o,_=>grind
       |_::_::_,_,o,_=>grind
       |[y],hl,o,h=>
       simp only[akM,alN,List.cons.injEq,and_true]at o;have e1:((ts.set j .nil).map λt=>t.toT.fz).set j (.li (l'.map (aw u')))=aw u y:=by rw[<- o,alB,amD,alB];rfl
       rw[e1]at C;have ab:=dv k2 (.gh d)
       have ae:∀b,tot F1 (s1.toS.fresh (.gh d)).m b<=tot F1 s1.toS.m b:=by
        intro b;unfold S.fresh;split
        .omega
        show tot F1 (aP _ _) b<=_
        rw[bC];exact gL
       obtain⟨_,td,_,ai,ad,_⟩:=bh ht (by simp);obtain rfl:=pJ ad;obtain⟨O,de,I,_,_,af,_,_⟩:=jY c1;obtain⟨W,z0,Y,T,_,_⟩:=kZ hz;rw[I]at Y;obtain rfl:O=W:=by grind
       have ax:O.size=nc u:=by omega
       obtain⟨us,ar,r1,r2,r3⟩:=kf (P:=P) (w:=w) (t:=t) (len:=1) (vs:=#[(0,a.eval x)]) (cells:=#[]) ai I T (by grind [akR]) (λus hus=>by refine⟨cs,?_,by omega,.inr trivial⟩;rw[r];exact I8 kQ1 hus)
       have B:Instr.fill (λi=>some (i*O.size,O.size)) us #[(0,a.eval x)].toList=some cs:=by rw[r];exact I8 kQ1 r1
       rw[B]at r2;obtain rfl:=Option.some.inj r2;obtain⟨γ',F',G,Q⟩:=Me (ty':=e) ab (n:=.gh d) rfl (cE k2 (.gh d)) (by grind) kQ1 (pL (f:=λb=>f b+X b) (g:=f) (λb=>by grind) C)
        (λb=>by have h1:=ae b;have h2:=k4 b;have h3:=N.mem.le1 b;omega) k5
       have e2:((s1.fresh (.gh d)).root (.gh d) ⟨false,[.ow sub u [y]],none⟩).toS=(s1.toS.fresh (.gh d)).root (.gh d) ⟨false,[.ow sub [aw u y]]⟩:=by rw[<- bN b2];rfl
       rw[<- e2]at G;refine⟨_,_,_,γ',F',by rw[show(Array.map (λ(x:Nat×Operand)=>(x.1,a.eval x.2)) ⟨[(0,x)]⟩)=#[(0,a.eval x)]from by simp];exact r3,h,?_⟩;refine bH (aM _ (some d) (.one (.c (.rf ⟨.gh d,0,[]⟩)))) (RX.put G hd (iE (sub:=sub) (l:=[aw u y]) ?_ Q))
       grind [S.root,ah]
      grind
     grind
    grind
   grind
  grind
 grind
theorem Cw{α β:Type}{R:α->β->Fp->Value->Prop}:∀(a:List α)(c:List β){b:List α}{d:List β}{f:Fp}{vs:List Value},a.length=c.length->Cs R (a++b) (c++d) f vs->∃f':Fp,Cs R a c f' vs/\∀x,f' x<=f x
 |[],[],_,_,_,_,_,_=>⟨λ_=>0,λ_=>rfl,λ_=>alJ _⟩
 |x::a,y::c,b,d,f,vs,hl,h=>by obtain⟨v,r,f1,e,h1,h2,h3,h4⟩:=h;obtain⟨f',k1,k2⟩:=Cw a c (by grind) h4;exact⟨λq=>f1 q+f' q,⟨v,r,f1,f',h1,λ_=>rfl,h3,k1⟩,λq=>by grind⟩
 |[],_::_,_,_,_,_,hl,_=>by grind
 |_::_,[],_,_,_,_,hl,_=>by grind
theorem aaN{k:Nat}{l:List (List D)}{f:Fp}{v:Value}{m:Nat}(hm:m<=l.length)(h:OD w H k (.ow sub) (.li l) f v) :
  ∃ad c,v=.slice ad l.length c/\l.length<=c/\(∀b,ad=some b->b=⟨b.block,0,none⟩)/\∃f':Fp,OD w H k (.ow sub) (.li (l.take m)) f' (.slice ad m c)/\∀x,f' x<=f x:=by
 cases k with
 |zero=>simp[OD]at h
 |succ k=>
 rcases h with⟨rfl,rfl,h0⟩|⟨b,c,cs,ty,fr,g',h1,h2,h3,h4,h5,h6,h7,h8,h9⟩
 .obtain rfl:m=0:=by grind
  exact⟨none,0,rfl,akK _,(λb hb=>by cases hb),f,im.2 (.inl ⟨rfl,rfl,h0⟩),λ_=>akK _⟩
 subst h1;have i:(List.replicate l.length sub).flatten=(List.replicate m sub).flatten++(List.replicate (l.length-m) sub).flatten:=by grind [List.replicate_append_replicate]
 have e:l.flatten=(l.take m).flatten++(l.drop m).flatten:=by grind [amI]
 have a:(l.take m).length=m:=by grind
 have d:∀x∈l.take m,x.length=sub.length:=λx hx=>h7 x (List.mem_of_mem_take hx)
 rw[i,e]at h8;obtain⟨f',k1,k2⟩:=Cw _ _ (by rw[db _ _ d,a];simp) h8;refine⟨_,c,rfl,h5,λb' hb=>by grind,λx=>f' x+if x=b then 1 else 0,im.2 (.inr ⟨b,c,cs,ty,fr,f',by rw[a],h2,h3,h4,by omega,by omega,d,by grind,λ_=>rfl⟩),λx=>by grind⟩
theorem La{e:En}{t:TypeId}{x hi:Operand}{d:Tmp}(p:RX g s.toS a w H γ F)(hd:okD g.nt (some d)=true)(hx:aH x=true)(r:aH hi=true)(h:nR e s t x hi d k) :
  ∃t' y γ' F',(∀w:World,(Instr.sliceAt t (a.eval x) none (some (a.eval hi)) none).run e.P w=.ok y w)/\k t'/\RX g t'.toS (a.put (some d) y) w H γ' F':=by
 unfold nR at h;split at h
 .rename_i el N;split at h
  .rename_i q n G I;split at h
   .rename_i u0 W _;split at h
    .rename_i s1 sub l A hb;obtain⟨⟨Q,K⟩,h⟩:=h;have hy:=aJ p hx
     have hn:=aJ p r
     rw[aj hx,G]at hy;rw[aj r,I]at hn;obtain⟨b1,b2,_⟩:=m8 (size:=nc u0) rfl (gB p) (λU D=>by cases D;exact qq hy.2.1) hb
     obtain⟨M,f,F1,k1,k2,k3,k4,k5⟩:=m9 p hy b1;obtain⟨ad,c,hv,hc,L,f',V,q2⟩:=aaN (m:=n.toNat) (by grind) k1;rw[akT]at hv hc;obtain⟨_,td,_,J,E,_⟩:=bh N (by simp);obtain rfl:=pJ E;obtain⟨i,T,C,_⟩:=jY A;obtain⟨a',b',⟨rfl,rfl,_⟩,z⟩:=lh (P:=e.P) (isS:=true) (len:=l.length) (cap:=c) (vlo:=none) (lo:=none) (k:=λa b=>a=0/\b=n.toNat/\b<=l.length) trivial (show RE w H γ s.toS.m (some (At.one (.c (.d (.i .i64 n)))).toV) (some (a.eval hi))from hn) hc (show iI none 0 _ from⟨Q,rfl,rfl,K⟩) (λa b h=>by omega);have j:∀w:World,(Instr.sliceAt t (a.eval x) none (some (a.eval hi)) none).run e.P w=.ok (.slice ad n.toNat c) w:=by rw[hv];simp only[Instr.sliceAt];simp only[Instr.slice,Sem.run_bind,run_underlying J,Result.andThen_ok,z,cJ C,Sem.run_pure];cases ad<;>grind [eF]
     have B:=dv k2 (.gh d)
     have R:∀b,tot F1 (s1.toS.fresh (.gh d)).m b<=tot F1 s1.toS.m b:=by
      intro b;unfold S.fresh;split
      .omega
      show tot F1 (aP _ _) b<=_
      rw[bC];exact gL
     obtain⟨γ',F',o,u⟩:=eE B (n:=.gh d) rfl (cE k2 (.gh d)) (v:=.slice ad n.toNat c) (t:=.ow sub ((l.take n.toNat).map (aw u0))) (f:=f') ⟨M,by grind [amE]⟩
      (λb=>by have h3:=p.mem.le1 b;grind) (λb hb=>by grind) (λb hb=>(k5 b (by grind)).2.2)
     have O:((s1.fresh (.gh d)).root (.gh d) ⟨false,[.ow sub u0 (l.take n.toNat)],none⟩).toS=⟨(s1.toS.fresh (.gh d)).t,(.gh d,⟨false,[.ow sub ((l.take n.toNat).map (aw u0))]⟩)::(s1.toS.fresh (.gh d)).m⟩:=by rw[<- bN b2];rfl
     rw[<- O]at o;refine⟨_,_,γ',F',j,h,?_⟩;refine bH (aM _ (some d) (.one (.c (.rf ⟨.gh d,0,[]⟩)))) (RX.put o hd (iE (sub:=sub) (l:=(l.take n.toNat).map (aw u0)) ?_ u))
     grind [ah]
    grind
   grind
  grind
 grind
end
end Go.Am
end
