/-
  Part 14: AmE3m · AmE3n.
-/
import Derived.Test.YtgpedlcblhiklaaGreatDoorVo13
import Derived.Deep.OwnRows
set_option linter.unusedSimpArgs false
set_option linter.unusedVariables false
set_option linter.unusedSectionVars false
set_option linter.unnecessarySimpa false
section
namespace Go.Am
open Go.MapKept
variable{β:Type}
def BR(ku:U)(g:β->Sh×D)(x:El ku×β):D×Sh×D:=((am ku x.1).toD,g x.2)
abbrev vV(ku vu:U):El ku×El vu->D×Sh×D:=BR ku fun v=>(.fr,(am vu v).toD)
abbrev uX(u:U)(l:List (El u)):Sh×D:=(.ow (List.replicate (nc u) .fr),.li (l.map (ap u)))
variable{ku:U}{t:TypeId}
theorem qI{P:Program}(h:jA P t ku=true)(a b:El ku):mL (am ku a).toD (am ku b).toD=lX ku a b:=by
 cases ku with
 |i k=>show(decide (k=k)&&decide (a=b))=decide (a=b);simp
 |bo=>rfl
 |s=>rfl
 |_=>cases h
theorem gr{P:Program}(h:jA P t ku=true)(a:El ku):jK (ty P t).k (am ku a).toD=true:=by
 cases ku with
 |i k=>
  have h:decide ((ty P t).k=.int k)=true:=h
  rw[of_decide_eq_true h];show decide (k=k)=true;simp
 |bo=>
  have h:decide ((ty P t).k=.bool)=true:=h
  rw[of_decide_eq_true h];rfl
 |s=>
  have h:decide ((ty P t).k=.str)=true:=h
  rw[of_decide_eq_true h];rfl
 |_=>cases h
theorem mW{P:Program}(h:jA P t ku=true):(ty P t).k≠.ot:=by
 intro e;cases ku<;>first|grind [jA]|cases h
theorem nw{P:Program}(h:jA P t ku=true)(g:β->Sh×D)(l:List (El ku×β)):((l.map (BR ku g)).all fun x=>jK (ty P t).k x.1)=true:=by
 rw[List.all_map];exact ajB.2 fun x _=>gr h x.1
theorem uD{P:Program}(h:jA P t ku=true)(g:β->Sh×D)(k:El ku):∀l:List (El ku×β),oQ (l.map (BR ku g)) (am ku k).toD=(aw ku l k).map g
 |[]=>rfl
 |x::l=>by
  simp only[aiZ,oQ,aw,BR,qI h];cases lX ku x.1 k with
  |true=>rfl
  |false=>exact uD h g k l
theorem Fb{P:Program}(h:jA P t ku=true)(g:β->Sh×D)(k:El ku)(v:β):∀l:List (El ku×β),jJ (l.map (BR ku g)) (am ku k).toD (g v)=(bV ku l k v).map (BR ku g)
 |[]=>rfl
 |x::l=>by
  have ih:=Fb h g k v l
  simp only[aiZ,jJ,bV,BR,qI h];cases lX ku x.1 k with
  |true=>rfl
  |false=>simp only[aiZ];rw[<- ih];rfl
theorem P4{P:Program}(h:jA P t ku=true)(g:β->Sh×D)(k:El ku):∀l:List (El ku×β),EZ (l.map (BR ku g)) (am ku k).toD=(sB ku l k).map (BR ku g)
 |[]=>rfl
 |x::l=>by
  have ih:=P4 h g k l
  simp only[aiZ,EZ,sB,BR,qI h];cases lX ku x.1 k with
  |true=>rfl
  |false=>simp only[aiZ];rw[<- ih];rfl
theorem Qf{k:D}(hk:mL k k=true)(a b:Sh×D):∀l:List (D×Sh×D),jJ (jJ l k a) k b=jJ l k b
 |[]=>by grind [jJ]
 |x::l=>by
  simp only[jJ];cases h:mL x.1 k with
  |true=>grind [jJ]
  |false=>simp only[jJ,h,Qf hk a b l]
theorem aa0{k:D}(hk:mL k k=true)(b:Sh×D)(l:List (D×Sh×D)):jJ (BP l k) k b=jJ l k b:=by
 grind [BP,Qf]
theorem PM{κ:TK}{k:D}(hk:jK κ k=true)(v:Sh×D):∀{l:List (D×Sh×D)},(l.all fun x=>jK κ x.1)=true->((jJ l k v).all fun x=>jK κ x.1)=true
 |[],_=>by simp[jJ,hk]
 |x::l,h=>by
  simp only[ajE,aiW]at h;simp only[jJ];split
  ·grind
  ·simp only[ajE,h.1,PM hk v h.2,Bool.and_self]
variable{l:List (D×Sh×D)}
theorem Zv{κ:TK}{k:D}(hk:jK κ k=true)(h:(l.all fun x=>jK κ x.1)=true):((BP l k).all fun x=>jK κ x.1)=true:=by
 grind [BP,PM]
variable{u:U}
theorem Gu{P:Program}(h:zOK P t u=true):∃z it,P.info? t=some it/\it.zero=some z/\z.cells=#[z]/\(∀w,(zeroValue t).run P w=.ok z w)/\(∀H,FDx H (am u (dflt u)).toD z)/\(∀v,u=.sl v->z=.slice none 0 0)/\leaf u=true:=by
 unfold zOK at h;have run:∀{z:Value},(P.info? t).bind (·.zero)=some z->∃it,P.info? t=some it/\it.zero=some z/\∀w,(zeroValue t).run P w=.ok z w:=by
  simp_all[ajL,zeroValue,typeInfo]
 split at h
 ·rename_i k n k' hz;obtain⟨it,h1,h2,h3⟩:=run hz;simp only[aiW,decide_eq_true_eq]at h;obtain⟨⟨rfl,rfl⟩,_⟩:=h;exact⟨_,it,h1,h2,rfl,h3,fun H=>⟨0,rfl,by cases k<;>decide⟩,(fun _ e=>by cases e),rfl⟩
 ·rename_i b hz;obtain⟨it,h1,h2,h3⟩:=run hz;cases b with
  |true=>cases h
  |false=>exact⟨_,it,h1,h2,rfl,h3,fun H=>⟨0,rfl⟩,(fun _ e=>by cases e),rfl⟩
 ·rename_i str hz;obtain⟨it,h1,h2,h3⟩:=run hz;refine⟨_,it,h1,h2,rfl,h3,fun H=>⟨0,?_,ajW _⟩,(fun _ e=>by cases e),rfl⟩;obtain⟨⟨l⟩⟩:=str;cases l with
  |nil=>rfl
  |cons x l=>simp at h
 ·rename_i u hz;obtain⟨it,h1,h2,h3⟩:=run hz;exact⟨_,it,h1,h2,rfl,h3,fun H=>lj,fun _ _=>rfl,rfl⟩
 ·rename_i ku vu hz;obtain⟨it,h1,h2,h3⟩:=run hz;exact⟨_,it,h1,h2,rfl,h3,fun H=>⟨0,rfl⟩,(fun _ e=>by cases e),rfl⟩
 grind
variable{d:Tmp}{key x:At}{kv vv y:Value}{n:Nm}
section
variable {P:Program} {g:G} {a:Act} {w:World} {H:FH} {γ:Gam} {F:Nm->Fp} {s:St} {k k':St->Prop}
theorem Fy{E:Ut}{own:Bool}(hk:∀s',Ext s s'->k s'->k' s')(h:jy P E own s t d k):jy P E own s t d k':=by
 unfold jy at h⊢
 (repeat' split at h)<;>first|exact h.elim|exact hk _ (((bY _ _).trans (dk _ _ _)).trans (aC _ _ _)) h
theorem Fz{m:List (Nm×Nat×Rt)}{ok:Bool}{k k':At->Prop}(hk:∀v,k v->k' v)(h:qQ P m t x key ok k):qQ P m t x key ok k':=by
 unfold qQ at h⊢
 (repeat' split at h)<;>first|exact h.elim|grind
theorem Ky{v:At}(hk:∀s',Ext s s'->k s'->k' s')(h:qU P s t x key v k):qU P s t x key v k':=by
 unfold qU at h⊢
 (repeat' split at h)<;>first|exact h.elim|exact hk _ ⟨ajV _,fun _ _ _ h _=>h,dz _ _ (ai0 _) _⟩ h
theorem Ku(hk:∀s',Ext s s'->k s'->k' s')(h:qO P s t x key k):qO P s t x key k':=by
 unfold qO at h⊢
 (repeat' split at h)<;>first|exact h.elim|exact hk _ ⟨ajV _,fun _ _ _ h _=>h,dz _ _ (ai0 _) _⟩ h
theorem tG(s:St)(n:Nm)(r:Rt):Ext s ⟨s.nx+1,s.t,eI s.m n s.nx r⟩:=⟨ajV _,fun _ _ _ h _=>h,dz _ _ (ai0 _) _⟩
theorem FA{x key:Operand}(hk:∀s',Ext s s'->k s'->k' s')(h:mU P s t x key d k):mU P s t x key d k':=by
 unfold mU at h⊢;dsimp only at h⊢
 (repeat' split at h)<;>first|exact h.elim|exact hk _ ((((bY _ _).trans (tG _ _ _)).trans (dk _ _ _)).trans (aC _ _ _)) h
theorem Kx{v:At}(hk:∀s',Ext s s'->k s'->k' s')(h:qS P s t x key v k):qS P s t x key v k':=by
 unfold qS at h⊢;dsimp only at h⊢
 (repeat' split at h)<;>first|exact h.elim|exact⟨h.1,hk _ ((tF _ _).trans (tG _ _ _)) h.2⟩
theorem Kv{x:Operand}(hk:∀s',Ext s s'->k s'->k' s')(h:qP s x d k):qP s x d k':=by
 unfold qP at h⊢
 (repeat' split at h)<;>first|exact h.elim|exact hk _ ((tG _ _ _).trans (aC _ _ _)) h
theorem AH{e:En}{n c:At}{b:Bool}(hk:∀s',Ext s s'->k s'->k' s')(h:iZ e s t n c b d k):iZ e s t n c b d k':=by
 unfold iZ at h⊢
 (repeat' split at h)<;>first|exact h.elim|exact⟨h.1,hk _ (((bY _ _).trans (dk _ _ _)).trans (aC _ _ _)) h.2⟩
theorem Ks{E:Ut}{own:Bool}(hX:RX g s.toS a w H γ F)(hd:okD g.nt (some d)=true)(h:jy P E own s t d k){r:Option Value}(hr:∀v,r=some v->∃κ n,v=.int κ n) :
  ∃t' y w' γ' F',(Instr.makeMap t r).run P w=.ok y w'/\k t'/\RX g t'.toS (a.put (some d) y) w' H γ' F':=by
 have o:∀{kt et:TypeId}{c:Tt},(ty P t).k=.mp kt et->c.toT=.mp []->k (((s.fresh (.gh d)).root (.gh d) ⟨false,[c],none⟩).put (some d) (.one (.c (.rf ⟨.gh d,0,[]⟩))))->∃t' y w' γ' F',(Instr.makeMap t r).run P w=.ok y w'/\k t'/\RX g t'.toS (a.put (some d) y) w' H γ' F':=by
  intro kt et c f hc hk;obtain⟨_,td,_,p,j,_⟩:=aY f (by simp);obtain rfl:=rV j;have hn:=gR hX
  have h1:=cW hX (.gh d)
  obtain⟨γ',F',h2,i⟩:=Q7 h1 (n:=.gh d) rfl (cC hX (.gh d));have b:(Instr.makeMap t r).run P w=.ok (.map (some w.heap.size)) (w.alloc (.map #[] 0)):=by
   cases r with
   |none=>rfl
   |some v=>
    obtain⟨κ,n,rfl⟩:=hr v rfl
    simp_all[Instr.makeMap,run_underlying,asInt,asIntOf]
  refine⟨_,_,_,γ',F',b,hk,?_⟩;have e:((s.fresh (.gh d)).root (.gh d) ⟨false,[c],none⟩).toS=⟨(s.toS.fresh (.gh d)).t,(.gh d,⟨false,[.mp []]⟩)::(s.toS.fresh (.gh d)).m⟩:=by
   rw[<- bE hn];show(⟨_,(Nm.gh d,(⟨false,[c.toT]⟩:Root))::_⟩:S)=_
   rw[hc];rfl
  rw[<- e]at h2;refine br (aJ _ (some d) (.one (.c (.rf ⟨.gh d,0,[]⟩)))) (h2.put hd ?_);exact vo (l:=[]) (by grind [af]) i
 unfold jy at h;split at h
 ·rename_i kt et f;split at h
  ·exact o f rfl h
  ·exact o f rfl h
  grind
 grind
theorem qN{p:Pl}{vu:U}{l:List (El ku×El vu)}(h:wt s.m p=some ⟨ku,vu,l⟩):∃n,p=⟨n,0,[]⟩/\af s.toS.m n=some ⟨false,[.mp (l.map (vV ku vu))]⟩:=by
 unfold wt at h;split at h
 ·rename_i n;split at h
  ·rename_i hr;cases h;exact⟨n,rfl,bz hr⟩
  grind
 grind
theorem wq{l:List (El ku×List (El u))}{o:Option (El ku)}(h:wo s.m n=some ⟨ku,u,l,o⟩):af s.toS.m n=some ⟨false,[.mp (moD ku u l o)]⟩:=by
 unfold wo at h;split at h
 ·rename_i hr;cases h;exact bz hr
 grind
theorem s8(hX:RX g s.toS a w H γ F)(hr:af s.toS.m n=some ⟨false,[.mp l]⟩)(hy:AR w H γ s.toS.m (.one (.c (.rf ⟨n,0,[]⟩))) y) :
  ∃b es ck,∃f:Fp,y=.map (some b)/\γ n=.gh (.map (some b))/\w.heap[b]? = some (.map es ck)/\Stamped es ck/\MpO w H l es.toList f/\(∀c,F n c=f c+if c=b then 1 else 0)/\f b=0:=by
 obtain⟨b,es,ck,f,d,c2,c3,c4,c5,e⟩:=XQ hX.mem hr;obtain⟨_,_,hv⟩:=hy;refine⟨b,es,ck,f,?_,d,c2,c3,c4,c5,e⟩;unfold plV at hv;dsimp only at hv;rw[d]at hv;exact(Option.some.inj hv).symm
theorem AS{P:Program}(h:jA P t u=true):leaf u=true:=by cases u<;>first|rfl|cases h
theorem NM{ok:Bool}{k:At->Prop}(hX:RX g s.toS a w H γ F)(hy:AR w H γ s.toS.m x.toV y)(i:AR w H γ s.toS.m key.toV kv)(h:qQ P s.m t x key ok k) :
  ∃z v,(Instr.lookup t y kv ok).run P w=.ok z w/\AR w H γ s.toS.m v.toV z/\k v:=by
 unfold qQ at h;split at h
 ·rename_i kt et D;split at h
  ·rename_i p c;split at h
   ·rename_i ku vu l I;split at h
    ·rename_i kx hc hk;simp only[aiW]at hc;obtain⟨_,td,_,u,q,_⟩:=aY D (by simp);obtain rfl:=rV q;obtain⟨_,G,_,j,C,_⟩:=aY rfl (mW hc.1);obtain⟨n,rfl,hr⟩:=qN I;obtain⟨b,es,ck,f,rfl,_,c2,c3,c4,_⟩:=s8 hX hr hy;obtain⟨z,_,_,_,_,A,E,_,K⟩:=Gu hc.2;have d:FDx H (am ku kx).toD kv:=by rw[dX hk]at i;exact i.2
     obtain⟨v,r,B⟩:=s9 (P:=P) u j c2 c4 (by grind [nw]) (by grind [gr]) d (A w) ok;rw[uD hc.1]at r B;have hv:FDx H (am vu ((aw ku l kx).getD (dflt vu))).toD v:=by
      cases hl:aw ku l kx<;>grind [fZ]
     refine⟨_,_,r,?_,h⟩;unfold Yu;cases ok with
     |true=>exact⟨_,rfl,⟨fun _=>rfl,hv⟩,⟨fun _=>rfl,0,by rw[Option.isSome_map];rfl⟩,trivial⟩
     |false=>exact⟨fun _=>rfl,hv⟩
    grind
   grind
  ·rename_i ku vu z c;split at h
   ·rename_i kx hc hk;simp only[aiW]at hc;obtain⟨_,td,_,u,q,_⟩:=aY D (by simp);obtain rfl:=rV q;obtain⟨_,G,_,j,C,_⟩:=aY rfl (mW hc.1);obtain⟨J,_,_,_,_,A,E,_,K⟩:=Gu hc.2.1;have d:FDx H (am ku kx).toD kv:=by rw[dX hk]at i;exact i.2
    have o:jK (gA P G) (am ku kx).toD=true:=by grind [gr]
    have hd:FDx H (.mp (z.map fun l=>l.map fun x=>((ap ku x.1).headD .any,(ap vu x.2).headD .any))) y:=hy.2
    cases z with
    |none=>
     obtain⟨b,rfl⟩:=Eu hd;have hb:b=none:=by
      obtain⟨m,hd⟩:=hd;have hd:Value.map b=.map none:=by cases m<;>exact hd
      grind
     subst hb;refine⟨_,_,Bn u j o d (A w) ok,?_,h⟩;have hv:FDx H (am vu (dflt vu)).toD J:=E H
     unfold Yu;cases ok with
     |true=>exact⟨_,rfl,⟨fun _=>rfl,hv⟩,⟨fun _=>rfl,0,rfl⟩,trivial⟩
     |false=>exact⟨fun _=>rfl,hv⟩
    |some l=>
     have el:(l.map fun x=>((ap ku x.1).headD .any,(ap vu x.2).headD .any))=l.map fun x=>((am ku x.1).toD,(am vu x.2).toD):=ajG fun x _=>by grind [pw,AS]
     have hd:FDx H (.mp (some (l.map fun x=>((ap ku x.1).headD .any,(ap vu x.2).headD .any)))) y:=hd
     rw[el]at hd;obtain⟨b,es,ck,rfl,c2,_,c4⟩:=UV hX.mem.agree (fun e he=>by
      obtain⟨x,_,rfl⟩:=ajK.1 he;exact nU (gr hc.1 x.1)) hd
     rw[aj9]at c4;have c4:MpO w H (l.map (vV ku vu)) es.toList (fun _=>0):=c4
     obtain⟨v,r,B⟩:=s9 (P:=P) u j c2 c4 (by grind [nw]) o d (A w) ok;rw[uD hc.1]at r B;have hv:FDx H (am vu ((aw ku l kx).getD (dflt vu))).toD v:=by
      cases hl:aw ku l kx<;>grind [fZ]
     refine⟨_,_,r,?_,h⟩;unfold Yu;cases ok with
     |true=>exact⟨_,rfl,⟨fun _=>rfl,hv⟩,⟨fun _=>rfl,0,by rw[Option.isSome_map];rfl⟩,trivial⟩
     |false=>exact⟨fun _=>rfl,hv⟩
   grind
  grind
 grind
theorem Ss{vu:U}{tv:Tt}{a:El vu}(hl:leaf vu=true)(h:nF vu [tv]=some a){m:Mm}(hy:TR w H γ m tv.toT (fun _=>0) y):FDx H (am vu a).toD y:=by
 have h1:BQ vu tv=some a:=by cases vu<;>first|exact h|cases hl
 unfold BQ at h1;split at h1
 ·split at h1
  ·simp only[aiX]at h1;subst h1;exact hy.2
  grind
 ·rw[dX h1]at hy;exact hy.2
 ·split at h1
  ·simp only[aiX]at h1;subst h1;obtain⟨_,rfl⟩:=hy;exact lj
  grind
 grind
theorem m9{s:St}{c:Tt}(hc:c.toT=.mp l):(⟨s.nx+1,s.t,eI s.m n s.nx ⟨false,[c],none⟩⟩:St).toS=⟨s.toS.t,cM s.toS.m n ⟨false,[.mp l]⟩⟩:=by
 refine b9.S_ext rfl ?_;show toM (eI s.m n s.nx _)=_
 rw[fE]
 congr 1
 show(⟨false,[c.toT]⟩:Root)=_
 rw[hc]
theorem NP{v:At}(hX:RX g s.toS a w H γ F)(hy:AR w H γ s.toS.m x.toV y)(d:AR w H γ s.toS.m key.toV kv)(o:AR w H γ s.toS.m v.toV vv)(h:qU P s t x key v k) :
  ∃t' w' F',(Instr.mapUpdate t y kv vv).run P w=.ok () w'/\k t'/\RX g t'.toS a w' H γ F':=by
 unfold qU at h;split at h
 ·rename_i kt et I;split at h
  ·rename_i p c tv;split at h
   ·rename_i ku vu l E;split at h
    ·rename_i kx j hc hk r;simp only[aiW]at hc;obtain⟨_,td,_,C,q,_⟩:=aY I (by simp);obtain rfl:=rV q;obtain⟨_,N,_,u,K,_⟩:=aY rfl (mW hc.1);obtain⟨n,rfl,hr⟩:=qN E;obtain⟨b,es,ck,f,rfl,B,c2,c3,c4,c5,D⟩:=s8 hX hr hy;have e:FDx H (am ku kx).toD kv:=by rw[dX hk]at d;exact d.2
     have i:FDx H (am vu j).toD vv:=Ss hc.2 r o
     obtain⟨es',ck',L,M,A,J,z⟩:=Bp (P:=P) C u c2 c3 c4 D (by grind [nw]) (by grind [gr]) e (v:=(.fr,(am vu j).toD)) (n:=0) (fv:=fun _=>0) rfl (fZ.2 ⟨fun _=>rfl,i⟩);rw[Fb hc.1 (fun v=>(.fr,(am vu v).toD))]at z;have G:∀c,F n c<=tot F s.toS.m c:=fun c=>bX (F:=F) (ak hr) c
     have:=vA hX hr B c2 c5 A z (fun c=>by have:=J c;have:=hX.mem.le1 c;omega) (fun c hc=>by
      have h3:tot F s.toS.m c≠0:=by grind
      exact⟨hX.mem.lt c h3,hX.mem.nofz c h3,hX.fr.tt c h3⟩)
     rw[<- m9 (s:=s) (c:=.mp ku vu (bV ku l kx j)) (l:=(bV ku l kx j).map (vV ku vu)) rfl]at this
     grind
    grind
   grind
  grind
 grind
theorem NK{tt:TypeId}{ts:List TypeId}(hX:RX g s.toS a w H γ F)(hy:AR w H γ s.toS.m x.toV y)(e:AR w H γ s.toS.m key.toV kv)(h:qO P s t x key k) :
  ∃t' w' F',(Builtin.delete_ (t::ts).toArray tt #[y,kv]).run P w=.ok (.tuple #[]) w'/\k t'/\RX g t'.toS a w' H γ F':=by
 unfold qO at h;split at h
 ·rename_i kt et r;split at h
  ·rename_i p c;split at h
   ·rename_i ku vu l B;split at h
    ·rename_i kx hc hk;obtain⟨_,td,_,v,j,_⟩:=aY r (by simp);obtain rfl:=rV j;obtain⟨_,I,_,i,u,_⟩:=aY rfl (mW hc);obtain⟨n,rfl,hr⟩:=qN B;obtain⟨b,es,ck,f,rfl,D,c2,c3,c4,c5,z⟩:=s8 hX hr hy;have d:FDx H (am ku kx).toD kv:=by rw[dX hk]at e;exact e.2
     obtain⟨es',G,E,q,A,o⟩:=Om (P:=P) (ty:=tt) v i c2 c3 c4 z (by grind [nw]) (by grind [gr]) d (t::ts).toArray (by simp);rw[P4 hc]at o;have C:∀c,F n c<=tot F s.toS.m c:=fun c=>bX (F:=F) (ak hr) c
     have:=vA hX hr D c2 c5 q o (fun c=>by have:=A c;have:=hX.mem.le1 c;omega) (fun c hc=>by
      have h3:tot F s.toS.m c≠0:=by grind
      exact⟨hX.mem.lt c h3,hX.mem.nofz c h3,hX.fr.tt c h3⟩)
     rw[<- m9 (s:=s) (c:=.mp ku vu (sB ku l kx)) (l:=(sB ku l kx).map (vV ku vu)) rfl]at this
     grind
    grind
   grind
  grind
 grind
theorem M6{P:Program}(h:jA P t ku=true)(k:El ku):mL (am ku k).toD (am ku k).toD=true:=by
 rw[qI h];cases ku with
 |i _=>show decide (k=k)=true;simp
 |bo=>cases(k:Bool)<;>rfl
 |s=>show decide (k=k)=true;simp
 |_=>cases h
theorem Kz{x key:Operand}(hX:RX g s.toS a w H γ F)(hd:okD g.nt (some d)=true)(hx:aH x=true)(q:aH key=true)(h:mU P s t x key d k) :
  ∃t' y γ' F',(Instr.lookup t (a.eval x) (a.eval key) false).run P w=.ok y w/\k t'/\RX g t'.toS (a.put (some d) y) w H γ' F':=by
 unfold mU at h;split at h
 ·rename_i kt et Q;dsimp only at h;have e:RX g (s.fresh (.gh d)).toS a w H γ F:=by grind [bE,gR,cW]
  have o:af (s.fresh (.gh d)).toS.m (.gh d)=none:=by grind [bE,gR,cC]
  generalize s.fresh (.gh d)=s1 at h e o;split at h
  ·rename_i n c hxe C;split at h
   ·rename_i ku u l N;split at h
    ·rename_i kx hc hk;simp only[aiW]at hc;obtain⟨_,td,_,L,B,_⟩:=aY Q (by simp);obtain rfl:=rV B;obtain⟨_,W,_,E,T,_⟩:=aY rfl (mW hc.1);have hr:=wq N
     have hy:=aL e hx
     have j:=aL e q
     rw[ah hx,hxe]at hy;rw[ah q,C]at j;obtain⟨b,es,ck,f,M,K,c2,c3,c4,c5,V⟩:=s8 e hr hy;obtain⟨z,_,_,_,_,O,_,zs,_⟩:=Gu hc.2;have p:FDx H (am ku kx).toD (a.eval key):=by rw[dX hk]at j;exact j.2
     have I:((moD ku u l none).all fun x=>jK (ty P kt).k x.1)=true:=nw hc.1 (uX u) l
     obtain⟨v,U,G⟩:=s9 (P:=P) L E c2 c4 (by grind) (by grind [gr]) p (O w) false;have i:oQ (moD ku u l none) (am ku kx).toD=(aw ku l kx).map (uX u):=uD hc.1 (uX u) kx l
     have fin:∀(f1 A:Fp)(n':Nat),(∀c,f c=f1 c+A c)->OD w H n' (.ow (List.replicate (nc u) .fr)) (.li (((aw ku l kx).getD []).map (ap u))) f1 v->MpO w H (BP (moD ku u l none) (am ku kx).toD) es.toList A ->
       ∃t' y γ' F',(Instr.lookup t (a.eval x) (a.eval key) false).run P w=.ok y w/\k t'/\RX g t'.toS (a.put (some d) y) w H γ' F':=by
      intro f1 A n' hf D r;obtain⟨γ',F',J,q2⟩:=Q8 e hr K c2 c3 c5 hf r (n2:=.gh d) rfl o D;refine⟨_,v,γ',F',by grind,h,?_⟩;have R:((⟨s1.nx+1,s1.t,eI s1.m n s1.nx ⟨false,[.mo ku u l (some kx)],none⟩⟩:St).root (.gh d) ⟨false,[.ow (List.replicate (nc u) .fr) u ((aw ku l kx).getD [])],none⟩).toS=⟨s1.toS.t,(.gh d,⟨false,[.ow (List.replicate (nc u) .fr) (((aw ku l kx).getD []).map (ap u))]⟩)::cM s1.toS.m n ⟨false,[.mp (BP (moD ku u l none) (am ku kx).toD)]⟩⟩:=by
       have:=m9 (s:=s1) (n:=n) (c:=.mo ku u l (some kx)) (l:=BP (moD ku u l none) (am ku kx).toD) rfl
       have h2:=congrArg S.m this
       have h1:=congrArg S.t this
       exact b9.S_ext h1 (congrArg (List.cons _) h2)
      rw[<- R]at J;refine br (aJ _ (some d) (.one (.c (.rf ⟨.gh d,0,[]⟩)))) (J.put hd (ij (sub:=List.replicate (nc u) .fr) (l:=((aw ku l kx).getD []).map (ap u)) ?_ q2))
      grind [af]
     rw[i]at G;cases hl:aw ku l kx with
     |none=>
      rw[hl]at G;refine fin (fun _=>0) f 1 (fun c=>(ak2 _).symm) ?_ ?_
      all_goals grind [fq,BP]
     |some rows=>
      grind [BP]
    grind
   grind
  grind
 grind
theorem NO{v:At}(hX:RX g s.toS a w H γ F)(hy:AR w H γ s.toS.m x.toV y)(z:AR w H γ s.toS.m key.toV kv)(I:AR w H γ s.toS.m v.toV vv)(h:qS P s t x key v k) :
  ∃t' w' F',(Instr.mapUpdate t y kv vv).run P w=.ok () w'/\k t'/\RX g t'.toS a w' H γ F':=by
 unfold qS at h;split at h
 ·rename_i kt et ht;split at h
  ·rename_i n c q;split at h
   ·rename_i ku u l o sub u' rows hm hq;split at h
    ·rename_i kx U hc hk j;simp only[aiW,ajQ,decide_eq_false_iff_not]at hc;obtain⟨d,T,D⟩:=hc;obtain⟨eu,rfl⟩:=mB j;subst eu;obtain rfl:=kf T;obtain⟨h0,h⟩:=h;dsimp only at h;obtain⟨_,td,_,hu,M,_⟩:=aY ht (by simp);obtain rfl:=rV M;obtain⟨_,kd,_,R,ab,_⟩:=aY rfl (mW d);have hr:=wq hm
     have i:af s.toS.m q=some ⟨false,[.ow (List.replicate (nc u') .fr) (rows.map (ap u'))]⟩:=bz hq
     have E:=hX.mem.roots _ (ak i)
     unfold bZ at E;dsimp only at E;rw[if_neg (by simp)]at E;obtain⟨vq,tq,r,G,L⟩:=E;obtain rfl:tq=.ow (List.replicate (nc u') .fr) (rows.map (ap u')):=by grind
     obtain⟨nq,Q⟩:=L;have K:vv=vq:=by
      obtain⟨_,_,hv⟩:=I;unfold plV at hv;dsimp only at hv;rw[r]at hv;exact(Option.some.inj hv).symm
     subst K;have aa:∀c,F q c<=tot F s.toS.m c:=fun c=>bX (F:=F) (ak i) c
     have C:∀c,F n c+F q c<=tot F s.toS.m c:=fun c=>vi (F:=F) (ak hr) (ak i) (fun e=>D e.symm) c
     have O:=ym hX q
     have ed:(s.drop q).toS=s.toS.drop q:=b9 (gR hX)
     have A:∀c,tot F (s.toS.drop q).m c+F q c=tot F s.toS.m c:=fun c=>by
      show tot F (aP _ _) c+_=_
      grind [bu,qb]
     have J:af (s.toS.drop q).m n=some ⟨false,[.mp (moD ku u' l o)]⟩:=by
      show af (aP (bU q) (cv s.toS.m q)) n=_
      rw[kC,mF (fun e=>D e.symm),hr];rfl
     obtain⟨b,es,ck,f,N,Z,c2,c3,c4,c5,c6⟩:=s8 hX hr hy;subst N;have B:FDx H (am ku kx).toD kv:=by rw[dX hk]at z;exact z.2
     have V:=M6 d kx
     have W:((moD ku u' l o).all fun x=>jK (ty P kt).k x.1)=true:=by
      cases o with
      |none=>exact nw d (uX u') l
      |some k0=>exact Zv (gr d k0) (nw d (uX u') l)
     have p:jJ (moD ku u' l o) (am ku kx).toD (uX u' rows)=moD ku u' (bV ku l kx rows) none:=by
      have e0:jJ (l.map (WL ku u')) (am ku kx).toD (uX u' rows)=(bV ku l kx rows).map (WL ku u'):=Fb d (uX u') kx rows l
      cases o with
      |none=>exact e0
      |some k0=>
       have h0:kx=k0:=h0
       subst h0;exact(aa0 V _ _).trans e0
     have S:F q b=0:=by have:=C b;have:=hX.mem.le1 b;grind
     obtain⟨es',ck',f2,e1,Y,e3,X⟩:=Bp (P:=P) hu R c2 c3 c4 c6 (by grind) (by grind [gr]) B (v:=uX u' rows) (n:=nq) (fv:=F q) S Q;rw[p]at X;have:=vA O J Z c2 c5 Y X (fun c=>by have:=e3 c;have:=A c;have:=hX.mem.le1 c;omega) (fun c hc=>by
      have h3:tot F s.toS.m c≠0:=by grind
      exact⟨hX.mem.lt c h3,hX.mem.nofz c h3,hX.fr.tt c h3⟩)
     rw[<- ed,<- m9 (s:=s.drop q) (c:=.mo ku u' (bV ku l kx rows) none) (l:=moD ku u' (bV ku l kx rows) none) rfl]at this
     grind
    grind
   grind
  grind
 grind
theorem NL{x:Operand}(hX:RX g s.toS a w H γ F)(hd:okD g.nt (some d)=true)(hx:aH x=true)(h:qP s x d k) :
  ∃t' H' F',k t'/\RX g t'.toS (a.put (some d) (a.eval x)) w H' γ F':=by
 unfold qP at h;split at h
 ·rename_i n hxe;split at h
  ·rename_i ku u l i;have hr:=wq i
   have hy:=aL hX hx
   rw[ah hx,hxe]at hy;obtain⟨b,es,ck,f,e,j,_⟩:=s8 hX hr hy;obtain⟨H',F',h2⟩:=Vv hX hr;have hfz:afQ (moD ku u l none)=l.map (vV ku (.sl u)):=by
    show(l.map (WL ku u)).map _=_
    rw[aj9];rfl
   rw[hfz,<- m9 (s:=s) (c:=.mp ku (.sl u) l) (l:=l.map (vV ku (.sl u))) rfl]at h2;refine⟨_,H',F',h,br (aJ _ (some d) (.one (.c (.rf ⟨n,0,[]⟩)))) (h2.put hd ?_)⟩;rw[e];refine vo (l:=l.map (vV ku (.sl u))) ?_ j;rw[m9 (s:=s) (c:=.mp ku (.sl u) l) (l:=l.map (vV ku (.sl u))) rfl]
   grind [fP]
  grind
 grind
theorem TH(z:Value)(n:Nat):(madeCells #[z] n).toList=List.replicate n z:=by
 unfold madeCells;apply List.ext_getElem
 all_goals grind
theorem Ch{e:En}{n c:Operand}(hX:RX g s.toS a w H γ F)(hd:okD g.nt (some d)=true)(hno:aH n=true)(h:iZ e s t (evA s n) (evA s c) (Gf n c) d k) :
  ∃t' y w' γ' F',(Instr.makeSlice t (a.eval n) (a.eval c)).run e.P w=.ok y w'/\k t'/\RX g t'.toS (a.put (some d) y) w' H γ' F':=by
 have f:Gf n c=true->a.eval c=a.eval n:=by
  intro hs;unfold Gf at hs
  grind [ai5]
 have hv:=aL hX hno
 rw[ah hno]at hv;unfold iZ at h;split at h
 ·rename_i el G hs;split at h
  ·rename_i i he;rw[he]at hv;obtain⟨hi,hw⟩:=nl hv;split at h
   ·rename_i u M;split at h
    ·rename_i hc;simp only[aiW]at hc;obtain⟨⟨h0,h1,h2⟩,h⟩:=h;obtain⟨_,td,_,r,q,_⟩:=aY G (by simp);obtain rfl:=oS q;obtain⟨z,it,B,E,z3,_,z5,O,K⟩:=Gu hc.1.1;have p:(ty e.P el).ok=true:=by
      grind [ty,ai5]
     obtain⟨I,_,C,_,_,Q,L,_⟩:=jE p;rw[B]at C;obtain rfl:=Option.some.inj C;have hs1:it.size=1:=by grind [ai5]
     rw[L]at h2;have b:=run_make_row (P:=e.P) t el it z r B E hs1 z3 .i64 .i64 i.toNat h2 kQ1 w
     rw[Int.toNat_of_nonneg h0]at b;have h3:=cW hX (.gh d)
     have hn:=gR hX
     have j:∀k,Cs (OD w H (k+1)) (List.replicate i.toNat ((iB e.sh el).getD [.fr])).flatten (List.replicate i.toNat [(am u (dflt u)).toD]).flatten (fun _=>0) (madeCells #[z] i.toNat).toList:=by
      intro k;rw[TH];generalize i.toNat=N;induction N with
      |zero=>exact fun _=>rfl
      |succ N ih=>
       rw[alH,alH,alH,List.flatten_cons,List.flatten_cons];have hr:=hc.2
       generalize(iB e.sh el).getD [.fr]=sub at hr ih;unfold YB at hr;split at hr
       ·exact⟨z,_,fun _=>0,fun _=>0,rfl,fun _=>rfl,fZ.2 ⟨fun _=>rfl,z5 H⟩,ih⟩
       ·rename_i o u';refine⟨z,_,fun _=>0,fun _=>0,rfl,fun _=>rfl,?_,ih⟩;show OD w H (k+1) (.ow o) (.li []) _ z
        grind [fq]
       grind
     have v:((iB e.sh el).getD [.fr]).length=1:=by
      have hr:=hc.2
      generalize(iB e.sh el).getD [.fr]=sub at hr;unfold YB at hr
      grind
     obtain⟨γ',F',m,A⟩:=zj h3 (n:=.gh d) rfl (cC hX (.gh d)) (cs:=madeCells #[z] i.toNat) (ty':=el) (len:=i.toNat) (cap:=i.toNat) (sub:=(iB e.sh el).getD [.fr]) (l:=List.replicate i.toNat [(am u (dflt u)).toD]) (by simp) (ai0 _) (by show i.toNat<=2 ^ 62;omega)
      (fun x hx=>by grind) (by grind [size_madeCells]) j
     refine⟨_,_,_,γ',F',by rw[f hs,hi];exact b,h,?_⟩;have J:(List.replicate i.toNat (dflt u)).map (ap u)=List.replicate i.toNat [(am u (dflt u)).toD]:=by
      rw[List.map_replicate]
      congr 1
      rw[<- cz,j8 K];rfl
     have D:((s.fresh (.gh d)).root (.gh d) ⟨false,[.ow ((iB e.sh el).getD [.fr]) u (List.replicate i.toNat (dflt u))],none⟩).toS=(s.toS.fresh (.gh d)).root (.gh d) ⟨false,[.ow ((iB e.sh el).getD [.fr]) (List.replicate i.toNat [(am u (dflt u)).toD])]⟩:=by
      rw[<- J,<- bE hn];rfl
     rw[<- D]at m;refine br (aJ _ (some d) (.one (.c (.rf ⟨.gh d,0,[]⟩)))) (RX.put m hd (ij (sub:=(iB e.sh el).getD [.fr]) (l:=List.replicate i.toNat [(am u (dflt u)).toD]) ?_ A))
     grind [S.root,af]
    grind
   grind
  grind
 grind
end
end Go.Am
end

section
namespace Go.Am
variable{sub:List Sh}
section
variable {P:Program} {g:G} {s:S} {a:Act} {w:World} {H:FH} {γ:Gam} {F:Nm->Fp}
theorem L9(h:RX g s a w H γ F){n:Nm}(hno:n.isOut=false)(hn:af s.m n=none){cs:Array Value}{ty':TypeId}{row:List D}{k:Nat}{f:Fp}(hx:row.length=sub.length)(C:cs.size=sub.length)
  (e:Cs (OD w H k) sub row f cs.toList) (hd:∀b,tot F s.m b+f b<=1) (hl:∀b,f b≠0->b<w.heap.size/\(∀o,H b o=none)/\(g.own0 b≠0\/g.w0.heap.size<=b)) :
  ∃γ' F',RX g (s.root n ⟨false,[.ow sub [row]]⟩) a (w.alloc (.cells cs ty')) H γ' F'/\γ' n=.gh (.slice (some ⟨w.heap.size,0,none⟩) 1 1):=by
 obtain⟨r,hf,u,z⟩:=qm h.mem cs ty' false;simp only[ai8,false_and,if_false]at r hf u z;have hX:RX g s a (w.alloc (.cells cs ty')) H γ F:=jR h r hf (fun i=>dy u (fun _ _ _ h=>h) (h.t i)) (fun _=>rfl)
 have hz:tot F s.m w.heap.size=0:=by
  rcases ajZ (tot F s.m w.heap.size)with h'|h'
  ·exact h'
  ·have:=h.mem.lt w.heap.size kQ1;omega
 have hfz:f w.heap.size=0:=by
  grind
 have B:∀o,H w.heap.size o=none:=by
  intro o;cases hc:H w.heap.size o with
  |none=>rfl
  |some y=>have:=(h.mem.agree _ _ _ hc).lt;omega
 have q:Cs (OD (w.alloc (.cells cs ty')) H k) sub row f cs.toList:=
  lh _ _ _ _ (fun s x g v E d=>cO (fun _ _ _ h=>h) k k _ _ _ _ (ai0 _) (fun b hb=>cU (hl b (by grind)).1) d) e
 have d:TR (w.alloc (.cells cs ty')) H γ s.m (.ow sub [row]) (fun b=>f b+if b=w.heap.size then 1 else 0) (.slice (some ⟨w.heap.size,0,none⟩) 1 1):=by
  refine⟨k+1,ze (l:=[row]) (c:=1) (bC) rfl kQ1 (ai0 _) (by show 1<=4611686018427387904;omega) (fun x A=>by grind) ?_⟩
  grind
 have j:(w.alloc (.cells cs ty')).heap.size=w.heap.size+1:=by simp_all
 refine dQ hX hno hn d (fun b=>?_) (fun b hb=>?_) (fun b hb=>?_)
 ·grind
 ·grind
 ·by_cases p:b=w.heap.size
  ·subst p;right;exact h.fr.size
  grind
end
theorem D7:∀{ts:List Tt}{i j:Nat}{q:Pl},D6 ts i=some (j,q)->i<=j/\ts[j-i]? = some (.rf q)
 |[],_,_,_,h=>by cases h
 |t::r,i,j,q,h=>by
  have next:D6 r (i+1)=some (j,q)->i<=j/\(t::r)[j-i]? = some (.rf q):=fun h=>by
   obtain⟨h1,h2⟩:=D7 h
   grind
  cases t with
  |rf a=>
   grind [D6]
  |_=>exact next h
theorem Jf{n:Nat}{us z:Array Value}(a:us.size=n)(hz:z.size=1*n):Instr.fill (fun i=>some (i*n,n)) z [(0,.agg us)]=some us:=by
 have hc:(Value.agg us).cells=us:=rfl
 simp only[Instr.fill,hc];rw[if_neg (by grind)]
 congr 1
 have key:∀(k:Nat)(l:List Value)(z:Array Value),k+l.length<=z.size->((l.zipIdx k).foldl (fun cs(x:Value×Nat)=>cs.setIfInBounds (0*n+x.2) x.1) z).toList=z.toList.take k++l++z.toList.drop (k+l.length):=by
  intro k l;induction l generalizing k with
  |nil=>simp_all
  |cons x l ih=>
   intro z hk;simp only[ai1]at hk;simp only[List.zipIdx_cons,akO];rw[ih (k+1) _ (by grind)];simp only[Nat.zero_mul,ak2,Array.toList_setIfInBounds];rw[List.take_set,List.drop_set_of_lt kQ1]
   grind [List.take_add_one,ai1]
 apply Array.ext'
 have e:us.zipIdx.foldl (fun cs(x:Value×Nat)=>cs.setIfInBounds (0*n+x.2) x.1) z=(us.toList.zipIdx 0).foldl (fun cs(x:Value×Nat)=>cs.setIfInBounds (0*n+x.2) x.1) z:=by
  grind [Array.toList_zipIdx]
 grind
section
variable {P:Program} {g:G} {s:St} {a:Act} {w:World} {H:FH} {γ:Gam} {F:Nm->Fp} {k:St->Prop}
theorem ya{E:Ut}{sub:List Sh}{t:TypeId}{len:Nat}{ps:Array (Nat×Operand)}{d:Tmp}(hX:RX g s.toS a w H γ F)(hd:okD g.nt (some d)=true)(J:(ps.toList.all fun x=>aH x.2)=true)(h:fK P E sub s t len ps d k) :
  ∃t' y w' γ' F',(Instr.buildSlice t len (ps.map fun(i,x)=>(i,a.eval x))).run P w=.ok y w'/\k t'/\RX g t'.toS (a.put (some d) y) w' H γ' F':=by
 unfold fK at h;split at h
 ·rename_i e ht;split at h
  ·rename_i u z ts he hz hp;split at h
   ·rename_i j q hj;split at h
    ·rename_i ak an u' l2 ab ax;split at h
     ·rename_i s1 al l' hb;split at h
      ·rename_i l hc hl;simp only[aiW]at hc;obtain⟨⟨⟨⟨⟨⟨c1,c2⟩,c3⟩,c4⟩,c5⟩,c6⟩,c7,c8,c9⟩:=hc;have au:=ai5 c2
       obtain rfl:=ai5 c4;have aj:=ai5 c5
       have ar:=ai5 c6
       obtain rfl:=kf c7;obtain⟨pl⟩:=ps;have p:pl.map (fun x=>(x.1,evA s x.2))=[(0,.one (.agg ts))]:=hp
       match pl,p,J with
       |[],p,_=>cases p
       |_::_::_,p,_=>grind
       |[(i,x)],p,J=>
       simp only[aiZ,aj4,List.cons.injEq,Prod.mk.injEq,and_true]at p;obtain⟨rfl,hx⟩:=p;have hop:aH x=true:=by grind
       have hv:=aL hX hop
       rw[ah hop,hx]at hv;obtain⟨cs,A,L,r⟩:=hv;have L:cs.size=ts.length:=by grind
       obtain⟨_,B⟩:=D7 hj;rw[Nat.sub_zero]at B;have aw:j<ts.length:=(akE.1 B).1
       have Y:(ts.map Tt.toT)[j]? = some (.rf q):=by rw[ai4,B];rfl
       obtain⟨_,v,gv,_,ae,I,ao⟩:=r9 r Y;have V:AR w H γ s.toS.m (.one (.c (.rf q))) v:=⟨fun _=>rfl,I.2⟩
       have Z:=gR hX
       obtain⟨b1,b2,_⟩:=mu (size:=nc u') rfl Z (fun q' X=>by
        cases X;exact pQ I.2.1) hb
       obtain⟨N,f,F1,k1,k2,k3,k4,k5⟩:=mw hX V b1;have hfz:=vd c9
       obtain⟨_,_,_,fk,fr,_,_,_,a4,_,a6,_⟩:=cV _ _ _ _ j r kQ1;have O:Ts (TR w H γ s.toS.m) ((ts.set j .nil).map Tt.toT) (fun _=>0) (cs.toList.set j (.slice none 0 0)):=by
        have:=a6 (fun _=>TR w H γ s.toS.m) .nil (.slice none 0 0) (fun _=>0) (fun _ _ _ _ _ h=>h) ⟨fun _=>rfl,rfl⟩
        unfold Ts;rw[ai2,akT];rw[ai2]at this;rw[ajP];exact oX (fun b=>by grind) this
       have hC:=Et (k:=N) (fun _=>rfl) hfz O
       obtain⟨sj,_,_,aq,ai,d1,_,_,d4,_,d6,_⟩:=cV _ _ _ _ j hC (by grind);rw[ab]at d1;obtain rfl:=Option.some.inj d1;have C:=d6 (OD w H (N+1)) (.li (l'.map (ap u'))) v f (fun _ _ _ _ _ h=>h) (cO (fun _ _ _ h=>h) N (N+1) _ _ _ _ (ajV _) (fun _ _=>rfl) k1)
       rw[ak4,show cs.toList.set j v=cs.toList from p8 ae]at C;have o:=nQ hl
       simp only[aiZ,aj4]at o
       match l,hl,o,h with
       |[],_,o,_=>grind
       |_::_::_,_,o,_=>grind
       |[y],hl,o,h=>
       simp only[aiZ,aj4,List.cons.injEq,and_true]at o;have e1:((ts.set j .nil).map fun t=>t.toT.fz).set j (.li (l'.map (ap u')))=ap u y:=by
        rw[<- o,ajP,ak4,ajP];rfl
       rw[e1]at C;have ag:=cW k2 (.gh d)
       have U:∀b,tot F1 (s1.toS.fresh (.gh d)).m b<=tot F1 s1.toS.m b:=by
        intro b;unfold S.fresh;split
        ·omega
        ·show tot F1 (aP _ _) b<=_
         rw[bu];exact gC
       obtain⟨_,td,_,T,R,_⟩:=aY ht (by simp);obtain rfl:=oS R;obtain⟨M,de,K,_,_,ac,_,_⟩:=jE c1;obtain⟨W,z0,aa,Q,_,_⟩:=kh hz;rw[K]at aa;obtain rfl:M=W:=by grind
       have av:M.size=nc u:=by omega
       obtain⟨us,am,r1,r2,r3⟩:=jM (P:=P) (w:=w) (t:=t) (len:=1) (vs:=#[(0,a.eval x)]) (cells:=#[]) T K Q (by grind [ajA]) (fun us hus=>by
        refine⟨cs,?_,by omega,.inr trivial⟩;rw[A];exact Jf kQ1 hus)
       have D:Instr.fill (fun i=>some (i*M.size,M.size)) us #[(0,a.eval x)].toList=some cs:=by
        rw[A];exact Jf kQ1 r1
       rw[D]at r2;obtain rfl:=Option.some.inj r2;obtain⟨γ',F',G,ad⟩:=L9 (ty':=e) ag (n:=.gh d) rfl (cC k2 (.gh d)) (by grind) kQ1 (oX (f:=fun b=>f b+ai b) (g:=f) (fun b=>by grind) C)
        (fun b=>by have h1:=U b;have h2:=k4 b;have h3:=hX.mem.le1 b;omega) k5
       have e2:((s1.fresh (.gh d)).root (.gh d) ⟨false,[.ow sub u [y]],none⟩).toS=(s1.toS.fresh (.gh d)).root (.gh d) ⟨false,[.ow sub [ap u y]]⟩:=by
        rw[<- bE b2];rfl
       rw[<- e2]at G;refine⟨_,_,_,γ',F',by rw[show(Array.map (fun(x:Nat×Operand)=>(x.1,a.eval x.2)) ⟨[(0,x)]⟩)=#[(0,a.eval x)]from by simp];exact r3,h,?_⟩;refine br (aJ _ (some d) (.one (.c (.rf ⟨.gh d,0,[]⟩)))) (RX.put G hd (ij (sub:=sub) (l:=[ap u y]) ?_ ad))
       grind [S.root,af]
      grind
     grind
    grind
   grind
  grind
 grind
theorem Ct{α β:Type}{R:α->β->Fp->Value->Prop}:∀(a:List α)(c:List β){b:List α}{d:List β}{f:Fp}{vs:List Value},a.length=c.length->Cs R (a++b) (c++d) f vs->∃f':Fp,Cs R a c f' vs/\∀x,f' x<=f x
 |[],[],_,_,_,_,_,_=>⟨fun _=>0,fun _=>rfl,fun _=>ajW _⟩
 |x::a,y::c,b,d,f,vs,hl,h=>by
  obtain⟨v,r,f1,e,h1,h2,h3,h4⟩:=h;obtain⟨f',k1,k2⟩:=Ct a c (by grind) h4;exact⟨fun q=>f1 q+f' q,⟨v,r,f1,f',h1,fun _=>rfl,h3,k1⟩,fun q=>by grind⟩
 |[],_::_,_,_,_,_,hl,_=>by grind
 |_::_,[],_,_,_,_,hl,_=>by grind
theorem Zg{k:Nat}{l:List (List D)}{f:Fp}{v:Value}{m:Nat}(j:m<=l.length)(h:OD w H k (.ow sub) (.li l) f v) :
  ∃ad c,v=.slice ad l.length c/\l.length<=c/\(∀b,ad=some b->b=⟨b.block,0,none⟩)/\∃f':Fp,OD w H k (.ow sub) (.li (l.take m)) f' (.slice ad m c)/\∀x,f' x<=f x:=by
 cases k with
 |zero=>simp[OD]at h
 |succ k=>
 rw[fq]at h;rcases h with⟨rfl,rfl,h0⟩|⟨b,c,cs,ty,fr,g',h1,h2,h3,h4,h5,h6,h7,h8,h9⟩
 ·obtain rfl:m=0:=by grind
  exact⟨none,0,rfl,ai0 _,(fun b hb=>by cases hb),f,fq.2 (.inl ⟨rfl,rfl,h0⟩),fun _=>ai0 _⟩
 ·subst h1;have i:(List.replicate l.length sub).flatten=(List.replicate m sub).flatten++(List.replicate (l.length-m) sub).flatten:=by
   grind [List.replicate_append_replicate]
  have e:l.flatten=(l.take m).flatten++(l.drop m).flatten:=by grind [aj8]
  have a:(l.take m).length=m:=by grind
  have d:∀x∈l.take m,x.length=sub.length:=fun x hx=>h7 x (akZ hx)
  rw[i,e]at h8;obtain⟨f',k1,k2⟩:=Ct _ _ (by rw[cR _ _ d,a];simp) h8;refine⟨_,c,rfl,h5,fun b' hb=>by grind,fun x=>f' x+if x=b then 1 else 0,fq.2 (.inr ⟨b,c,cs,ty,fr,f',by rw[a],h2,h3,h4,by omega,by omega,d,by grind,fun _=>rfl⟩),fun x=>by grind⟩
theorem K9{e:En}{t:TypeId}{x hi:Operand}{d:Tmp}(hX:RX g s.toS a w H γ F)(hd:okD g.nt (some d)=true)(hx:aH x=true)(p:aH hi=true)(h:m0 e s t x hi d k) :
  ∃t' y γ' F',(∀w:World,(Instr.sliceAt t (a.eval x) none (some (a.eval hi)) none).run e.P w=.ok y w)/\k t'/\RX g t'.toS (a.put (some d) y) w H γ' F':=by
 unfold m0 at h;split at h
 ·rename_i el O;split at h
  ·rename_i q n hxe I;split at h
   ·rename_i u0 Q _;split at h
    ·rename_i s1 sub l u hb;obtain⟨⟨K,M⟩,h⟩:=h;have hy:=aL hX hx
     have hn:=aL hX p
     rw[ah hx,hxe]at hy;rw[ah p,I]at hn;obtain⟨b1,b2,_⟩:=mu (size:=nc u0) rfl (gR hX) (fun U B=>by
      cases B;exact pQ hy.2.1) hb
     obtain⟨N,f,F1,k1,k2,k3,k4,k5⟩:=mw hX hy b1;obtain⟨ad,c,hv,hc,L,f',R,q2⟩:=Zg (m:=n.toNat) (by grind) k1;rw[ai2]at hv hc;obtain⟨_,td,_,r,z,_⟩:=aY O (by simp);obtain rfl:=oS z;obtain⟨i,T,C,_⟩:=jE u;obtain⟨a',b',⟨rfl,rfl,_⟩,E⟩:=ko (P:=e.P) (isS:=true) (len:=l.length) (cap:=c) (vlo:=none) (lo:=none) (k:=fun a b=>a=0/\b=n.toNat/\b<=l.length) trivial (show Q3 w H γ s.toS.m (some (At.one (.c (.d (.i .i64 n)))).toV) (some (a.eval hi))from hn) hc (show im none 0 _ from⟨K,rfl,rfl,M⟩) (fun a b h=>by omega);have j:∀w:World,(Instr.sliceAt t (a.eval x) none (some (a.eval hi)) none).run e.P w=.ok (.slice ad n.toNat c) w:=by
      intro w;rw[hv];simp only[Instr.sliceAt,Sem.run_bind,run_underlying r,Result.andThen_ok];simp only[Instr.slice,Sem.run_bind,run_underlying r,Result.andThen_ok,E,cG C,Sem.run_pure]
      congr 2
      cases ad<;>grind [dA]
     have G:=cW k2 (.gh d)
     have A:∀b,tot F1 (s1.toS.fresh (.gh d)).m b<=tot F1 s1.toS.m b:=by
      intro b;unfold S.fresh;split
      ·omega
      ·show tot F1 (aP _ _) b<=_
       rw[bu];exact gC
     obtain⟨γ',F',o,D⟩:=dQ G (n:=.gh d) rfl (cC k2 (.gh d)) (v:=.slice ad n.toNat c) (t:=.ow sub ((l.take n.toNat).map (ap u0))) (f:=f') ⟨N,by grind [ak5]⟩
      (fun b=>by have h1:=A b;have h2:=k4 b;have h3:=hX.mem.le1 b;grind) (fun b hb=>by grind) (fun b hb=>(k5 b (by grind)).2.2)
     have J:((s1.fresh (.gh d)).root (.gh d) ⟨false,[.ow sub u0 (l.take n.toNat)],none⟩).toS=⟨(s1.toS.fresh (.gh d)).t,(.gh d,⟨false,[.ow sub ((l.take n.toNat).map (ap u0))]⟩)::(s1.toS.fresh (.gh d)).m⟩:=by
      rw[<- bE b2];rfl
     rw[<- J]at o;refine⟨_,_,γ',F',j,h,?_⟩;refine br (aJ _ (some d) (.one (.c (.rf ⟨.gh d,0,[]⟩)))) (RX.put o hd (ij (sub:=sub) (l:=(l.take n.toNat).map (ap u0)) ?_ D))
     grind [af]
    grind
   grind
  grind
 grind
end
end Go.Am
end
