/-
  Part 15: AmE3m · AmE3n.
-/
import Derived.Test.YteooihiebpbaiaaGreatDoorVk14
import Derived.Deep.OwnRows
set_option linter.unusedSimpArgs false
set_option linter.unusedVariables false
set_option linter.unusedSectionVars false
set_option linter.unnecessarySimpa false
section
namespace Go.Am
open Go.MapKept
def wE{β:Type}(ku:U)(g:β->Sh×D)(x:El ku×β):D×Sh×D:=((aj ku x.1).toD,g x.2)
abbrev rv(ku vu:U):El ku×El vu->D×Sh×D:=wE ku fun v=>(.fr,(aj vu v).toD)
abbrev ox(u:U)(l:List (El u)):Sh×D:=(.ow (List.replicate (nc u) .fr),.li (l.map (al u)))
theorem nF{P:Program}{t:TypeId}{ku:U}(h:eA P t ku=true)(a b:El ku):jz (aj ku a).toD (aj ku b).toD=gX ku a b:=by
 cases ku with
 |i k=>show(decide (k=k)&&decide (a=b))=decide (a=b);simp
 |bo=>rfl
 |s=>rfl
 |_=>cases h
theorem ef{P:Program}{t:TypeId}{ku:U}(h:eA P t ku=true)(a:El ku):gW (ty P t).k (aj ku a).toD=true:=by
 cases ku with
 |i k=>
  have h:decide ((ty P t).k=.int k)=true:=h
  rw[of_decide_eq_true h];show decide (k=k)=true;simp
 |bo=>
  have h:decide ((ty P t).k=.bool)=true:=h
  rw[of_decide_eq_true h];rfl
 |s=>
  have h:decide ((ty P t).k=.str)=true:=h
  rw[of_decide_eq_true h];rfl
 |_=>cases h
theorem kN{P:Program}{t:TypeId}{ku:U}(h:eA P t ku=true):(ty P t).k≠.ot:=by
 intro e;cases ku<;>first|(unfold eA at h;rw[e]at h;simp at h;done)|cases h
theorem ll{β:Type}{P:Program}{t:TypeId}{ku:U}(h:eA P t ku=true)(g:β->Sh×D)(l:List (El ku×β)):((l.map (wE ku g)).all fun x=>gW (ty P t).k x.1)=true:=by
 rw[Yk];exact WY.2 fun x _=>ef h x.1
theorem p6{β:Type}{P:Program}{t:TypeId}{ku:U}(h:eA P t ku=true)(g:β->Sh×D)(k:El ku):∀l:List (El ku×β),lV (l.map (wE ku g)) (aj ku k).toD=(am ku l k).map g
 |[]=>rfl
 |x::l=>by
  simp only[List.map_cons,lV,am,wE,nF h];cases gX ku x.1 k with
  |true=>rfl
  |false=>exact p6 h g k l
theorem zu{β:Type}{P:Program}{t:TypeId}{ku:U}(h:eA P t ku=true)(g:β->Sh×D)(k:El ku)(v:β):∀l:List (El ku×β),gQ (l.map (wE ku g)) (aj ku k).toD (g v)=(br ku l k v).map (wE ku g)
 |[]=>rfl
 |x::l=>by
  have ih:=zu h g k v l
  simp only[List.map_cons,gQ,br,wE,nF h];cases gX ku x.1 k with
  |true=>rfl
  |false=>simp only[List.map_cons];rw[<- ih];rfl
theorem IV{β:Type}{P:Program}{t:TypeId}{ku:U}(h:eA P t ku=true)(g:β->Sh×D)(k:El ku):∀l:List (El ku×β),zg (l.map (wE ku g)) (aj ku k).toD=(nX ku l k).map (wE ku g)
 |[]=>rfl
 |x::l=>by
  have ih:=IV h g k l
  simp only[List.map_cons,zg,nX,wE,nF h];cases gX ku x.1 k with
  |true=>rfl
  |false=>simp only[List.map_cons];rw[<- ih];rfl
theorem I6{k:D}(hk:jz k k=true)(a b:Sh×D):∀l:List (D×Sh×D),gQ (gQ l k a) k b=gQ l k b
 |[]=>by simp only[gQ,hk]
 |x::l=>by
  simp only[gQ];cases h:jz x.1 k with
  |true=>simp only[gQ,hk]
  |false=>simp only[gQ,h,I6 hk a b l]
theorem RB{k:D}(hk:jz k k=true)(b:Sh×D)(l:List (D×Sh×D)):gQ (sY l k) k b=gQ l k b:=by
 unfold sY;split
 ·exact I6 hk _ _ _
 ·rfl
theorem II{κ:TK}{k:D}(hk:gW κ k=true)(v:Sh×D):∀{l:List (D×Sh×D)},(l.all fun x=>gW κ x.1)=true->((gQ l k v).all fun x=>gW κ x.1)=true
 |[],_=>by simp[gQ,hk]
 |x::l,h=>by
  simp only[W0,WI]at h;simp only[gQ];split
  ·simp only[W0,hk,h.2,Ye]
  ·simp only[W0,h.1,II hk v h.2,Ye]
theorem Qw{κ:TK}{k:D}(hk:gW κ k=true){l:List (D×Sh×D)}(h:(l.all fun x=>gW κ x.1)=true):((sY l k).all fun x=>gW κ x.1)=true:=by
 unfold sY;split
 ·exact II hk _ h
 ·exact h
theorem Ar{P:Program}{t:TypeId}{u:U}(h:zOK P t u=true):∃z it,P.info? t=some it/\it.zero=some z/\z.cells=#[z]/\(∀w,(zeroValue t).run P w=.ok z w)/\(∀H,FDx H (aj u (dflt u)).toD z)/\(∀v,u=.sl v->z=.slice none 0 0)/\leaf u=true:=by
 unfold zOK at h;have run:∀{z:Value},(P.info? t).bind (·.zero)=some z->∃it,P.info? t=some it/\it.zero=some z/\∀w,(zeroValue t).run P w=.ok z w:=by
  intro z hz;obtain⟨it,h1,h2⟩:=Xd.1 hz;exact⟨it,h1,h2,fun w=>by simp[zeroValue,typeInfo,h1,h2]⟩
 split at h
 ·rename_i k n k' hz;obtain⟨it,h1,h2,h3⟩:=run hz;simp only[WI,decide_eq_true_eq]at h;obtain⟨⟨rfl,rfl⟩,_⟩:=h;exact⟨_,it,h1,h2,rfl,h3,fun H=>⟨0,rfl,by cases k<;>decide⟩,(fun _ e=>by cases e),rfl⟩
 ·rename_i b hz;obtain⟨it,h1,h2,h3⟩:=run hz;cases b with
  |true=>cases h
  |false=>exact⟨_,it,h1,h2,rfl,h3,fun H=>⟨0,rfl⟩,(fun _ e=>by cases e),rfl⟩
 ·rename_i str hz;obtain⟨it,h1,h2,h3⟩:=run hz;refine⟨_,it,h1,h2,rfl,h3,fun H=>⟨0,?_,Xq _⟩,(fun _ e=>by cases e),rfl⟩;obtain⟨⟨l⟩⟩:=str;cases l with
  |nil=>rfl
  |cons x l=>simp at h
 ·rename_i u hz;obtain⟨it,h1,h2,h3⟩:=run hz;exact⟨_,it,h1,h2,rfl,h3,fun H=>jj,fun _ _=>rfl,rfl⟩
 ·rename_i ku vu hz;obtain⟨it,h1,h2,h3⟩:=run hz;exact⟨_,it,h1,h2,rfl,h3,fun H=>⟨0,rfl⟩,(fun _ e=>by cases e),rfl⟩
 ·cases h
section
variable {P:Program} {g:G} {a:Act} {w:World} {H:FH} {γ:Gam} {F:Nm->Fp} {s:St} {k k':St->Prop}
theorem p8{E:Ut}{own:Bool}{t:TypeId}{d:Tmp}(hk:∀s',Ext s s'->k s'->k' s')(h:eh P E own s t d k):eh P E own s t d k':=by
 unfold eh at h⊢
 (repeat' split at h)<;>first|exact h.elim|exact hk _ (((bB _ _).trans (cf _ _ _)).trans (aw _ _ _)) h
theorem zF{m:List (Nm×Nat×Rt)}{t:TypeId}{x key:At}{ok:Bool}{k k':At->Prop}(hk:∀v,k v->k' v)(h:jC P m t x key ok k):jC P m t x key ok k':=by
 unfold jC at h⊢
 (repeat' split at h)<;>first|exact h.elim|exact hk _ h
theorem C8{t:TypeId}{x key v:At}(hk:∀s',Ext s s'->k s'->k' s')(h:jD P s t x key v k):jD P s t x key v k':=by
 unfold jD at h⊢
 (repeat' split at h)<;>first|exact h.elim|exact hk _ ⟨Xt _,fun _ _ _ h _=>h,cq _ _ (WN _) _⟩ h
theorem C4{t:TypeId}{x key:At}(hk:∀s',Ext s s'->k s'->k' s')(h:jB P s t x key k):jB P s t x key k':=by
 unfold jB at h⊢
 (repeat' split at h)<;>first|exact h.elim|exact hk _ ⟨Xt _,fun _ _ _ h _=>h,cq _ _ (WN _) _⟩ h
theorem pz(s:St)(n:Nm)(r:Rt):Ext s ⟨s.nx+1,s.t,cn s.m n s.nx r⟩:=⟨Xt _,fun _ _ _ h _=>h,cq _ _ (WN _) _⟩
theorem zH{t:TypeId}{x key:Operand}{d:Tmp}(hk:∀s',Ext s s'->k s'->k' s')(h:kK P s t x key d k):kK P s t x key d k':=by
 unfold kK at h⊢;dsimp only at h⊢
 (repeat' split at h)<;>first|exact h.elim|exact hk _ ((((bB _ _).trans (pz _ _ _)).trans (cf _ _ _)).trans (aw _ _ _)) h
theorem C7{t:TypeId}{x key v:At}(hk:∀s',Ext s s'->k s'->k' s')(h:nJ P s t x key v k):nJ P s t x key v k':=by
 unfold nJ at h⊢;dsimp only at h⊢
 (repeat' split at h)<;>first|exact h.elim|exact⟨h.1,hk _ ((py _ _).trans (pz _ _ _)) h.2⟩
theorem C5{x:Operand}{d:Tmp}(hk:∀s',Ext s s'->k s'->k' s')(h:nH s x d k):nH s x d k':=by
 unfold nH at h⊢
 (repeat' split at h)<;>first|exact h.elim|exact hk _ ((pz _ _ _).trans (aw _ _ _)) h
theorem vk{e:En}{t:TypeId}{n c:At}{b:Bool}{d:Tmp}(hk:∀s',Ext s s'->k s'->k' s')(h:dG e s t n c b d k):dG e s t n c b d k':=by
 unfold dG at h⊢
 (repeat' split at h)<;>first|exact h.elim|exact⟨h.1,hk _ (((bB _ _).trans (cf _ _ _)).trans (aw _ _ _)) h.2⟩
theorem C3{E:Ut}{own:Bool}{t:TypeId}{d:Tmp}(hX:RX g s.toS a w H γ F)(hd:okD g.nt (some d)=true)(h:eh P E own s t d k){r:Option Value}(hr:∀v,r=some v->∃κ n,v=.int κ n) :
  ∃t' y w' γ' F',(Instr.makeMap t r).run P w=.ok y w'/\k t'/\RX g t'.toS (a.put (some d) y) w' H γ' F':=by
 have go:∀{kt et:TypeId}{c:Tt},(ty P t).k=.mp kt et->c.toT=.mp []->k (((s.fresh (.gh d)).root (.gh d) ⟨false,[c],none⟩).put (some d) (.one (.c (.rf ⟨.gh d,0,[]⟩))))->∃t' y w' γ' F',(Instr.makeMap t r).run P w=.ok y w'/\k t'/\RX g t'.toS (a.put (some d) y) w' H γ' F':=by
  intro kt et c ht hc hk;obtain⟨_,td,_,hu,htd,_⟩:=aP ht (by simp);obtain rfl:=oz htd;have hn:=d9 hX
  have h1:=bX hX (.gh d)
  obtain⟨γ',F',h2,hγ⟩:=JP h1 (n:=.gh d) rfl (bH hX (.gh d));have hrun:(Instr.makeMap t r).run P w=.ok (.map (some w.heap.size)) (w.alloc (.map #[] 0)):=by
   cases r with
   |none=>rfl
   |some v=>
    obtain⟨κ,n,rfl⟩:=hr v rfl;simp[Instr.makeMap,run_underlying hu,asInt,asIntOf,Result.andThen]
  refine⟨_,_,_,γ',F',hrun,hk,?_⟩;have e:((s.fresh (.gh d)).root (.gh d) ⟨false,[c],none⟩).toS=⟨(s.toS.fresh (.gh d)).t,(.gh d,⟨false,[.mp []]⟩)::(s.toS.fresh (.gh d)).m⟩:=by
   rw[<- bk hn];show(⟨_,(Nm.gh d,(⟨false,[c.toT]⟩:Root))::_⟩:S)=_
   rw[hc];rfl
  rw[<- e]at h2;refine aS (aB _ (some d) (.one (.c (.rf ⟨.gh d,0,[]⟩)))) (h2.put hd ?_);exact qN (l:=[]) (by rw[e];simp[ab]) hγ
 unfold eh at h;split at h
 ·rename_i kt et ht;split at h
  ·exact go ht rfl h
  ·exact go ht rfl h
  ·exact h.elim
 ·exact h.elim
theorem nG{p:Pl}{ku vu:U}{l:List (El ku×El vu)}(h:lK s.m p=some ⟨ku,vu,l⟩):∃n,p=⟨n,0,[]⟩/\ab s.toS.m n=some ⟨false,[.mp (l.map (rv ku vu))]⟩:=by
 unfold lK at h;split at h
 ·rename_i n;split at h
  ·rename_i hr;cases h;exact⟨n,rfl,aR hr⟩
  ·cases h
 ·cases h
theorem rM{n:Nm}{ku u:U}{l:List (El ku×List (El u))}{o:Option (El ku)}(h:rL s.m n=some ⟨ku,u,l,o⟩):ab s.toS.m n=some ⟨false,[.mp (moD ku u l o)]⟩:=by
 unfold rL at h;split at h
 ·rename_i hr;cases h;exact aR hr
 ·cases h
theorem pe{n:Nm}{l:List (D×Sh×D)}(hX:RX g s.toS a w H γ F)(hr:ab s.toS.m n=some ⟨false,[.mp l]⟩){y:Value}(hy:AR w H γ s.toS.m (.one (.c (.rf ⟨n,0,[]⟩))) y) :
  ∃b es ck,∃f:Fp,y=.map (some b)/\γ n=.gh (.map (some b))/\w.heap[b]? = some (.map es ck)/\Stamped es ck/\MpO w H l es.toList f/\(∀c,F n c=f c+if c=b then 1 else 0)/\f b=0:=by
 obtain⟨b,es,ck,f,c1,c2,c3,c4,c5,c6⟩:=O4 hX.mem hr;obtain⟨_,_,hv⟩:=hy;refine⟨b,es,ck,f,?_,c1,c2,c3,c4,c5,c6⟩;unfold plV at hv;dsimp only at hv;rw[c1]at hv;exact(Option.some.inj hv).symm
theorem vB{P:Program}{t:TypeId}{u:U}(h:eA P t u=true):leaf u=true:=by cases u<;>first|rfl|cases h
theorem FP{t:TypeId}{x key:At}{ok:Bool}{k:At->Prop}(hX:RX g s.toS a w H γ F){y kv:Value}(hy:AR w H γ s.toS.m x.toV y)(hkv:AR w H γ s.toS.m key.toV kv)(h:jC P s.m t x key ok k) :
  ∃z v,(Instr.lookup t y kv ok).run P w=.ok z w/\AR w H γ s.toS.m v.toV z/\k v:=by
 unfold jC at h;split at h
 ·rename_i kt et ht;split at h
  ·rename_i p c;split at h
   ·rename_i ku vu l hm;split at h
    ·rename_i kx hc hk;simp only[WI]at hc;obtain⟨_,td,_,hu,htd,_⟩:=aP ht (by simp);obtain rfl:=oz htd;obtain⟨_,kd,_,hku,hkd,_⟩:=aP rfl (kN hc.1);obtain⟨n,rfl,hr⟩:=nG hm;obtain⟨b,es,ck,f,rfl,_,c2,c3,c4,_⟩:=pe hX hr hy;obtain⟨z,_,_,_,_,zr,zf,_,zl⟩:=Ar hc.2;have hkey:FDx H (aj ku kx).toD kv:=by rw[cp hk]at hkv;exact hkv.2
     obtain⟨v,e1,e2⟩:=pf (P:=P) hu hku c2 c4 (by rw[hkd];exact ll hc.1 _ l) (by rw[hkd];exact ef hc.1 kx) hkey (zr w) ok;rw[p6 hc.1]at e1 e2;have hv:FDx H (aj vu ((am ku l kx).getD (dflt vu))).toD v:=by
      cases hl:am ku l kx with
      |none=>rw[hl]at e2;rw[show v=z from e2.1];exact zf H
      |some x=>
       rw[hl]at e2;obtain⟨_,_,_,q,_⟩:=e2;exact(dU.1 q).2
     refine⟨_,_,e1,?_,h⟩;unfold Gs;cases ok with
     |true=>exact⟨_,rfl,⟨fun _=>rfl,hv⟩,⟨fun _=>rfl,0,by rw[Option.isSome_map];rfl⟩,trivial⟩
     |false=>exact⟨fun _=>rfl,hv⟩
    ·exact h.elim
   ·exact h.elim
  ·rename_i ku vu z c;split at h
   ·rename_i kx hc hk;simp only[WI]at hc;obtain⟨_,td,_,hu,htd,_⟩:=aP ht (by simp);obtain rfl:=oz htd;obtain⟨_,kd,_,hku,hkd,_⟩:=aP rfl (kN hc.1);obtain⟨zv,_,_,_,_,zr,zf,_,zl⟩:=Ar hc.2.1;have hkey:FDx H (aj ku kx).toD kv:=by rw[cp hk]at hkv;exact hkv.2
    have hisk:gW (eC P kd) (aj ku kx).toD=true:=by rw[hkd];exact ef hc.1 kx
    have hd:FDx H (.mp (z.map fun l=>l.map fun x=>((al ku x.1).headD .any,(al vu x.2).headD .any))) y:=hy.2
    cases z with
    |none=>
     obtain⟨b,rfl⟩:=Eg hd;have hb:b=none:=by
      obtain⟨m,hd⟩:=hd;have hd:Value.map b=.map none:=by cases m<;>exact hd
      simpa using hd
     subst hb;refine⟨_,_,wa hu hku hisk hkey (zr w) ok,?_,h⟩;have hv:FDx H (aj vu (dflt vu)).toD zv:=zf H
     unfold Gs;cases ok with
     |true=>exact⟨_,rfl,⟨fun _=>rfl,hv⟩,⟨fun _=>rfl,0,rfl⟩,trivial⟩
     |false=>exact⟨fun _=>rfl,hv⟩
    |some l=>
     have el:(l.map fun x=>((al ku x.1).headD .any,(al vu x.2).headD .any))=l.map fun x=>((aj ku x.1).toD,(aj vu x.2).toD):=W1 fun x _=>by rw[gI (vB hc.1),gI hc.2.2]
     have hd:FDx H (.mp (some (l.map fun x=>((al ku x.1).headD .any,(al vu x.2).headD .any)))) y:=hd
     rw[el]at hd;obtain⟨b,es,ck,rfl,c2,_,c4⟩:=MI hX.mem.agree (fun e he=>by
      obtain⟨x,_,rfl⟩:=Xa.1 he;exact lG (ef hc.1 x.1)) hd
     rw[WZ]at c4;have c4:MpO w H (l.map (rv ku vu)) es.toList (fun _=>0):=c4
     obtain⟨v,e1,e2⟩:=pf (P:=P) hu hku c2 c4 (by rw[hkd];exact ll hc.1 _ l) hisk hkey (zr w) ok;rw[p6 hc.1]at e1 e2;have hv:FDx H (aj vu ((am ku l kx).getD (dflt vu))).toD v:=by
      cases hl:am ku l kx with
      |none=>rw[hl]at e2;rw[show v=zv from e2.1];exact zf H
      |some x=>
       rw[hl]at e2;obtain⟨_,_,_,q,_⟩:=e2;exact(dU.1 q).2
     refine⟨_,_,e1,?_,h⟩;unfold Gs;cases ok with
     |true=>exact⟨_,rfl,⟨fun _=>rfl,hv⟩,⟨fun _=>rfl,0,by rw[Option.isSome_map];rfl⟩,trivial⟩
     |false=>exact⟨fun _=>rfl,hv⟩
   ·exact h.elim
  ·exact h.elim
 ·exact h.elim
theorem KR{vu:U}{tv:Tt}{vx:El vu}(hl:leaf vu=true)(h:jW vu [tv]=some vx){m:Mm}{y:Value}(hy:TR w H γ m tv.toT (fun _=>0) y):FDx H (aj vu vx).toD y:=by
 have h1:wC vu tv=some vx:=by cases vu<;>first|exact h|cases hl
 unfold wC at h1;split at h1
 ·split at h1
  ·simp only[WG]at h1;subst h1;exact hy.2
  ·cases h1
 ·rw[cp h1]at hy;exact hy.2
 ·split at h1
  ·simp only[WG]at h1;subst h1;obtain⟨_,rfl⟩:=hy;exact jj
  ·cases h1
 ·cases h1
theorem kX{s:St}{n:Nm}{c:Tt}{l:List (D×Sh×D)}(hc:c.toT=.mp l):(⟨s.nx+1,s.t,cn s.m n s.nx ⟨false,[c],none⟩⟩:St).toS=⟨s.toS.t,bE s.toS.m n ⟨false,[.mp l]⟩⟩:=by
 refine bb.S_ext rfl ?_;show toM (cn s.m n s.nx _)=_
 rw[dJ]
 congr 1
 show(⟨false,[c.toT]⟩:Root)=_
 rw[hc]
theorem FT{t:TypeId}{x key v:At}(hX:RX g s.toS a w H γ F){y kv vv:Value}(hy:AR w H γ s.toS.m x.toV y)(hkv:AR w H γ s.toS.m key.toV kv)(hvv:AR w H γ s.toS.m v.toV vv)(h:jD P s t x key v k) :
  ∃t' w' F',(Instr.mapUpdate t y kv vv).run P w=.ok () w'/\k t'/\RX g t'.toS a w' H γ F':=by
 unfold jD at h;split at h
 ·rename_i kt et ht;split at h
  ·rename_i p c tv;split at h
   ·rename_i ku vu l hm;split at h
    ·rename_i kx vx hc hk hcv;simp only[WI]at hc;obtain⟨_,td,_,hu,htd,_⟩:=aP ht (by simp);obtain rfl:=oz htd;obtain⟨_,kd,_,hku,hkd,_⟩:=aP rfl (kN hc.1);obtain⟨n,rfl,hr⟩:=nG hm;obtain⟨b,es,ck,f,rfl,c1,c2,c3,c4,c5,c6⟩:=pe hX hr hy;have hkey:FDx H (aj ku kx).toD kv:=by rw[cp hk]at hkv;exact hkv.2
     have hval:FDx H (aj vu vx).toD vv:=KR hc.2 hcv hvv
     obtain⟨es',ck',f2,e1,e2,e3,e4⟩:=wc (P:=P) hu hku c2 c3 c4 c6 (by rw[hkd];exact ll hc.1 _ l) (by rw[hkd];exact ef hc.1 kx) hkey (v:=(.fr,(aj vu vx).toD)) (n:=0) (fv:=fun _=>0) rfl (dU.2 ⟨fun _=>rfl,hval⟩);rw[zu hc.1 (fun v=>(.fr,(aj vu v).toD))]at e4;have hge:∀c,F n c<=tot F s.toS.m c:=fun c=>aW (F:=F) (ae hr) c
     have:=qU hX hr c1 c2 c5 e2 e4 (fun c=>by have:=e3 c;have:=hX.mem.le1 c;omega) (fun c hc=>by
      have h3:tot F s.toS.m c≠0:=by have:=e3 c;have:=c5 c;have:=hge c;omega
      exact⟨hX.mem.lt c h3,hX.mem.nofz c h3,hX.fr.tt c h3⟩)
     rw[<- kX (s:=s) (c:=.mp ku vu (br ku l kx vx)) (l:=(br ku l kx vx).map (rv ku vu)) rfl]at this;exact⟨_,_,_,e1,h,this⟩
    ·exact h.elim
   ·exact h.elim
  ·exact h.elim
 ·exact h.elim
theorem FM{t tt:TypeId}{ts:List TypeId}{x key:At}(hX:RX g s.toS a w H γ F){y kv:Value}(hy:AR w H γ s.toS.m x.toV y)(hkv:AR w H γ s.toS.m key.toV kv)(h:jB P s t x key k) :
  ∃t' w' F',(Builtin.delete_ (t::ts).toArray tt #[y,kv]).run P w=.ok (.tuple #[]) w'/\k t'/\RX g t'.toS a w' H γ F':=by
 unfold jB at h;split at h
 ·rename_i kt et ht;split at h
  ·rename_i p c;split at h
   ·rename_i ku vu l hm;split at h
    ·rename_i kx hc hk;obtain⟨_,td,_,hu,htd,_⟩:=aP ht (by simp);obtain rfl:=oz htd;obtain⟨_,kd,_,hku,hkd,_⟩:=aP rfl (kN hc);obtain⟨n,rfl,hr⟩:=nG hm;obtain⟨b,es,ck,f,rfl,c1,c2,c3,c4,c5,c6⟩:=pe hX hr hy;have hkey:FDx H (aj ku kx).toD kv:=by rw[cp hk]at hkv;exact hkv.2
     obtain⟨es',f2,e1,e2,e3,e4⟩:=Gv (P:=P) (ty:=tt) hu hku c2 c3 c4 c6 (by rw[hkd];exact ll hc _ l) (by rw[hkd];exact ef hc kx) hkey (t::ts).toArray (by simp);rw[IV hc]at e4;have hge:∀c,F n c<=tot F s.toS.m c:=fun c=>aW (F:=F) (ae hr) c
     have:=qU hX hr c1 c2 c5 e2 e4 (fun c=>by have:=e3 c;have:=hX.mem.le1 c;omega) (fun c hc=>by
      have h3:tot F s.toS.m c≠0:=by have:=e3 c;have:=c5 c;have:=hge c;omega
      exact⟨hX.mem.lt c h3,hX.mem.nofz c h3,hX.fr.tt c h3⟩)
     rw[<- kX (s:=s) (c:=.mp ku vu (nX ku l kx)) (l:=(nX ku l kx).map (rv ku vu)) rfl]at this;exact⟨_,_,_,e1,h,this⟩
    ·exact h.elim
   ·exact h.elim
  ·exact h.elim
 ·exact h.elim
theorem Fd{P:Program}{t:TypeId}{ku:U}(h:eA P t ku=true)(k:El ku):jz (aj ku k).toD (aj ku k).toD=true:=by
 rw[nF h];cases ku with
 |i _=>show decide (k=k)=true;simp
 |bo=>cases(k:Bool)<;>rfl
 |s=>show decide (k=k)=true;simp
 |_=>cases h
theorem C9{t:TypeId}{x key:Operand}{d:Tmp}(hX:RX g s.toS a w H γ F)(hd:okD g.nt (some d)=true)(hx:ax x=true)(hkx:ax key=true)(h:kK P s t x key d k) :
  ∃t' y γ' F',(Instr.lookup t (a.eval x) (a.eval key) false).run P w=.ok y w/\k t'/\RX g t'.toS (a.put (some d) y) w H γ' F':=by
 unfold kK at h;split at h
 ·rename_i kt et ht;dsimp only at h;have hX1:RX g (s.fresh (.gh d)).toS a w H γ F:=by rw[bk (d9 hX)];exact bX hX _
  have hn0:ab (s.fresh (.gh d)).toS.m (.gh d)=none:=by rw[bk (d9 hX)];exact bH hX _
  generalize s.fresh (.gh d)=s1 at h hX1 hn0;split at h
  ·rename_i n c hxe hke;split at h
   ·rename_i ku u l hm;split at h
    ·rename_i kx hc hk;simp only[WI]at hc;obtain⟨_,td,_,hu,htd,_⟩:=aP ht (by simp);obtain rfl:=oz htd;obtain⟨_,kd,_,hku,hkd,_⟩:=aP rfl (kN hc.1);have hr:=rM hm
     have hy:=aA hX1 hx
     have hkv:=aA hX1 hkx
     rw[af hx,hxe]at hy;rw[af hkx,hke]at hkv;obtain⟨b,es,ck,f,hyv,c1,c2,c3,c4,c5,c6⟩:=pe hX1 hr hy;obtain⟨z,_,_,_,_,zr,_,zs,_⟩:=Ar hc.2;have hkey:FDx H (aj ku kx).toD (a.eval key):=by rw[cp hk]at hkv;exact hkv.2
     have hall:((moD ku u l none).all fun x=>gW (ty P kt).k x.1)=true:=ll hc.1 (ox u) l
     obtain⟨v,e1,e2⟩:=pf (P:=P) hu hku c2 c4 (by rw[hkd];exact hall) (by rw[hkd];exact ef hc.1 kx) hkey (zr w) false;have hlook:lV (moD ku u l none) (aj ku kx).toD=(am ku l kx).map (ox u):=p6 hc.1 (ox u) kx l
     have fin:∀(f1 f2:Fp)(n':Nat),(∀c,f c=f1 c+f2 c)->OD w H n' (.ow (List.replicate (nc u) .fr)) (.li (((am ku l kx).getD []).map (al u))) f1 v->MpO w H (sY (moD ku u l none) (aj ku kx).toD) es.toList f2 ->
       ∃t' y γ' F',(Instr.lookup t (a.eval x) (a.eval key) false).run P w=.ok y w/\k t'/\RX g t'.toS (a.put (some d) y) w H γ' F':=by
      intro f1 f2 n' hf hod hmp;obtain⟨γ',F',q1,q2⟩:=JQ hX1 hr c1 c2 c3 c5 hf hmp (n2:=.gh d) rfl hn0 hod;refine⟨_,v,γ',F',by rw[hyv];exact e1,h,?_⟩;have e3:((⟨s1.nx+1,s1.t,cn s1.m n s1.nx ⟨false,[.mo ku u l (some kx)],none⟩⟩:St).root (.gh d) ⟨false,[.ow (List.replicate (nc u) .fr) u ((am ku l kx).getD [])],none⟩).toS=⟨s1.toS.t,(.gh d,⟨false,[.ow (List.replicate (nc u) .fr) (((am ku l kx).getD []).map (al u))]⟩)::bE s1.toS.m n ⟨false,[.mp (sY (moD ku u l none) (aj ku kx).toD)]⟩⟩:=by
       have:=kX (s:=s1) (n:=n) (c:=.mo ku u l (some kx)) (l:=sY (moD ku u l none) (aj ku kx).toD) rfl
       have h2:=congrArg S.m this
       have h1:=congrArg S.t this
       exact bb.S_ext h1 (congrArg (List.cons _) h2)
      rw[<- e3]at q1;refine aS (aB _ (some d) (.one (.c (.rf ⟨.gh d,0,[]⟩)))) (q1.put hd (fi (sub:=List.replicate (nc u) .fr) (l:=((am ku l kx).getD []).map (al u)) ?_ q2));rw[e3];simp[ab]
     rw[hlook]at e2;cases hl:am ku l kx with
     |none=>
      rw[hl]at e2;refine fin (fun _=>0) f 1 (fun c=>(Xy _).symm) ?_ ?_
      ·rw[hl,e2.1,zs _ rfl];show OD w H 1 _ (.li []) _ _
       rw[dA];exact .inl ⟨rfl,rfl,fun _=>rfl⟩
      ·have:sY (moD ku u l none) (aj ku kx).toD=moD ku u l none:=by unfold sY;rw[hlook,hl];rfl
       rw[this];exact e2.2
     |some rows=>
      rw[hl]at e2;obtain⟨n',f1,f2,q1,q2,q3⟩:=e2;refine fin f1 f2 n' q2 (by rw[hl];exact q1) ?_;have:sY (moD ku u l none) (aj ku kx).toD=gQ (moD ku u l none) (aj ku kx).toD ((ox u rows).1,.any):=by unfold sY;rw[hlook,hl];rfl
      rw[this];exact q3
    ·exact h.elim
   ·exact h.elim
  ·exact h.elim
 ·exact h.elim
theorem FR{t:TypeId}{x key v:At}(hX:RX g s.toS a w H γ F){y kv vv:Value}(hy:AR w H γ s.toS.m x.toV y)(hkv:AR w H γ s.toS.m key.toV kv)(hvv:AR w H γ s.toS.m v.toV vv)(h:nJ P s t x key v k) :
  ∃t' w' F',(Instr.mapUpdate t y kv vv).run P w=.ok () w'/\k t'/\RX g t'.toS a w' H γ F':=by
 unfold nJ at h;split at h
 ·rename_i kt et ht;split at h
  ·rename_i n c q;split at h
   ·rename_i ku u l o sub u' rows hm hq;split at h
    ·rename_i kx rows' hc hk hcast;simp only[WI,XE,decide_eq_false_iff_not]at hc;obtain⟨hc1,hc2,hc3⟩:=hc;obtain⟨eu,rfl⟩:=gG hcast;subst eu;obtain rfl:=iF hc2;obtain⟨h0,h⟩:=h;dsimp only at h;obtain⟨_,td,_,hu,htd,_⟩:=aP ht (by simp);obtain rfl:=oz htd;obtain⟨_,kd,_,hku,hkd,_⟩:=aP rfl (kN hc1);have hr:=rM hm
     have hq2:ab s.toS.m q=some ⟨false,[.ow (List.replicate (nc u') .fr) (rows.map (al u'))]⟩:=aR hq
     have hR:=hX.mem.roots _ (ae hq2)
     unfold a8 at hR;dsimp only at hR;rw[if_neg (by simp)]at hR;obtain⟨vq,tq,hγq,hcells,hTq⟩:=hR;obtain rfl:tq=.ow (List.replicate (nc u') .fr) (rows.map (al u')):=by simpa using hcells.symm
     obtain⟨nq,hod⟩:=hTq;have hvq:vv=vq:=by
      obtain⟨_,_,hv⟩:=hvv;unfold plV at hv;dsimp only at hv;rw[hγq]at hv;exact(Option.some.inj hv).symm
     subst hvq;have hge:∀c,F q c<=tot F s.toS.m c:=fun c=>aW (F:=F) (ae hq2) c
     have hge2:∀c,F n c+F q c<=tot F s.toS.m c:=fun c=>qF (F:=F) (ae hr) (ae hq2) (fun e=>hc3 e.symm) c
     have hXd:=pE hX q
     have ed:(s.drop q).toS=s.toS.drop q:=bb (d9 hX)
     have htd2:∀c,tot F (s.toS.drop q).m c+F q c=tot F s.toS.m c:=fun c=>by
      show tot F (aC _ _) c+_=_
      rw[aV];exact jO hq2 c
     have hrd:ab (s.toS.drop q).m n=some ⟨false,[.mp (moD ku u' l o)]⟩:=by
      show ab (aC (aX q) (bz s.toS.m q)) n=_
      rw[iR,iB (fun e=>hc3 e.symm),hr];rfl
     obtain⟨b,es,ck,f,hyv,c1,c2,c3,c4,c5,c6⟩:=pe hX hr hy;subst hyv;have hkey:FDx H (aj ku kx).toD kv:=by rw[cp hk]at hkv;exact hkv.2
     have hkk:=Fd hc1 kx
     have hall:((moD ku u' l o).all fun x=>gW (ty P kt).k x.1)=true:=by
      cases o with
      |none=>exact ll hc1 (ox u') l
      |some k0=>exact Qw (ef hc1 k0) (ll hc1 (ox u') l)
     have hins:gQ (moD ku u' l o) (aj ku kx).toD (ox u' rows)=moD ku u' (br ku l kx rows) none:=by
      have e0:gQ (l.map (Oc ku u')) (aj ku kx).toD (ox u' rows)=(br ku l kx rows).map (Oc ku u'):=zu hc1 (ox u') kx rows l
      cases o with
      |none=>exact e0
      |some k0=>
       have h0:kx=k0:=h0
       subst h0;exact(RB hkk _ _).trans e0
     have hqb:F q b=0:=by have:=hge2 b;have:=hX.mem.le1 b;have:=c5 b;rw[if_pos rfl]at this;omega
     obtain⟨es',ck',f2,e1,e2,e3,e4⟩:=wc (P:=P) hu hku c2 c3 c4 c6 (by rw[hkd];exact hall) (by rw[hkd];exact ef hc1 kx) hkey (v:=ox u' rows) (n:=nq) (fv:=F q) hqb hod;rw[hins]at e4;have:=qU hXd hrd c1 c2 c5 e2 e4 (fun c=>by have:=e3 c;have:=htd2 c;have:=hX.mem.le1 c;have:=hge2 c;omega) (fun c hc=>by
      have h3:tot F s.toS.m c≠0:=by have:=e3 c;have:=c5 c;have:=hge2 c;omega
      exact⟨hX.mem.lt c h3,hX.mem.nofz c h3,hX.fr.tt c h3⟩)
     rw[<- ed,<- kX (s:=s.drop q) (c:=.mo ku u' (br ku l kx rows) none) (l:=moD ku u' (br ku l kx rows) none) rfl]at this;exact⟨_,_,_,e1,h,this⟩
    ·exact h.elim
   ·exact h.elim
  ·exact h.elim
 ·exact h.elim
theorem FN{x:Operand}{d:Tmp}(hX:RX g s.toS a w H γ F)(hd:okD g.nt (some d)=true)(hx:ax x=true)(h:nH s x d k) :
  ∃t' H' F',k t'/\RX g t'.toS (a.put (some d) (a.eval x)) w H' γ F':=by
 unfold nH at h;split at h
 ·rename_i n hxe;split at h
  ·rename_i ku u l hm;have hr:=rM hm
   have hy:=aA hX hx
   rw[af hx,hxe]at hy;obtain⟨b,es,ck,f,hyv,c1,_⟩:=pe hX hr hy;obtain⟨H',F',h2⟩:=Na hX hr;have hfz:Ux (moD ku u l none)=l.map (rv ku (.sl u)):=by
    show(l.map (Oc ku u)).map _=_
    rw[WZ];rfl
   rw[hfz,<- kX (s:=s) (c:=.mp ku (.sl u) l) (l:=l.map (rv ku (.sl u))) rfl]at h2;refine⟨_,H',F',h,aS (aB _ (some d) (.one (.c (.rf ⟨n,0,[]⟩)))) (h2.put hd ?_)⟩;rw[hyv];refine qN (l:=l.map (rv ku (.sl u))) ?_ c1;rw[kX (s:=s) (c:=.mp ku (.sl u) l) (l:=l.map (rv ku (.sl u))) rfl];show ab (bE s.toS.m n _) n=_
   rw[dP hr,if_pos rfl]
  ·exact h.elim
 ·exact h.elim
theorem LH(z:Value)(n:Nat):(madeCells #[z] n).toList=List.replicate n z:=by
 unfold madeCells;apply List.ext_getElem
 ·simp
 ·intro i h1 h2;simp[Nat.mod_one]
theorem wW{e:En}{t:TypeId}{n c:Operand}{d:Tmp}(hX:RX g s.toS a w H γ F)(hd:okD g.nt (some d)=true)(hno:ax n=true)(h:dG e s t (evA s n) (evA s c) (wh n c) d k) :
  ∃t' y w' γ' F',(Instr.makeSlice t (a.eval n) (a.eval c)).run e.P w=.ok y w'/\k t'/\RX g t'.toS (a.put (some d) y) w' H γ' F':=by
 have hsame:wh n c=true->a.eval c=a.eval n:=by
  intro hs;unfold wh at hs;split at hs
  ·rw[WS hs]
  ·cases hs
 have hv:=aA hX hno
 rw[af hno]at hv;unfold dG at h;split at h
 ·rename_i el ht hs;split at h
  ·rename_i i he;rw[he]at hv;obtain⟨hi,hw⟩:=ld hv;split at h
   ·rename_i u hu;split at h
    ·rename_i hc;simp only[WI]at hc;obtain⟨⟨h0,h1,h2⟩,h⟩:=h;obtain⟨_,td,_,hud,htd,_⟩:=aP ht (by simp);obtain rfl:=lZ htd;obtain⟨z,it,z1,z2,z3,_,z5,z6,z7⟩:=Ar hc.1.1;have hok:(ty e.P el).ok=true:=by
      cases hb:(ty e.P el).ok with
      |true=>rfl
      |false=>
       have:=WS hc.1.2
       unfold ty at hb this;rw[z1]at hb this;cases hud2:e.P.underlying el with
       |none=>rw[hud2]at this;simp at this
       |some d2=>rw[hud2]at hb;simp at hb
     obtain⟨it',_,i1,_,_,i4,i5,_⟩:=eE hok;rw[z1]at i1;obtain rfl:=Option.some.inj i1;have hs1:it.size=1:=by rw[<- i4];exact WS hc.1.2
     rw[i5]at h2;have hrun:=run_make_row (P:=e.P) t el it z hud z1 z2 hs1 z3 .i64 .i64 i.toNat h2 Z1 w
     rw[Int.toNat_of_nonneg h0]at hrun;have h3:=bX hX (.gh d)
     have hn:=d9 hX
     have hrow:∀k,Cs (OD w H (k+1)) (List.replicate i.toNat ((dK e.sh el).getD [.fr])).flatten (List.replicate i.toNat [(aj u (dflt u)).toD]).flatten (fun _=>0) (madeCells #[z] i.toNat).toList:=by
      intro k;rw[LH];generalize i.toNat=N;induction N with
      |zero=>exact fun _=>rfl
      |succ N ih=>
       rw[XW,XW,XW,XS,XS];have hr:=hc.2
       generalize(dK e.sh el).getD [.fr]=sub at hr ih;unfold Js at hr;split at hr
       ·exact⟨z,_,fun _=>0,fun _=>0,rfl,fun _=>rfl,dU.2 ⟨fun _=>rfl,z5 H⟩,ih⟩
       ·rename_i sub' u';refine⟨z,_,fun _=>0,fun _=>0,rfl,fun _=>rfl,?_,ih⟩;show OD w H (k+1) (.ow sub') (.li []) _ z
        rw[dA];exact .inl ⟨rfl,z6 _ rfl,fun _=>rfl⟩
       ·cases hr
     have hlen1:((dK e.sh el).getD [.fr]).length=1:=by
      have hr:=hc.2
      generalize(dK e.sh el).getD [.fr]=sub at hr;unfold Js at hr;split at hr
      ·rfl
      ·rfl
      ·cases hr
     obtain⟨γ',F',hX2,hγ⟩:=ue h3 (n:=.gh d) rfl (bH hX (.gh d)) (cs:=madeCells #[z] i.toNat) (ty':=el) (len:=i.toNat) (cap:=i.toNat) (sub:=(dK e.sh el).getD [.fr]) (l:=List.replicate i.toNat [(aj u (dflt u)).toD]) (by simp) (WN _) (by show i.toNat<=2 ^ 62;omega)
      (fun x hx=>by rw[(List.mem_replicate.1 hx).2,hlen1];rfl) (by rw[hlen1,size_madeCells];omega) hrow
     refine⟨_,_,_,γ',F',by rw[hsame hs,hi];exact hrun,h,?_⟩;have em:(List.replicate i.toNat (dflt u)).map (al u)=List.replicate i.toNat [(aj u (dflt u)).toD]:=by
      rw[List.map_replicate]
      congr 1
      rw[<- bq,iA z7];rfl
     have e2:((s.fresh (.gh d)).root (.gh d) ⟨false,[.ow ((dK e.sh el).getD [.fr]) u (List.replicate i.toNat (dflt u))],none⟩).toS=(s.toS.fresh (.gh d)).root (.gh d) ⟨false,[.ow ((dK e.sh el).getD [.fr]) (List.replicate i.toNat [(aj u (dflt u)).toD])]⟩:=by
      rw[<- em,<- bk hn];rfl
     rw[<- e2]at hX2;refine aS (aB _ (some d) (.one (.c (.rf ⟨.gh d,0,[]⟩)))) (RX.put hX2 hd (fi (sub:=(dK e.sh el).getD [.fr]) (l:=List.replicate i.toNat [(aj u (dflt u)).toD]) ?_ hγ));rw[e2];simp[S.root,ab]
    ·exact h.elim
   ·exact h.elim
  ·exact h.elim
 ·exact h.elim
end
end Go.Am
end

section
namespace Go.Am
section
variable {P:Program} {g:G} {s:S} {a:Act} {w:World} {H:FH} {γ:Gam} {F:Nm->Fp}
theorem Ep(h:RX g s a w H γ F){n:Nm}(hno:n.isOut=false)(hn:ab s.m n=none){cs:Array Value}{ty':TypeId}{sub:List Sh}{row:List D}{k:Nat}{f:Fp}(hx:row.length=sub.length)(hsz:cs.size=sub.length)
  (hcs:Cs (OD w H k) sub row f cs.toList) (hd:∀b,tot F s.m b+f b<=1) (hl:∀b,f b≠0->b<w.heap.size/\(∀o,H b o=none)/\(g.own0 b≠0\/g.w0.heap.size<=b)) :
  ∃γ' F',RX g (s.root n ⟨false,[.ow sub [row]]⟩) a (w.alloc (.cells cs ty')) H γ' F'/\γ' n=.gh (.slice (some ⟨w.heap.size,0,none⟩) 1 1):=by
 obtain⟨hm,hf,hK,hH⟩:=ni h.mem cs ty' false;simp only[WP,false_and,if_false]at hm hf hK hH;have hX:RX g s a (w.alloc (.cells cs ty')) H γ F:=fp h hm hf (fun i=>bV hK (fun _ _ _ h=>h) (h.t i)) (fun _=>rfl)
 have hz:tot F s.m w.heap.size=0:=by
  rcases W7 (tot F s.m w.heap.size)with h'|h'
  ·exact h'
  ·have:=h.mem.lt w.heap.size Z1;omega
 have hfz:f w.heap.size=0:=by
  rcases W7 (f w.heap.size)with h'|h'
  ·exact h'
  ·have:=(hl w.heap.size Z1).1;omega
 have hHz:∀o,H w.heap.size o=none:=by
  intro o;cases hc:H w.heap.size o with
  |none=>rfl
  |some y=>have:=(h.mem.agree _ _ _ hc).lt;simp at this
 have hcs':Cs (OD (w.alloc (.cells cs ty')) H k) sub row f cs.toList:=
  ji _ _ _ _ (fun s x g v hg hod=>bQ (fun _ _ _ h=>h) k k _ _ _ _ (WN _) (fun b hb=>bU (hl b (by have:=hg b;omega)).1) hod) hcs
 have hod:TR (w.alloc (.cells cs ty')) H γ s.m (.ow sub [row]) (fun b=>f b+if b=w.heap.size then 1 else 0) (.slice (some ⟨w.heap.size,0,none⟩) 1 1):=by
  refine⟨k+1,ub (l:=[row]) (c:=1) (bi) rfl (by rw[hsz];simp) (WN _) (by show 1<=4611686018427387904;omega) (fun x hx'=>by obtain rfl:=WU.1 hx';exact hx) ?_⟩;simpa using hcs'
 have hsize:(w.alloc (.cells cs ty')).heap.size=w.heap.size+1:=by show(w.heap.push _).size=_;simp
 refine cG hX hno hn hod (fun b=>?_) (fun b hb=>?_) (fun b hb=>?_)
 ·by_cases hb:b=w.heap.size
  ·subst hb;rw[hz,hfz];simp
  ·rw[if_neg hb];have:=hd b;omega
 ·by_cases hb':b=w.heap.size
  ·subst hb';exact⟨by omega,hHz⟩
  ·rw[if_neg hb']at hb;have:=hl b Z1
   exact⟨by omega,this.2.1⟩
 ·by_cases hb':b=w.heap.size
  ·subst hb';right;exact h.fr.size
  ·rw[if_neg hb']at hb;exact(hl b Z1).2.2
end
theorem yr:∀{ts:List Tt}{i j:Nat}{q:Pl},vY ts i=some (j,q)->i<=j/\ts[j-i]? = some (.rf q)
 |[],_,_,_,h=>by cases h
 |t::r,i,j,q,h=>by
  have next:vY r (i+1)=some (j,q)->i<=j/\(t::r)[j-i]? = some (.rf q):=fun h=>by
   obtain⟨h1,h2⟩:=yr h;refine⟨by omega,?_⟩;rw[show j-i=(j - (i+1))+1 from by omega,Xx];exact h2
  cases t with
  |rf q'=>
   simp only[vY,WG,Prod.mk.injEq]at h;obtain⟨rfl,rfl⟩:=h;exact⟨WN _,by simp⟩
  |_=>exact next h
theorem B2{n:Nat}{us z:Array Value}(hu:us.size=n)(hz:z.size=1*n):Instr.fill (fun i=>some (i*n,n)) z [(0,.agg us)]=some us:=by
 have hc:(Value.agg us).cells=us:=rfl
 simp only[Instr.fill,hc];rw[if_neg (by simp[hu,hz])]
 congr 1
 have key:∀(k:Nat)(l:List Value)(z:Array Value),k+l.length<=z.size->((l.zipIdx k).foldl (fun cs(x:Value×Nat)=>cs.setIfInBounds (0*n+x.2) x.1) z).toList=z.toList.take k++l++z.toList.drop (k+l.length):=by
  intro k l;induction l generalizing k with
  |nil=>intro z _;simp
  |cons x l ih=>
   intro z hk;simp only[WL]at hk;simp only[List.zipIdx_cons,List.foldl_cons];rw[ih (k+1) _ (by simp;omega)];simp only[Nat.zero_mul,Xy,Array.toList_setIfInBounds];rw[List.take_set,List.drop_set_of_lt Z1];have h1:(z.toList.take (k+1)).set k x=z.toList.take k++[x]:=by
    rw[List.take_add_one,List.set_append_right _ _ (by simp;omega)];have:z.toList[k]? = some (z.toList[k]'(by simp;omega)):=WH _
    have hmin:k-min k z.size=0:=by omega
    rw[this];simp[hmin]
   rw[h1];simp only[WL,Xm,XP,Xu,X2];rw[show k+1+l.length=k+(l.length+1)from by omega]
 apply Array.ext'
 have e:us.zipIdx.foldl (fun cs(x:Value×Nat)=>cs.setIfInBounds (0*n+x.2) x.1) z=(us.toList.zipIdx 0).foldl (fun cs(x:Value×Nat)=>cs.setIfInBounds (0*n+x.2) x.1) z:=by
  rw[<- Array.foldl_toList,Array.toList_zipIdx]
 rw[e,key 0 us.toList z (by simp;omega)];simp;omega
section
variable {P:Program} {g:G} {s:St} {a:Act} {w:World} {H:FH} {γ:Gam} {F:Nm->Fp} {k:St->Prop}
theorem s6{E:Ut}{sub:List Sh}{t:TypeId}{len:Nat}{ps:Array (Nat×Operand)}{d:Tmp}(hX:RX g s.toS a w H γ F)(hd:okD g.nt (some d)=true)(hps:(ps.toList.all fun x=>ax x.2)=true)(h:cv P E sub s t len ps d k) :
  ∃t' y w' γ' F',(Instr.buildSlice t len (ps.map fun(i,x)=>(i,a.eval x))).run P w=.ok y w'/\k t'/\RX g t'.toS (a.put (some d) y) w' H γ' F':=by
 unfold cv at h;split at h
 ·rename_i e ht;split at h
  ·rename_i u z ts he hz hp;split at h
   ·rename_i j q hj;split at h
    ·rename_i sub' sh2 u' l2 hsj hsl;split at h
     ·rename_i s1 sub3 l' hb;split at h
      ·rename_i l hc hl;simp only[WI]at hc;obtain⟨⟨⟨⟨⟨⟨c1,c2⟩,c3⟩,c4⟩,c5⟩,c6⟩,c7,c8,c9⟩:=hc;have hsz:=WS c2
       obtain rfl:=WS c4;have hsl5:=WS c5
       have htl:=WS c6
       obtain rfl:=iF c7;obtain⟨pl⟩:=ps;have hp1:pl.map (fun x=>(x.1,evA s x.2))=[(0,.one (.agg ts))]:=hp
       match pl,hp1,hps with
       |[],hp1,_=>cases hp1
       |_::_::_,hp1,_=>simp at hp1
       |[(i,x)],hp1,hps=>
       simp only[List.map_cons,List.map_nil,List.cons.injEq,Prod.mk.injEq,and_true]at hp1;obtain⟨rfl,hx⟩:=hp1;have hop:ax x=true:=by simpa using hps
       have hv:=aA hX hop
       rw[af hop,hx]at hv;obtain⟨cs,hcs1,hcs2,hcs3⟩:=hv;have hcs2:cs.size=ts.length:=by simpa using hcs2
       obtain⟨_,hjj⟩:=yr hj;rw[Yp]at hjj;have hjl:j<ts.length:=(Xh.1 hjj).1
       have hjT:(ts.map Tt.toT)[j]? = some (.rf q):=by rw[WK,hjj];rfl
       obtain⟨_,v,gv,_,hv1,hv2,hv3⟩:=oC hcs3 hjT;have hvr:AR w H γ s.toS.m (.one (.c (.rf q))) v:=⟨fun _=>rfl,hv2.2⟩
       have hnd:=d9 hX
       obtain⟨b1,b2,_⟩:=kp (size:=nc u') rfl hnd (fun q' hq'=>by
        cases hq';exact mK hv2.2.1) hb
       obtain⟨kb,f,F1,k1,k2,k3,k4,k5⟩:=kq hX hvr b1;have hfz:=qy c9
       obtain⟨_,_,_,fk,fr,_,_,_,a4,_,a6,_⟩:=bW _ _ _ _ j hcs3 (by simpa using hjl);have hT2:Ts (TR w H γ s.toS.m) ((ts.set j .nil).map Tt.toT) (fun _=>0) (cs.toList.set j (.slice none 0 0)):=by
        have:=a6 (fun _=>TR w H γ s.toS.m) .nil (.slice none 0 0) (fun _=>0) (fun _ _ _ _ _ h=>h) ⟨fun _=>rfl,rfl⟩
        unfold Ts;rw[WJ,List.length_set];rw[WJ]at this;rw[Xp];exact kf (fun b=>by have:=a4 b;omega) this
       have hC:=yH (k:=kb) (fun _=>rfl) hfz hT2
       obtain⟨sj,_,_,fk2,fr2,d1,_,_,d4,_,d6,_⟩:=bW _ _ _ _ j hC (by simpa using hjl);rw[hsj]at d1;obtain rfl:=Option.some.inj d1;have hC2:=d6 (OD w H (kb+1)) (.li (l'.map (al u'))) v f (fun _ _ _ _ _ h=>h) (bQ (fun _ _ _ h=>h) kb (kb+1) _ _ _ _ (Xt _) (fun _ _=>rfl) k1)
       rw[XV,show cs.toList.set j v=cs.toList from kY hv1]at hC2;have hrow:=lC hl
       simp only[List.map_cons,List.map_nil]at hrow
       match l,hl,hrow,h with
       |[],_,hrow,_=>cases hrow
       |_::_::_,_,hrow,_=>simp at hrow
       |[y],hl,hrow,h=>
       simp only[List.map_cons,List.map_nil,List.cons.injEq,and_true]at hrow;have e1:((ts.set j .nil).map fun t=>t.toT.fz).set j (.li (l'.map (al u')))=al u y:=by
        rw[<- hrow,Xp,XV,Xp];rfl
       rw[e1]at hC2;have hn2:=bX k2 (.gh d)
       have hts:∀b,tot F1 (s1.toS.fresh (.gh d)).m b<=tot F1 s1.toS.m b:=by
        intro b;unfold S.fresh;split
        ·exact WN _
        ·show tot F1 (aC _ _) b<=_
         rw[aV];exact eD
       obtain⟨_,td,_,hud,htd,_⟩:=aP ht (by simp);obtain rfl:=lZ htd;obtain⟨ie,de,hie,_,_,hsize,_,_⟩:=eE c1;obtain⟨it',z0,hi',hz0,_,_⟩:=iG hz;rw[hie]at hi';obtain rfl:ie=it':=by simpa using hi'
       have hnc:ie.size=nc u:=by rw[<- hsize,<- hsz]
       obtain⟨us,cs',r1,r2,r3⟩:=g9 (P:=P) (w:=w) (t:=t) (len:=1) (vs:=#[(0,a.eval x)]) (cells:=#[]) hud hie hz0 (by rw[hnc];have:=WT c3;omega) (fun us hus=>by
        refine⟨cs,?_,by rw[hcs2,htl,hnc];omega,.inr trivial⟩;rw[hcs1];exact B2 (by rw[hcs2,htl,hnc]) hus)
       have hfill:Instr.fill (fun i=>some (i*ie.size,ie.size)) us #[(0,a.eval x)].toList=some cs:=by
        rw[hcs1];exact B2 (by rw[hcs2,htl,hnc]) r1
       rw[hfill]at r2;obtain rfl:=Option.some.inj r2;obtain⟨γ',F',hX4,hγ⟩:=Ep (ty':=e) hn2 (n:=.gh d) rfl (bH k2 (.gh d)) (by rw[gH,hsl5]) (by rw[hcs2,htl,hsl5]) (kf (f:=fun b=>f b+fr2 b) (g:=f) (fun b=>by have:=d4 b;omega) hC2)
        (fun b=>by have h1:=hts b;have h2:=k4 b;have h3:=hX.mem.le1 b;omega) k5
       have e2:((s1.fresh (.gh d)).root (.gh d) ⟨false,[.ow sub u [y]],none⟩).toS=(s1.toS.fresh (.gh d)).root (.gh d) ⟨false,[.ow sub [al u y]]⟩:=by
        rw[<- bk b2];rfl
       rw[<- e2]at hX4;refine⟨_,_,_,γ',F',by rw[show(Array.map (fun(x:Nat×Operand)=>(x.1,a.eval x.2)) ⟨[(0,x)]⟩)=#[(0,a.eval x)]from by simp];exact r3,h,?_⟩;refine aS (aB _ (some d) (.one (.c (.rf ⟨.gh d,0,[]⟩)))) (RX.put hX4 hd (fi (sub:=sub) (l:=[al u y]) ?_ hγ));rw[e2];simp[S.root,ab]
      ·exact h.elim
     ·exact h.elim
    ·exact h.elim
   ·exact h.elim
  ·exact h.elim
 ·exact h.elim
theorem xi{α β:Type}{R:α->β->Fp->Value->Prop}:∀(a:List α)(c:List β){b:List α}{d:List β}{f:Fp}{vs:List Value},a.length=c.length->Cs R (a++b) (c++d) f vs->∃f':Fp,Cs R a c f' vs/\∀x,f' x<=f x
 |[],[],_,_,_,_,_,_=>⟨fun _=>0,fun _=>rfl,fun _=>Xq _⟩
 |x::a,y::c,b,d,f,vs,hl,h=>by
  obtain⟨v,r,f1,f2,h1,h2,h3,h4⟩:=h;obtain⟨f',k1,k2⟩:=xi a c (by simpa using hl) h4;exact⟨fun q=>f1 q+f' q,⟨v,r,f1,f',h1,fun _=>rfl,h3,k1⟩,fun q=>by have:=h2 q;have:=k2 q;dsimp only;omega⟩
 |[],_::_,_,_,_,_,hl,_=>by simp at hl
 |_::_,[],_,_,_,_,hl,_=>by simp at hl
theorem Ql{k:Nat}{sub:List Sh}{l:List (List D)}{f:Fp}{v:Value}{m:Nat}(hm:m<=l.length)(h:OD w H k (.ow sub) (.li l) f v) :
  ∃ad c,v=.slice ad l.length c/\l.length<=c/\(∀b,ad=some b->b=⟨b.block,0,none⟩)/\∃f':Fp,OD w H k (.ow sub) (.li (l.take m)) f' (.slice ad m c)/\∀x,f' x<=f x:=by
 cases k with
 |zero=>simp[OD]at h
 |succ k=>
 rw[dA]at h;rcases h with⟨rfl,rfl,h0⟩|⟨b,c,cs,ty,fr,g',h1,h2,h3,h4,h5,h6,h7,h8,h9⟩
 ·obtain rfl:m=0:=by simpa using hm
  exact⟨none,0,rfl,WN _,(fun b hb=>by cases hb),f,dA.2 (.inl ⟨rfl,rfl,h0⟩),fun _=>WN _⟩
 ·subst h1;have e1:(List.replicate l.length sub).flatten=(List.replicate m sub).flatten++(List.replicate (l.length-m) sub).flatten:=by
   rw[<- List.flatten_append,List.replicate_append_replicate,Nat.add_sub_cancel' hm]
  have e2:l.flatten=(l.take m).flatten++(l.drop m).flatten:=by rw[<- List.flatten_append,XX]
  have hlen:(l.take m).length=m:=by rw[Xk];omega
  have h7':∀x∈l.take m,x.length=sub.length:=fun x hx=>h7 x (Yc hx)
  rw[e1,e2]at h8;obtain⟨f',k1,k2⟩:=xi _ _ (by rw[bT _ _ h7',hlen];simp) h8;refine⟨_,c,rfl,h5,fun b' hb=>by cases hb;rfl,fun x=>f' x+if x=b then 1 else 0,dA.2 (.inr ⟨b,c,cs,ty,fr,f',by rw[hlen],h2,h3,h4,by omega,by omega,h7',by rw[hlen];exact k1,fun _=>rfl⟩),fun x=>by have:=h9 x;have:=k2 x;dsimp only;omega⟩
theorem Dw{e:En}{t:TypeId}{x hi:Operand}{d:Tmp}(hX:RX g s.toS a w H γ F)(hd:okD g.nt (some d)=true)(hx:ax x=true)(hhi:ax hi=true)(h:kS e s t x hi d k) :
  ∃t' y γ' F',(∀w:World,(Instr.sliceAt t (a.eval x) none (some (a.eval hi)) none).run e.P w=.ok y w)/\k t'/\RX g t'.toS (a.put (some d) y) w H γ' F':=by
 unfold kS at h;split at h
 ·rename_i el ht;split at h
  ·rename_i q n hxe hne;split at h
   ·rename_i u0 l0 _;split at h
    ·rename_i s1 sub l hok hb;obtain⟨⟨n0,n1⟩,h⟩:=h;have hy:=aA hX hx
     have hn:=aA hX hhi
     rw[af hx,hxe]at hy;rw[af hhi,hne]at hn;obtain⟨b1,b2,_⟩:=kp (size:=nc u0) rfl (d9 hX) (fun q' hq'=>by
      cases hq';exact mK hy.2.1) hb
     obtain⟨kb,f,F1,k1,k2,k3,k4,k5⟩:=kq hX hy b1;obtain⟨ad,c,hv,hc,had,f',q1,q2⟩:=Ql (m:=n.toNat) (by rw[WJ];exact n1) k1;rw[WJ]at hv hc;obtain⟨_,td,_,hud,htd,_⟩:=aP ht (by simp);obtain rfl:=lZ htd;obtain⟨i,de,hi',_⟩:=eE hok;obtain⟨a',b',⟨rfl,rfl,_⟩,hbr⟩:=iL (P:=e.P) (isS:=true) (len:=l.length) (cap:=c) (vlo:=none) (lo:=none) (k:=fun a b=>a=0/\b=n.toNat/\b<=l.length) trivial (show JL w H γ s.toS.m (some (At.one (.c (.d (.i .i64 n)))).toV) (some (a.eval hi))from hn) hc (show fq none 0 _ from⟨n0,rfl,rfl,n1⟩) (fun a b h=>by omega);have hrun:∀w:World,(Instr.sliceAt t (a.eval x) none (some (a.eval hi)) none).run e.P w=.ok (.slice ad n.toNat c) w:=by
      intro w;rw[hv];simp only[Instr.sliceAt,Sem.run_bind,run_underlying hud,Result.andThen_ok];simp only[Instr.slice,Sem.run_bind,run_underlying hud,Result.andThen_ok,hbr,bM hi',Sem.run_pure]
      congr 2
      cases ad with
      |none=>simp
      |some ad=>
       rw[had ad rfl];simp[cH]
     have hn2:=bX k2 (.gh d)
     have hts:∀b,tot F1 (s1.toS.fresh (.gh d)).m b<=tot F1 s1.toS.m b:=by
      intro b;unfold S.fresh;split
      ·exact WN _
      ·show tot F1 (aC _ _) b<=_
       rw[aV];exact eD
     obtain⟨γ',F',hX4,hγ⟩:=cG hn2 (n:=.gh d) rfl (bH k2 (.gh d)) (v:=.slice ad n.toNat c) (t:=.ow sub ((l.take n.toNat).map (al u0))) (f:=f') ⟨kb,by rw[X6];exact q1⟩
      (fun b=>by have h1:=hts b;have h2:=k4 b;have h3:=hX.mem.le1 b;have:=q2 b;omega) (fun b hb=>by have:=q2 b;exact⟨(k5 b Z1).1,(k5 b Z1).2.1⟩) (fun b hb=>(k5 b (by have:=q2 b;omega)).2.2)
     have e2:((s1.fresh (.gh d)).root (.gh d) ⟨false,[.ow sub u0 (l.take n.toNat)],none⟩).toS=⟨(s1.toS.fresh (.gh d)).t,(.gh d,⟨false,[.ow sub ((l.take n.toNat).map (al u0))]⟩)::(s1.toS.fresh (.gh d)).m⟩:=by
      rw[<- bk b2];rfl
     rw[<- e2]at hX4;refine⟨_,_,γ',F',hrun,h,?_⟩;refine aS (aB _ (some d) (.one (.c (.rf ⟨.gh d,0,[]⟩)))) (RX.put hX4 hd (fi (sub:=sub) (l:=(l.take n.toNat).map (al u0)) ?_ hγ));rw[e2];simp[ab]
    ·exact h.elim
   ·exact h.elim
  ·exact h.elim
 ·exact h.elim
end
end Go.Am
end
