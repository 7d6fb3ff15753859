/-
  Part 15: AmE3m · AmE3n.
-/
import Derived.Test.YthhkhcolidkemaaGreatDoorCk14
import Derived.Deep.OwnRows
set_option linter.unusedSimpArgs false
set_option linter.unusedVariables false
set_option linter.unusedSectionVars false
set_option linter.unnecessarySimpa false
section
namespace Go.Am
open Go.MapKept
def Aq{β:Type}(ku:U)(g:β->Sh×D)(x:El ku×β):D×Sh×D:=((aj ku x.1).toD,g x.2)
abbrev uE(ku vu:U):El ku×El vu->D×Sh×D:=Aq ku fun v=>(.fr,(aj vu v).toD)
abbrev qv(u:U)(l:List (El u)):Sh×D:=(.ow (List.replicate (nc u) .fr),.li (l.map (al u)))
theorem pG{P:Program}{t:TypeId}{ku:U}(h:eG P t ku=true)(a b:El ku):kY (aj ku a).toD (aj ku b).toD=sM ku a b:=by
 cases ku with
 |i k=>show(decide (k=k)&&decide (a=b))=decide (a=b);simp
 |bo=>rfl
 |s=>rfl
 |_=>cases h
theorem eE{P:Program}{t:TypeId}{ku:U}(h:eG P t ku=true)(a:El ku):iK (ty P t).k (aj ku a).toD=true:=by
 cases ku with
 |i k=>
  have h:decide ((ty P t).k=.int k)=true:=h
  rw[of_decide_eq_true h];show decide (k=k)=true;simp
 |bo=>
  have h:decide ((ty P t).k=.bool)=true:=h
  rw[of_decide_eq_true h];rfl
 |s=>
  have h:decide ((ty P t).k=.str)=true:=h
  rw[of_decide_eq_true h];rfl
 |_=>cases h
theorem mi{P:Program}{t:TypeId}{ku:U}(h:eG P t ku=true):(ty P t).k≠.ot:=by
 intro e;cases ku<;>first|(unfold eG at h;rw[e]at h;simp at h;done)|cases h
theorem mR{β:Type}{P:Program}{t:TypeId}{ku:U}(h:eG P t ku=true)(g:β->Sh×D)(l:List (El ku×β)):((l.map (Aq ku g)).all fun x=>iK (ty P t).k x.1)=true:=by
 rw[afM];exact adC.2 fun x _=>eE h x.1
theorem sP{β:Type}{P:Program}{t:TypeId}{ku:U}(h:eG P t ku=true)(g:β->Sh×D)(k:El ku):∀l:List (El ku×β),nD (l.map (Aq ku g)) (aj ku k).toD=(aI ku l k).map g
 |[]=>rfl
 |x::l=>by
  simp only[List.map_cons,nD,aI,Aq,pG h];cases sM ku x.1 k with
  |true=>rfl
  |false=>exact sP h g k l
theorem DN{β:Type}{P:Program}{t:TypeId}{ku:U}(h:eG P t ku=true)(g:β->Sh×D)(k:El ku)(v:β):∀l:List (El ku×β),iy (l.map (Aq ku g)) (aj ku k).toD (g v)=(bS ku l k v).map (Aq ku g)
 |[]=>rfl
 |x::l=>by
  have ih:=DN h g k v l
  simp only[List.map_cons,iy,bS,Aq,pG h];cases sM ku x.1 k with
  |true=>rfl
  |false=>simp only[List.map_cons];rw[<- ih];rfl
theorem Oq{β:Type}{P:Program}{t:TypeId}{ku:U}(h:eG P t ku=true)(g:β->Sh×D)(k:El ku):∀l:List (El ku×β),DA (l.map (Aq ku g)) (aj ku k).toD=(Ln ku l k).map (Aq ku g)
 |[]=>rfl
 |x::l=>by
  have ih:=Oq h g k l
  simp only[List.map_cons,DA,Ln,Aq,pG h];cases sM ku x.1 k with
  |true=>rfl
  |false=>simp only[List.map_cons];rw[<- ih];rfl
theorem OE{k:D}(hk:kY k k=true)(a b:Sh×D):∀l:List (D×Sh×D),iy (iy l k a) k b=iy l k b
 |[]=>by simp only[iy,hk]
 |x::l=>by
  simp only[iy];cases h:kY x.1 k with
  |true=>simp only[iy,hk]
  |false=>simp only[iy,h,OE hk a b l]
theorem Xc{k:D}(hk:kY k k=true)(b:Sh×D)(l:List (D×Sh×D)):iy (wg l k) k b=iy l k b:=by
 unfold wg;split
 ·exact OE hk _ _ _
 ·rfl
theorem N1{κ:TK}{k:D}(hk:iK κ k=true)(v:Sh×D):∀{l:List (D×Sh×D)},(l.all fun x=>iK κ x.1)=true->((iy l k v).all fun x=>iK κ x.1)=true
 |[],_=>by simp[iy,hk]
 |x::l,h=>by
  simp only[adE,acX]at h;simp only[iy];split
  ·simp only[adE,hk,h.2,afJ]
  ·simp only[adE,h.1,N1 hk v h.2,afJ]
theorem We{κ:TK}{k:D}(hk:iK κ k=true){l:List (D×Sh×D)}(h:(l.all fun x=>iK κ x.1)=true):((wg l k).all fun x=>iK κ x.1)=true:=by
 unfold wg;split
 ·exact N1 hk _ h
 ·exact h
theorem EZ{P:Program}{t:TypeId}{u:U}(h:zOK P t u=true):∃z it,P.info? t=some it/\it.zero=some z/\z.cells=#[z]/\(∀w,(zeroValue t).run P w=.ok z w)/\(∀H,FDx H (aj u (dflt u)).toD z)/\(∀v,u=.sl v->z=.slice none 0 0)/\leaf u=true:=by
 unfold zOK at h;have run:∀{z:Value},(P.info? t).bind (·.zero)=some z->∃it,P.info? t=some it/\it.zero=some z/\∀w,(zeroValue t).run P w=.ok z w:=by
  intro z hz;obtain⟨it,h1,h2⟩:=adT.1 hz;exact⟨it,h1,h2,fun w=>by simp[zeroValue,typeInfo,h1,h2]⟩
 split at h
 ·rename_i k n k' hz;obtain⟨it,h1,h2,h3⟩:=run hz;simp only[acX,decide_eq_true_eq]at h;obtain⟨⟨rfl,rfl⟩,_⟩:=h;exact⟨_,it,h1,h2,rfl,h3,fun H=>⟨0,rfl,by cases k<;>decide⟩,(fun _ e=>by cases e),rfl⟩
 ·rename_i b hz;obtain⟨it,h1,h2,h3⟩:=run hz;cases b with
  |true=>cases h
  |false=>exact⟨_,it,h1,h2,rfl,h3,fun H=>⟨0,rfl⟩,(fun _ e=>by cases e),rfl⟩
 ·rename_i str hz;obtain⟨it,h1,h2,h3⟩:=run hz;refine⟨_,it,h1,h2,rfl,h3,fun H=>⟨0,?_,ad1 _⟩,(fun _ e=>by cases e),rfl⟩;obtain⟨⟨l⟩⟩:=str;cases l with
  |nil=>rfl
  |cons x l=>simp at h
 ·rename_i u hz;obtain⟨it,h1,h2,h3⟩:=run hz;exact⟨_,it,h1,h2,rfl,h3,fun H=>kE,fun _ _=>rfl,rfl⟩
 ·rename_i ku vu hz;obtain⟨it,h1,h2,h3⟩:=run hz;exact⟨_,it,h1,h2,rfl,h3,fun H=>⟨0,rfl⟩,(fun _ e=>by cases e),rfl⟩
 ·cases h
section
variable {P:Program} {g:G} {a:Act} {w:World} {H:FH} {γ:Gam} {F:Nm->Fp} {s:St} {k k':St->Prop}
theorem sR{E:Ut}{own:Bool}{t:TypeId}{d:Tmp}(hk:∀s',Ext s s'->k s'->k' s')(h:eF P E own s t d k):eF P E own s t d k':=by
 unfold eF at h⊢
 (repeat' split at h)<;>first|exact h.elim|exact hk _ (((bx _ _).trans (cf _ _ _)).trans (ay _ _ _)) h
theorem DZ{m:List (Nm×Nat×Rt)}{t:TypeId}{x key:At}{ok:Bool}{k k':At->Prop}(hk:∀v,k v->k' v)(h:lb P m t x key ok k):lb P m t x key ok k':=by
 unfold lb at h⊢
 (repeat' split at h)<;>first|exact h.elim|exact hk _ h
theorem IY{t:TypeId}{x key v:At}(hk:∀s',Ext s s'->k s'->k' s')(h:lc P s t x key v k):lc P s t x key v k':=by
 unfold lc at h⊢
 (repeat' split at h)<;>first|exact h.elim|exact hk _ ⟨ad3 _,fun _ _ _ h _=>h,cx _ _ (ac1 _) _⟩ h
theorem IU{t:TypeId}{x key:At}(hk:∀s',Ext s s'->k s'->k' s')(h:la P s t x key k):la P s t x key k':=by
 unfold la at h⊢
 (repeat' split at h)<;>first|exact h.elim|exact hk _ ⟨ad3 _,fun _ _ _ h _=>h,cx _ _ (ac1 _) _⟩ h
theorem rX(s:St)(n:Nm)(r:Rt):Ext s ⟨s.nx+1,s.t,cu s.m n s.nx r⟩:=⟨ad3 _,fun _ _ _ h _=>h,cx _ _ (ac1 _) _⟩
theorem D2{t:TypeId}{x key:Operand}{d:Tmp}(hk:∀s',Ext s s'->k s'->k' s')(h:mf P s t x key d k):mf P s t x key d k':=by
 unfold mf at h⊢;dsimp only at h⊢
 (repeat' split at h)<;>first|exact h.elim|exact hk _ ((((bx _ _).trans (rX _ _ _)).trans (cf _ _ _)).trans (ay _ _ _)) h
theorem IX{t:TypeId}{x key v:At}(hk:∀s',Ext s s'->k s'->k' s')(h:pK P s t x key v k):pK P s t x key v k':=by
 unfold pK at h⊢;dsimp only at h⊢
 (repeat' split at h)<;>first|exact h.elim|exact⟨h.1,hk _ ((rW _ _).trans (rX _ _ _)) h.2⟩
theorem IV{x:Operand}{d:Tmp}(hk:∀s',Ext s s'->k s'->k' s')(h:pI s x d k):pI s x d k':=by
 unfold pI at h⊢
 (repeat' split at h)<;>first|exact h.elim|exact hk _ ((rX _ _ _).trans (ay _ _ _)) h
theorem yY{e:En}{t:TypeId}{n c:At}{b:Bool}{d:Tmp}(hk:∀s',Ext s s'->k s'->k' s')(h:dL e s t n c b d k):dL e s t n c b d k':=by
 unfold dL at h⊢
 (repeat' split at h)<;>first|exact h.elim|exact⟨h.1,hk _ (((bx _ _).trans (cf _ _ _)).trans (ay _ _ _)) h.2⟩
theorem IT{E:Ut}{own:Bool}{t:TypeId}{d:Tmp}(hX:RX g s.toS a w H γ F)(hd:okD g.nt (some d)=true)(h:eF P E own s t d k){r:Option Value}(hr:∀v,r=some v->∃κ n,v=.int κ n) :
  ∃t' y w' γ' F',(Instr.makeMap t r).run P w=.ok y w'/\k t'/\RX g t'.toS (a.put (some d) y) w' H γ' F':=by
 have go:∀{kt et:TypeId}{c:Tt},(ty P t).k=.mp kt et->c.toT=.mp []->k (((s.fresh (.gh d)).root (.gh d) ⟨false,[c],none⟩).put (some d) (.one (.c (.rf ⟨.gh d,0,[]⟩))))->∃t' y w' γ' F',(Instr.makeMap t r).run P w=.ok y w'/\k t'/\RX g t'.toS (a.put (some d) y) w' H γ' F':=by
  intro kt et c ht hc hk;obtain⟨_,td,_,hu,htd,_⟩:=aR ht (by simp);obtain rfl:=qx htd;have hn:=d9 hX
  have h1:=bV hX (.gh d)
  obtain⟨γ',F',h2,hγ⟩:=Pk h1 (n:=.gh d) rfl (bG hX (.gh d));have hrun:(Instr.makeMap t r).run P w=.ok (.map (some w.heap.size)) (w.alloc (.map #[] 0)):=by
   cases r with
   |none=>rfl
   |some v=>
    obtain⟨κ,n,rfl⟩:=hr v rfl;simp[Instr.makeMap,run_underlying hu,asInt,asIntOf,Result.andThen]
  refine⟨_,_,_,γ',F',hrun,hk,?_⟩;have e:((s.fresh (.gh d)).root (.gh d) ⟨false,[c],none⟩).toS=⟨(s.toS.fresh (.gh d)).t,(.gh d,⟨false,[.mp []]⟩)::(s.toS.fresh (.gh d)).m⟩:=by
   rw[<- br hn];show(⟨_,(Nm.gh d,(⟨false,[c.toT]⟩:Root))::_⟩:S)=_
   rw[hc];rfl
  rw[<- e]at h2;refine aV (aD _ (some d) (.one (.c (.rf ⟨.gh d,0,[]⟩)))) (h2.put hd ?_);exact tG (l:=[]) (by rw[e];simp[aa]) hγ
 unfold eF at h;split at h
 ·rename_i kt et ht;split at h
  ·exact go ht rfl h
  ·exact go ht rfl h
  ·exact h.elim
 ·exact h.elim
theorem pH{p:Pl}{ku vu:U}{l:List (El ku×El vu)}(h:nj s.m p=some ⟨ku,vu,l⟩):∃n,p=⟨n,0,[]⟩/\aa s.toS.m n=some ⟨false,[.mp (l.map (uE ku vu))]⟩:=by
 unfold nj at h;split at h
 ·rename_i n;split at h
  ·rename_i hr;cases h;exact⟨n,rfl,aP hr⟩
  ·cases h
 ·cases h
theorem uP{n:Nm}{ku u:U}{l:List (El ku×List (El u))}{o:Option (El ku)}(h:uO s.m n=some ⟨ku,u,l,o⟩):aa s.toS.m n=some ⟨false,[.mp (moD ku u l o)]⟩:=by
 unfold uO at h;split at h
 ·rename_i hr;cases h;exact aP hr
 ·cases h
theorem rD{n:Nm}{l:List (D×Sh×D)}(hX:RX g s.toS a w H γ F)(hr:aa s.toS.m n=some ⟨false,[.mp l]⟩){y:Value}(hy:AR w H γ s.toS.m (.one (.c (.rf ⟨n,0,[]⟩))) y) :
  ∃b es ck,∃f:Fp,y=.map (some b)/\γ n=.gh (.map (some b))/\w.heap[b]? = some (.map es ck)/\Stamped es ck/\MpO w H l es.toList f/\(∀c,F n c=f c+if c=b then 1 else 0)/\f b=0:=by
 obtain⟨b,es,ck,f,c1,c2,c3,c4,c5,c6⟩:=UN hX.mem hr;obtain⟨_,_,hv⟩:=hy;refine⟨b,es,ck,f,?_,c1,c2,c3,c4,c5,c6⟩;unfold plV at hv;dsimp only at hv;rw[c1]at hv;exact(Option.some.inj hv).symm
theorem zg{P:Program}{t:TypeId}{u:U}(h:eG P t u=true):leaf u=true:=by cases u<;>first|rfl|cases h
theorem L5{t:TypeId}{x key:At}{ok:Bool}{k:At->Prop}(hX:RX g s.toS a w H γ F){y kv:Value}(hy:AR w H γ s.toS.m x.toV y)(hkv:AR w H γ s.toS.m key.toV kv)(h:lb P s.m t x key ok k) :
  ∃z v,(Instr.lookup t y kv ok).run P w=.ok z w/\AR w H γ s.toS.m v.toV z/\k v:=by
 unfold lb at h;split at h
 ·rename_i kt et ht;split at h
  ·rename_i p c;split at h
   ·rename_i ku vu l hm;split at h
    ·rename_i kx hc hk;simp only[acX]at hc;obtain⟨_,td,_,hu,htd,_⟩:=aR ht (by simp);obtain rfl:=qx htd;obtain⟨_,kd,_,hku,hkd,_⟩:=aR rfl (mi hc.1);obtain⟨n,rfl,hr⟩:=pH hm;obtain⟨b,es,ck,f,rfl,_,c2,c3,c4,_⟩:=rD hX hr hy;obtain⟨z,_,_,_,_,zr,zf,_,zl⟩:=EZ hc.2;have hkey:FDx H (aj ku kx).toD kv:=by rw[cv hk]at hkv;exact hkv.2
     obtain⟨v,e1,e2⟩:=rE (P:=P) hu hku c2 c4 (by rw[hkd];exact mR hc.1 _ l) (by rw[hkd];exact eE hc.1 kx) hkey (zr w) ok;rw[sP hc.1]at e1 e2;have hv:FDx H (aj vu ((aI ku l kx).getD (dflt vu))).toD v:=by
      cases hl:aI ku l kx with
      |none=>rw[hl]at e2;rw[show v=z from e2.1];exact zf H
      |some x=>
       rw[hl]at e2;obtain⟨_,_,_,q,_⟩:=e2;exact(ea.1 q).2
     refine⟨_,_,e1,?_,h⟩;unfold MB;cases ok with
     |true=>exact⟨_,rfl,⟨fun _=>rfl,hv⟩,⟨fun _=>rfl,0,by rw[Option.isSome_map];rfl⟩,trivial⟩
     |false=>exact⟨fun _=>rfl,hv⟩
    ·exact h.elim
   ·exact h.elim
  ·rename_i ku vu z c;split at h
   ·rename_i kx hc hk;simp only[acX]at hc;obtain⟨_,td,_,hu,htd,_⟩:=aR ht (by simp);obtain rfl:=qx htd;obtain⟨_,kd,_,hku,hkd,_⟩:=aR rfl (mi hc.1);obtain⟨zv,_,_,_,_,zr,zf,_,zl⟩:=EZ hc.2.1;have hkey:FDx H (aj ku kx).toD kv:=by rw[cv hk]at hkv;exact hkv.2
    have hisk:iK (eJ P kd) (aj ku kx).toD=true:=by rw[hkd];exact eE hc.1 kx
    have hd:FDx H (.mp (z.map fun l=>l.map fun x=>((al ku x.1).headD .any,(al vu x.2).headD .any))) y:=hy.2
    cases z with
    |none=>
     obtain⟨b,rfl⟩:=Ku hd;have hb:b=none:=by
      obtain⟨m,hd⟩:=hd;have hd:Value.map b=.map none:=by cases m<;>exact hd
      simpa using hd
     subst hb;refine⟨_,_,zK hu hku hisk hkey (zr w) ok,?_,h⟩;have hv:FDx H (aj vu (dflt vu)).toD zv:=zf H
     unfold MB;cases ok with
     |true=>exact⟨_,rfl,⟨fun _=>rfl,hv⟩,⟨fun _=>rfl,0,rfl⟩,trivial⟩
     |false=>exact⟨fun _=>rfl,hv⟩
    |some l=>
     have el:(l.map fun x=>((al ku x.1).headD .any,(al vu x.2).headD .any))=l.map fun x=>((aj ku x.1).toD,(aj vu x.2).toD):=adG fun x _=>by rw[im (zg hc.1),im hc.2.2]
     have hd:FDx H (.mp (some (l.map fun x=>((al ku x.1).headD .any,(al vu x.2).headD .any)))) y:=hd
     rw[el]at hd;obtain⟨b,es,ck,rfl,c2,_,c4⟩:=Sw hX.mem.agree (fun e he=>by
      obtain⟨x,_,rfl⟩:=adR.1 he;exact nf (eE hc.1 x.1)) hd
     rw[adD]at c4;have c4:MpO w H (l.map (uE ku vu)) es.toList (fun _=>0):=c4
     obtain⟨v,e1,e2⟩:=rE (P:=P) hu hku c2 c4 (by rw[hkd];exact mR hc.1 _ l) hisk hkey (zr w) ok;rw[sP hc.1]at e1 e2;have hv:FDx H (aj vu ((aI ku l kx).getD (dflt vu))).toD v:=by
      cases hl:aI ku l kx with
      |none=>rw[hl]at e2;rw[show v=zv from e2.1];exact zf H
      |some x=>
       rw[hl]at e2;obtain⟨_,_,_,q,_⟩:=e2;exact(ea.1 q).2
     refine⟨_,_,e1,?_,h⟩;unfold MB;cases ok with
     |true=>exact⟨_,rfl,⟨fun _=>rfl,hv⟩,⟨fun _=>rfl,0,by rw[Option.isSome_map];rfl⟩,trivial⟩
     |false=>exact⟨fun _=>rfl,hv⟩
   ·exact h.elim
  ·exact h.elim
 ·exact h.elim
theorem Qf{vu:U}{tv:Tt}{vx:El vu}(hl:leaf vu=true)(h:gz vu [tv]=some vx){m:Mm}{y:Value}(hy:TR w H γ m tv.toT (fun _=>0) y):FDx H (aj vu vx).toD y:=by
 have h1:Ao vu tv=some vx:=by cases vu<;>first|exact h|cases hl
 unfold Ao at h1;split at h1
 ·split at h1
  ·simp only[acV]at h1;subst h1;exact hy.2
  ·cases h1
 ·rw[cv h1]at hy;exact hy.2
 ·split at h1
  ·simp only[acV]at h1;subst h1;obtain⟨_,rfl⟩:=hy;exact kE
  ·cases h1
 ·cases h1
theorem mz{s:St}{n:Nm}{c:Tt}{l:List (D×Sh×D)}(hc:c.toT=.mp l):(⟨s.nx+1,s.t,cu s.m n s.nx ⟨false,[c],none⟩⟩:St).toS=⟨s.toS.t,bA s.toS.m n ⟨false,[.mp l]⟩⟩:=by
 refine aY.S_ext rfl ?_;show toM (cu s.m n s.nx _)=_
 rw[dO]
 congr 1
 show(⟨false,[c.toT]⟩:Root)=_
 rw[hc]
theorem L9{t:TypeId}{x key v:At}(hX:RX g s.toS a w H γ F){y kv vv:Value}(hy:AR w H γ s.toS.m x.toV y)(hkv:AR w H γ s.toS.m key.toV kv)(hvv:AR w H γ s.toS.m v.toV vv)(h:lc P s t x key v k) :
  ∃t' w' F',(Instr.mapUpdate t y kv vv).run P w=.ok () w'/\k t'/\RX g t'.toS a w' H γ F':=by
 unfold lc at h;split at h
 ·rename_i kt et ht;split at h
  ·rename_i p c tv;split at h
   ·rename_i ku vu l hm;split at h
    ·rename_i kx vx hc hk hcv;simp only[acX]at hc;obtain⟨_,td,_,hu,htd,_⟩:=aR ht (by simp);obtain rfl:=qx htd;obtain⟨_,kd,_,hku,hkd,_⟩:=aR rfl (mi hc.1);obtain⟨n,rfl,hr⟩:=pH hm;obtain⟨b,es,ck,f,rfl,c1,c2,c3,c4,c5,c6⟩:=rD hX hr hy;have hkey:FDx H (aj ku kx).toD kv:=by rw[cv hk]at hkv;exact hkv.2
     have hval:FDx H (aj vu vx).toD vv:=Qf hc.2 hcv hvv
     obtain⟨es',ck',f2,e1,e2,e3,e4⟩:=zM (P:=P) hu hku c2 c3 c4 c6 (by rw[hkd];exact mR hc.1 _ l) (by rw[hkd];exact eE hc.1 kx) hkey (v:=(.fr,(aj vu vx).toD)) (n:=0) (fv:=fun _=>0) rfl (ea.2 ⟨fun _=>rfl,hval⟩);rw[DN hc.1 (fun v=>(.fr,(aj vu v).toD))]at e4;have hge:∀c,F n c<=tot F s.toS.m c:=fun c=>aQ (F:=F) (ac hr) c
     have:=uf hX hr c1 c2 c5 e2 e4 (fun c=>by have:=e3 c;have:=hX.mem.le1 c;omega) (fun c hc=>by
      have h3:tot F s.toS.m c≠0:=by have:=e3 c;have:=c5 c;have:=hge c;omega
      exact⟨hX.mem.lt c h3,hX.mem.nofz c h3,hX.fr.tt c h3⟩)
     rw[<- mz (s:=s) (c:=.mp ku vu (bS ku l kx vx)) (l:=(bS ku l kx vx).map (uE ku vu)) rfl]at this;exact⟨_,_,_,e1,h,this⟩
    ·exact h.elim
   ·exact h.elim
  ·exact h.elim
 ·exact h.elim
theorem L2{t tt:TypeId}{ts:List TypeId}{x key:At}(hX:RX g s.toS a w H γ F){y kv:Value}(hy:AR w H γ s.toS.m x.toV y)(hkv:AR w H γ s.toS.m key.toV kv)(h:la P s t x key k) :
  ∃t' w' F',(Builtin.delete_ (t::ts).toArray tt #[y,kv]).run P w=.ok (.tuple #[]) w'/\k t'/\RX g t'.toS a w' H γ F':=by
 unfold la at h;split at h
 ·rename_i kt et ht;split at h
  ·rename_i p c;split at h
   ·rename_i ku vu l hm;split at h
    ·rename_i kx hc hk;obtain⟨_,td,_,hu,htd,_⟩:=aR ht (by simp);obtain rfl:=qx htd;obtain⟨_,kd,_,hku,hkd,_⟩:=aR rfl (mi hc);obtain⟨n,rfl,hr⟩:=pH hm;obtain⟨b,es,ck,f,rfl,c1,c2,c3,c4,c5,c6⟩:=rD hX hr hy;have hkey:FDx H (aj ku kx).toD kv:=by rw[cv hk]at hkv;exact hkv.2
     obtain⟨es',f2,e1,e2,e3,e4⟩:=MD (P:=P) (ty:=tt) hu hku c2 c3 c4 c6 (by rw[hkd];exact mR hc _ l) (by rw[hkd];exact eE hc kx) hkey (t::ts).toArray (by simp);rw[Oq hc]at e4;have hge:∀c,F n c<=tot F s.toS.m c:=fun c=>aQ (F:=F) (ac hr) c
     have:=uf hX hr c1 c2 c5 e2 e4 (fun c=>by have:=e3 c;have:=hX.mem.le1 c;omega) (fun c hc=>by
      have h3:tot F s.toS.m c≠0:=by have:=e3 c;have:=c5 c;have:=hge c;omega
      exact⟨hX.mem.lt c h3,hX.mem.nofz c h3,hX.fr.tt c h3⟩)
     rw[<- mz (s:=s) (c:=.mp ku vu (Ln ku l kx)) (l:=(Ln ku l kx).map (uE ku vu)) rfl]at this;exact⟨_,_,_,e1,h,this⟩
    ·exact h.elim
   ·exact h.elim
  ·exact h.elim
 ·exact h.elim
theorem LB{P:Program}{t:TypeId}{ku:U}(h:eG P t ku=true)(k:El ku):kY (aj ku k).toD (aj ku k).toD=true:=by
 rw[pG h];cases ku with
 |i _=>show decide (k=k)=true;simp
 |bo=>cases(k:Bool)<;>rfl
 |s=>show decide (k=k)=true;simp
 |_=>cases h
theorem IZ{t:TypeId}{x key:Operand}{d:Tmp}(hX:RX g s.toS a w H γ F)(hd:okD g.nt (some d)=true)(hx:aw x=true)(hkx:aw key=true)(h:mf P s t x key d k) :
  ∃t' y γ' F',(Instr.lookup t (a.eval x) (a.eval key) false).run P w=.ok y w/\k t'/\RX g t'.toS (a.put (some d) y) w H γ' F':=by
 unfold mf at h;split at h
 ·rename_i kt et ht;dsimp only at h;have hX1:RX g (s.fresh (.gh d)).toS a w H γ F:=by rw[br (d9 hX)];exact bV hX _
  have hn0:aa (s.fresh (.gh d)).toS.m (.gh d)=none:=by rw[br (d9 hX)];exact bG hX _
  generalize s.fresh (.gh d)=s1 at h hX1 hn0;split at h
  ·rename_i n c hxe hke;split at h
   ·rename_i ku u l hm;split at h
    ·rename_i kx hc hk;simp only[acX]at hc;obtain⟨_,td,_,hu,htd,_⟩:=aR ht (by simp);obtain rfl:=qx htd;obtain⟨_,kd,_,hku,hkd,_⟩:=aR rfl (mi hc.1);have hr:=uP hm
     have hy:=aA hX1 hx
     have hkv:=aA hX1 hkx
     rw[ae hx,hxe]at hy;rw[ae hkx,hke]at hkv;obtain⟨b,es,ck,f,hyv,c1,c2,c3,c4,c5,c6⟩:=rD hX1 hr hy;obtain⟨z,_,_,_,_,zr,_,zs,_⟩:=EZ hc.2;have hkey:FDx H (aj ku kx).toD (a.eval key):=by rw[cv hk]at hkv;exact hkv.2
     have hall:((moD ku u l none).all fun x=>iK (ty P kt).k x.1)=true:=mR hc.1 (qv u) l
     obtain⟨v,e1,e2⟩:=rE (P:=P) hu hku c2 c4 (by rw[hkd];exact hall) (by rw[hkd];exact eE hc.1 kx) hkey (zr w) false;have hlook:nD (moD ku u l none) (aj ku kx).toD=(aI ku l kx).map (qv u):=sP hc.1 (qv u) kx l
     have fin:∀(f1 f2:Fp)(n':Nat),(∀c,f c=f1 c+f2 c)->OD w H n' (.ow (List.replicate (nc u) .fr)) (.li (((aI ku l kx).getD []).map (al u))) f1 v->MpO w H (wg (moD ku u l none) (aj ku kx).toD) es.toList f2 ->
       ∃t' y γ' F',(Instr.lookup t (a.eval x) (a.eval key) false).run P w=.ok y w/\k t'/\RX g t'.toS (a.put (some d) y) w H γ' F':=by
      intro f1 f2 n' hf hod hmp;obtain⟨γ',F',q1,q2⟩:=Pm hX1 hr c1 c2 c3 c5 hf hmp (n2:=.gh d) rfl hn0 hod;refine⟨_,v,γ',F',by rw[hyv];exact e1,h,?_⟩;have e3:((⟨s1.nx+1,s1.t,cu s1.m n s1.nx ⟨false,[.mo ku u l (some kx)],none⟩⟩:St).root (.gh d) ⟨false,[.ow (List.replicate (nc u) .fr) u ((aI ku l kx).getD [])],none⟩).toS=⟨s1.toS.t,(.gh d,⟨false,[.ow (List.replicate (nc u) .fr) (((aI ku l kx).getD []).map (al u))]⟩)::bA s1.toS.m n ⟨false,[.mp (wg (moD ku u l none) (aj ku kx).toD)]⟩⟩:=by
       have:=mz (s:=s1) (n:=n) (c:=.mo ku u l (some kx)) (l:=wg (moD ku u l none) (aj ku kx).toD) rfl
       have h2:=congrArg S.m this
       have h1:=congrArg S.t this
       exact aY.S_ext h1 (congrArg (List.cons _) h2)
      rw[<- e3]at q1;refine aV (aD _ (some d) (.one (.c (.rf ⟨.gh d,0,[]⟩)))) (q1.put hd (fJ (sub:=List.replicate (nc u) .fr) (l:=((aI ku l kx).getD []).map (al u)) ?_ q2));rw[e3];simp[aa]
     rw[hlook]at e2;cases hl:aI ku l kx with
     |none=>
      rw[hl]at e2;refine fin (fun _=>0) f 1 (fun c=>(aeA _).symm) ?_ ?_
      ·rw[hl,e2.1,zs _ rfl];show OD w H 1 _ (.li []) _ _
       rw[dD];exact .inl ⟨rfl,rfl,fun _=>rfl⟩
      ·have:wg (moD ku u l none) (aj ku kx).toD=moD ku u l none:=by unfold wg;rw[hlook,hl];rfl
       rw[this];exact e2.2
     |some rows=>
      rw[hl]at e2;obtain⟨n',f1,f2,q1,q2,q3⟩:=e2;refine fin f1 f2 n' q2 (by rw[hl];exact q1) ?_;have:wg (moD ku u l none) (aj ku kx).toD=iy (moD ku u l none) (aj ku kx).toD ((qv u rows).1,.any):=by unfold wg;rw[hlook,hl];rfl
      rw[this];exact q3
    ·exact h.elim
   ·exact h.elim
  ·exact h.elim
 ·exact h.elim
theorem L7{t:TypeId}{x key v:At}(hX:RX g s.toS a w H γ F){y kv vv:Value}(hy:AR w H γ s.toS.m x.toV y)(hkv:AR w H γ s.toS.m key.toV kv)(hvv:AR w H γ s.toS.m v.toV vv)(h:pK P s t x key v k) :
  ∃t' w' F',(Instr.mapUpdate t y kv vv).run P w=.ok () w'/\k t'/\RX g t'.toS a w' H γ F':=by
 unfold pK at h;split at h
 ·rename_i kt et ht;split at h
  ·rename_i n c q;split at h
   ·rename_i ku u l o sub u' rows hm hq;split at h
    ·rename_i kx rows' hc hk hcast;simp only[acX,aeV,decide_eq_false_iff_not]at hc;obtain⟨hc1,hc2,hc3⟩:=hc;obtain⟨eu,rfl⟩:=ij hcast;subst eu;obtain rfl:=jB hc2;obtain⟨h0,h⟩:=h;dsimp only at h;obtain⟨_,td,_,hu,htd,_⟩:=aR ht (by simp);obtain rfl:=qx htd;obtain⟨_,kd,_,hku,hkd,_⟩:=aR rfl (mi hc1);have hr:=uP hm
     have hq2:aa s.toS.m q=some ⟨false,[.ow (List.replicate (nc u') .fr) (rows.map (al u'))]⟩:=aP hq
     have hR:=hX.mem.roots _ (ac hq2)
     unfold ba at hR;dsimp only at hR;rw[if_neg (by simp)]at hR;obtain⟨vq,tq,hγq,hcells,hTq⟩:=hR;obtain rfl:tq=.ow (List.replicate (nc u') .fr) (rows.map (al u')):=by simpa using hcells.symm
     obtain⟨nq,hod⟩:=hTq;have hvq:vv=vq:=by
      obtain⟨_,_,hv⟩:=hvv;unfold plV at hv;dsimp only at hv;rw[hγq]at hv;exact(Option.some.inj hv).symm
     subst hvq;have hge:∀c,F q c<=tot F s.toS.m c:=fun c=>aQ (F:=F) (ac hq2) c
     have hge2:∀c,F n c+F q c<=tot F s.toS.m c:=fun c=>tA (F:=F) (ac hr) (ac hq2) (fun e=>hc3 e.symm) c
     have hXd:=pm hX q
     have ed:(s.drop q).toS=s.toS.drop q:=aY (d9 hX)
     have htd2:∀c,tot F (s.toS.drop q).m c+F q c=tot F s.toS.m c:=fun c=>by
      show tot F (ax _ _) c+_=_
      rw[aT];exact iC hq2 c
     have hrd:aa (s.toS.drop q).m n=some ⟨false,[.mp (moD ku u' l o)]⟩:=by
      show aa (ax (aM q) (bj s.toS.m q)) n=_
      rw[jX,jx (fun e=>hc3 e.symm),hr];rfl
     obtain⟨b,es,ck,f,hyv,c1,c2,c3,c4,c5,c6⟩:=rD hX hr hy;subst hyv;have hkey:FDx H (aj ku kx).toD kv:=by rw[cv hk]at hkv;exact hkv.2
     have hkk:=LB hc1 kx
     have hall:((moD ku u' l o).all fun x=>iK (ty P kt).k x.1)=true:=by
      cases o with
      |none=>exact mR hc1 (qv u') l
      |some k0=>exact We (eE hc1 k0) (mR hc1 (qv u') l)
     have hins:iy (moD ku u' l o) (aj ku kx).toD (qv u' rows)=moD ku u' (bS ku l kx rows) none:=by
      have e0:iy (l.map (T2 ku u')) (aj ku kx).toD (qv u' rows)=(bS ku l kx rows).map (T2 ku u'):=DN hc1 (qv u') kx rows l
      cases o with
      |none=>exact e0
      |some k0=>
       have h0:kx=k0:=h0
       subst h0;exact(Xc hkk _ _).trans e0
     have hqb:F q b=0:=by have:=hge2 b;have:=hX.mem.le1 b;have:=c5 b;rw[if_pos rfl]at this;omega
     obtain⟨es',ck',f2,e1,e2,e3,e4⟩:=zM (P:=P) hu hku c2 c3 c4 c6 (by rw[hkd];exact hall) (by rw[hkd];exact eE hc1 kx) hkey (v:=qv u' rows) (n:=nq) (fv:=F q) hqb hod;rw[hins]at e4;have:=uf hXd hrd c1 c2 c5 e2 e4 (fun c=>by have:=e3 c;have:=htd2 c;have:=hX.mem.le1 c;have:=hge2 c;omega) (fun c hc=>by
      have h3:tot F s.toS.m c≠0:=by have:=e3 c;have:=c5 c;have:=hge2 c;omega
      exact⟨hX.mem.lt c h3,hX.mem.nofz c h3,hX.fr.tt c h3⟩)
     rw[<- ed,<- mz (s:=s.drop q) (c:=.mo ku u' (bS ku l kx rows) none) (l:=moD ku u' (bS ku l kx rows) none) rfl]at this;exact⟨_,_,_,e1,h,this⟩
    ·exact h.elim
   ·exact h.elim
  ·exact h.elim
 ·exact h.elim
theorem L3{x:Operand}{d:Tmp}(hX:RX g s.toS a w H γ F)(hd:okD g.nt (some d)=true)(hx:aw x=true)(h:pI s x d k) :
  ∃t' H' F',k t'/\RX g t'.toS (a.put (some d) (a.eval x)) w H' γ F':=by
 unfold pI at h;split at h
 ·rename_i n hxe;split at h
  ·rename_i ku u l hm;have hr:=uP hm
   have hy:=aA hX hx
   rw[ae hx,hxe]at hy;obtain⟨b,es,ck,f,hyv,c1,_⟩:=rD hX hr hy;obtain⟨H',F',h2⟩:=SQ hX hr;have hfz:Zz (moD ku u l none)=l.map (uE ku (.sl u)):=by
    show(l.map (T2 ku u)).map _=_
    rw[adD];rfl
   rw[hfz,<- mz (s:=s) (c:=.mp ku (.sl u) l) (l:=l.map (uE ku (.sl u))) rfl]at h2;refine⟨_,H',F',h,aV (aD _ (some d) (.one (.c (.rf ⟨n,0,[]⟩)))) (h2.put hd ?_)⟩;rw[hyv];refine tG (l:=l.map (uE ku (.sl u))) ?_ c1;rw[mz (s:=s) (c:=.mp ku (.sl u) l) (l:=l.map (uE ku (.sl u))) rfl];show aa (bA s.toS.m n _) n=_
   rw[dV hr,if_pos rfl]
  ·exact h.elim
 ·exact h.elim
theorem QY(z:Value)(n:Nat):(madeCells #[z] n).toList=List.replicate n z:=by
 unfold madeCells;apply List.ext_getElem
 ·simp
 ·intro i h1 h2;simp[Nat.mod_one]
theorem AM{e:En}{t:TypeId}{n c:Operand}{d:Tmp}(hX:RX g s.toS a w H γ F)(hd:okD g.nt (some d)=true)(hno:aw n=true)(h:dL e s t (evA s n) (evA s c) (zQ n c) d k) :
  ∃t' y w' γ' F',(Instr.makeSlice t (a.eval n) (a.eval c)).run e.P w=.ok y w'/\k t'/\RX g t'.toS (a.put (some d) y) w' H γ' F':=by
 have hsame:zQ n c=true->a.eval c=a.eval n:=by
  intro hs;unfold zQ at hs;split at hs
  ·rw[ac7 hs]
  ·cases hs
 have hv:=aA hX hno
 rw[ae hno]at hv;unfold dL at h;split at h
 ·rename_i el ht hs;split at h
  ·rename_i i he;rw[he]at hv;obtain⟨hi,hw⟩:=mG hv;split at h
   ·rename_i u hu;split at h
    ·rename_i hc;simp only[acX]at hc;obtain⟨⟨h0,h1,h2⟩,h⟩:=h;obtain⟨_,td,_,hud,htd,_⟩:=aR ht (by simp);obtain rfl:=nG htd;obtain⟨z,it,z1,z2,z3,_,z5,z6,z7⟩:=EZ hc.1.1;have hok:(ty e.P el).ok=true:=by
      cases hb:(ty e.P el).ok with
      |true=>rfl
      |false=>
       have:=ac7 hc.1.2
       unfold ty at hb this;rw[z1]at hb this;cases hud2:e.P.underlying el with
       |none=>rw[hud2]at this;simp at this
       |some d2=>rw[hud2]at hb;simp at hb
     obtain⟨it',_,i1,_,_,i4,i5,_⟩:=eL hok;rw[z1]at i1;obtain rfl:=Option.some.inj i1;have hs1:it.size=1:=by rw[<- i4];exact ac7 hc.1.2
     rw[i5]at h2;have hrun:=run_make_row (P:=e.P) t el it z hud z1 z2 hs1 z3 .i64 .i64 i.toNat h2 kQ1 w
     rw[Int.toNat_of_nonneg h0]at hrun;have h3:=bV hX (.gh d)
     have hn:=d9 hX
     have hrow:∀k,Cs (OD w H (k+1)) (List.replicate i.toNat ((dP e.sh el).getD [.fr])).flatten (List.replicate i.toNat [(aj u (dflt u)).toD]).flatten (fun _=>0) (madeCells #[z] i.toNat).toList:=by
      intro k;rw[QY];generalize i.toNat=N;induction N with
      |zero=>exact fun _=>rfl
      |succ N ih=>
       rw[aeX,aeX,aeX,aeT,aeT];have hr:=hc.2
       generalize(dP e.sh el).getD [.fr]=sub at hr ih;unfold OX at hr;split at hr
       ·exact⟨z,_,fun _=>0,fun _=>0,rfl,fun _=>rfl,ea.2 ⟨fun _=>rfl,z5 H⟩,ih⟩
       ·rename_i sub' u';refine⟨z,_,fun _=>0,fun _=>0,rfl,fun _=>rfl,?_,ih⟩;show OD w H (k+1) (.ow sub') (.li []) _ z
        rw[dD];exact .inl ⟨rfl,z6 _ rfl,fun _=>rfl⟩
       ·cases hr
     have hlen1:((dP e.sh el).getD [.fr]).length=1:=by
      have hr:=hc.2
      generalize(dP e.sh el).getD [.fr]=sub at hr;unfold OX at hr;split at hr
      ·rfl
      ·rfl
      ·cases hr
     obtain⟨γ',F',hX2,hγ⟩:=xL h3 (n:=.gh d) rfl (bG hX (.gh d)) (cs:=madeCells #[z] i.toNat) (ty':=el) (len:=i.toNat) (cap:=i.toNat) (sub:=(dP e.sh el).getD [.fr]) (l:=List.replicate i.toNat [(aj u (dflt u)).toD]) (by simp) (ac1 _) (by show i.toNat<=2 ^ 62;omega)
      (fun x hx=>by rw[(List.mem_replicate.1 hx).2,hlen1];rfl) (by rw[hlen1,size_madeCells];omega) hrow
     refine⟨_,_,_,γ',F',by rw[hsame hs,hi];exact hrun,h,?_⟩;have em:(List.replicate i.toNat (dflt u)).map (al u)=List.replicate i.toNat [(aj u (dflt u)).toD]:=by
      rw[List.map_replicate]
      congr 1
      rw[<- bm,jv z7];rfl
     have e2:((s.fresh (.gh d)).root (.gh d) ⟨false,[.ow ((dP e.sh el).getD [.fr]) u (List.replicate i.toNat (dflt u))],none⟩).toS=(s.toS.fresh (.gh d)).root (.gh d) ⟨false,[.ow ((dP e.sh el).getD [.fr]) (List.replicate i.toNat [(aj u (dflt u)).toD])]⟩:=by
      rw[<- em,<- br hn];rfl
     rw[<- e2]at hX2;refine aV (aD _ (some d) (.one (.c (.rf ⟨.gh d,0,[]⟩)))) (RX.put hX2 hd (fJ (sub:=(dP e.sh el).getD [.fr]) (l:=List.replicate i.toNat [(aj u (dflt u)).toD]) ?_ hγ));rw[e2];simp[S.root,aa]
    ·exact h.elim
   ·exact h.elim
  ·exact h.elim
 ·exact h.elim
end
end Go.Am
end

section
namespace Go.Am
section
variable {P:Program} {g:G} {s:S} {a:Act} {w:World} {H:FH} {γ:Gam} {F:Nm->Fp}
theorem KN(h:RX g s a w H γ F){n:Nm}(hno:n.isOut=false)(hn:aa s.m n=none){cs:Array Value}{ty':TypeId}{sub:List Sh}{row:List D}{k:Nat}{f:Fp}(hx:row.length=sub.length)(hsz:cs.size=sub.length)
  (hcs:Cs (OD w H k) sub row f cs.toList) (hd:∀b,tot F s.m b+f b<=1) (hl:∀b,f b≠0->b<w.heap.size/\(∀o,H b o=none)/\(g.own0 b≠0\/g.w0.heap.size<=b)) :
  ∃γ' F',RX g (s.root n ⟨false,[.ow sub [row]]⟩) a (w.alloc (.cells cs ty')) H γ' F'/\γ' n=.gh (.slice (some ⟨w.heap.size,0,none⟩) 1 1):=by
 obtain⟨hm,hf,hK,hH⟩:=pi h.mem cs ty' false;simp only[ac4,false_and,if_false]at hm hf hK hH;have hX:RX g s a (w.alloc (.cells cs ty')) H γ F:=eN h hm hf (fun i=>bT hK (fun _ _ _ h=>h) (h.t i)) (fun _=>rfl)
 have hz:tot F s.m w.heap.size=0:=by
  rcases adM (tot F s.m w.heap.size)with h'|h'
  ·exact h'
  ·have:=h.mem.lt w.heap.size kQ1;omega
 have hfz:f w.heap.size=0:=by
  rcases adM (f w.heap.size)with h'|h'
  ·exact h'
  ·have:=(hl w.heap.size kQ1).1;omega
 have hHz:∀o,H w.heap.size o=none:=by
  intro o;cases hc:H w.heap.size o with
  |none=>rfl
  |some y=>have:=(h.mem.agree _ _ _ hc).lt;simp at this
 have hcs':Cs (OD (w.alloc (.cells cs ty')) H k) sub row f cs.toList:=
  kD _ _ _ _ (fun s x g v hg hod=>bM (fun _ _ _ h=>h) k k _ _ _ _ (ac1 _) (fun b hb=>bR (hl b (by have:=hg b;omega)).1) hod) hcs
 have hod:TR (w.alloc (.cells cs ty')) H γ s.m (.ow sub [row]) (fun b=>f b+if b=w.heap.size then 1 else 0) (.slice (some ⟨w.heap.size,0,none⟩) 1 1):=by
  refine⟨k+1,xJ (l:=[row]) (c:=1) (bq) rfl (by rw[hsz];simp) (ac1 _) (by show 1<=4611686018427387904;omega) (fun x hx'=>by obtain rfl:=ac9.1 hx';exact hx) ?_⟩;simpa using hcs'
 have hsize:(w.alloc (.cells cs ty')).heap.size=w.heap.size+1:=by show(w.heap.push _).size=_;simp
 refine cR hX hno hn hod (fun b=>?_) (fun b hb=>?_) (fun b hb=>?_)
 ·by_cases hb:b=w.heap.size
  ·subst hb;rw[hz,hfz];simp
  ·rw[if_neg hb];have:=hd b;omega
 ·by_cases hb':b=w.heap.size
  ·subst hb';exact⟨by omega,hHz⟩
  ·rw[if_neg hb']at hb;have:=hl b kQ1
   exact⟨by omega,this.2.1⟩
 ·by_cases hb':b=w.heap.size
  ·subst hb';right;exact h.fr.size
  ·rw[if_neg hb']at hb;exact(hl b kQ1).2.2
end
theorem Cv:∀{ts:List Tt}{i j:Nat}{q:Pl},zI ts i=some (j,q)->i<=j/\ts[j-i]? = some (.rf q)
 |[],_,_,_,h=>by cases h
 |t::r,i,j,q,h=>by
  have next:zI r (i+1)=some (j,q)->i<=j/\(t::r)[j-i]? = some (.rf q):=fun h=>by
   obtain⟨h1,h2⟩:=Cv h;refine⟨by omega,?_⟩;rw[show j-i=(j - (i+1))+1 from by omega,ad9];exact h2
  cases t with
  |rf q'=>
   simp only[zI,acV,Prod.mk.injEq]at h;obtain⟨rfl,rfl⟩:=h;exact⟨ac1 _,by simp⟩
  |_=>exact next h
theorem GY{n:Nat}{us z:Array Value}(hu:us.size=n)(hz:z.size=1*n):Instr.fill (fun i=>some (i*n,n)) z [(0,.agg us)]=some us:=by
 have hc:(Value.agg us).cells=us:=rfl
 simp only[Instr.fill,hc];rw[if_neg (by simp[hu,hz])]
 congr 1
 have key:∀(k:Nat)(l:List Value)(z:Array Value),k+l.length<=z.size->((l.zipIdx k).foldl (fun cs(x:Value×Nat)=>cs.setIfInBounds (0*n+x.2) x.1) z).toList=z.toList.take k++l++z.toList.drop (k+l.length):=by
  intro k l;induction l generalizing k with
  |nil=>intro z _;simp
  |cons x l ih=>
   intro z hk;simp only[ac0]at hk;simp only[List.zipIdx_cons,List.foldl_cons];rw[ih (k+1) _ (by simp;omega)];simp only[Nat.zero_mul,aeA,Array.toList_setIfInBounds];rw[List.take_set,List.drop_set_of_lt kQ1];have h1:(z.toList.take (k+1)).set k x=z.toList.take k++[x]:=by
    rw[List.take_add_one,List.set_append_right _ _ (by simp;omega)];have:z.toList[k]? = some (z.toList[k]'(by simp;omega)):=acW _
    have hmin:k-min k z.size=0:=by omega
    rw[this];simp[hmin]
   rw[h1];simp only[ac0,aeC,aeR,ad5,ae7];rw[show k+1+l.length=k+(l.length+1)from by omega]
 apply Array.ext'
 have e:us.zipIdx.foldl (fun cs(x:Value×Nat)=>cs.setIfInBounds (0*n+x.2) x.1) z=(us.toList.zipIdx 0).foldl (fun cs(x:Value×Nat)=>cs.setIfInBounds (0*n+x.2) x.1) z:=by
  rw[<- Array.foldl_toList,Array.toList_zipIdx]
 rw[e,key 0 us.toList z (by simp;omega)];simp;omega
section
variable {P:Program} {g:G} {s:St} {a:Act} {w:World} {H:FH} {γ:Gam} {F:Nm->Fp} {k:St->Prop}
theorem wl{E:Ut}{sub:List Sh}{t:TypeId}{len:Nat}{ps:Array (Nat×Operand)}{d:Tmp}(hX:RX g s.toS a w H γ F)(hd:okD g.nt (some d)=true)(hps:(ps.toList.all fun x=>aw x.2)=true)(h:cD P E sub s t len ps d k) :
  ∃t' y w' γ' F',(Instr.buildSlice t len (ps.map fun(i,x)=>(i,a.eval x))).run P w=.ok y w'/\k t'/\RX g t'.toS (a.put (some d) y) w' H γ' F':=by
 unfold cD at h;split at h
 ·rename_i e ht;split at h
  ·rename_i u z ts he hz hp;split at h
   ·rename_i j q hj;split at h
    ·rename_i sub' sh2 u' l2 hsj hsl;split at h
     ·rename_i s1 sub3 l' hb;split at h
      ·rename_i l hc hl;simp only[acX]at hc;obtain⟨⟨⟨⟨⟨⟨c1,c2⟩,c3⟩,c4⟩,c5⟩,c6⟩,c7,c8,c9⟩:=hc;have hsz:=ac7 c2
       obtain rfl:=ac7 c4;have hsl5:=ac7 c5
       have htl:=ac7 c6
       obtain rfl:=jB c7;obtain⟨pl⟩:=ps;have hp1:pl.map (fun x=>(x.1,evA s x.2))=[(0,.one (.agg ts))]:=hp
       match pl,hp1,hps with
       |[],hp1,_=>cases hp1
       |_::_::_,hp1,_=>simp at hp1
       |[(i,x)],hp1,hps=>
       simp only[List.map_cons,List.map_nil,List.cons.injEq,Prod.mk.injEq,and_true]at hp1;obtain⟨rfl,hx⟩:=hp1;have hop:aw x=true:=by simpa using hps
       have hv:=aA hX hop
       rw[ae hop,hx]at hv;obtain⟨cs,hcs1,hcs2,hcs3⟩:=hv;have hcs2:cs.size=ts.length:=by simpa using hcs2
       obtain⟨_,hjj⟩:=Cv hj;rw[afS]at hjj;have hjl:j<ts.length:=(adV.1 hjj).1
       have hjT:(ts.map Tt.toT)[j]? = some (.rf q):=by rw[acZ,hjj];rfl
       obtain⟨_,v,gv,_,hv1,hv2,hv3⟩:=qE hcs3 hjT;have hvr:AR w H γ s.toS.m (.one (.c (.rf q))) v:=⟨fun _=>rfl,hv2.2⟩
       have hnd:=d9 hX
       obtain⟨b1,b2,_⟩:=l4 (size:=nc u') rfl hnd (fun q' hq'=>by
        cases hq';exact oK hv2.2.1) hb
       obtain⟨kb,f,F1,k1,k2,k3,k4,k5⟩:=l5 hX hvr b1;have hfz:=th c9
       obtain⟨_,_,_,fk,fr,_,_,_,a4,_,a6,_⟩:=bU _ _ _ _ j hcs3 (by simpa using hjl);have hT2:Ts (TR w H γ s.toS.m) ((ts.set j .nil).map Tt.toT) (fun _=>0) (cs.toList.set j (.slice none 0 0)):=by
        have:=a6 (fun _=>TR w H γ s.toS.m) .nil (.slice none 0 0) (fun _=>0) (fun _ _ _ _ _ h=>h) ⟨fun _=>rfl,rfl⟩
        unfold Ts;rw[acY,List.length_set];rw[acY]at this;rw[ad0];exact lN (fun b=>by have:=a4 b;omega) this
       have hC:=CO (k:=kb) (fun _=>rfl) hfz hT2
       obtain⟨sj,_,_,fk2,fr2,d1,_,_,d4,_,d6,_⟩:=bU _ _ _ _ j hC (by simpa using hjl);rw[hsj]at d1;obtain rfl:=Option.some.inj d1;have hC2:=d6 (OD w H (kb+1)) (.li (l'.map (al u'))) v f (fun _ _ _ _ _ h=>h) (bM (fun _ _ _ h=>h) kb (kb+1) _ _ _ _ (ad3 _) (fun _ _=>rfl) k1)
       rw[aeW,show cs.toList.set j v=cs.toList from mA hv1]at hC2;have hrow:=m8 hl
       simp only[List.map_cons,List.map_nil]at hrow
       match l,hl,hrow,h with
       |[],_,hrow,_=>cases hrow
       |_::_::_,_,hrow,_=>simp at hrow
       |[y],hl,hrow,h=>
       simp only[List.map_cons,List.map_nil,List.cons.injEq,and_true]at hrow;have e1:((ts.set j .nil).map fun t=>t.toT.fz).set j (.li (l'.map (al u')))=al u y:=by
        rw[<- hrow,ad0,aeW,ad0];rfl
       rw[e1]at hC2;have hn2:=bV k2 (.gh d)
       have hts:∀b,tot F1 (s1.toS.fresh (.gh d)).m b<=tot F1 s1.toS.m b:=by
        intro b;unfold S.fresh;split
        ·exact ac1 _
        ·show tot F1 (ax _ _) b<=_
         rw[aT];exact eK
       obtain⟨_,td,_,hud,htd,_⟩:=aR ht (by simp);obtain rfl:=nG htd;obtain⟨ie,de,hie,_,_,hsize,_,_⟩:=eL c1;obtain⟨it',z0,hi',hz0,_,_⟩:=jC hz;rw[hie]at hi';obtain rfl:ie=it':=by simpa using hi'
       have hnc:ie.size=nc u:=by rw[<- hsize,<- hsz]
       obtain⟨us,cs',r1,r2,r3⟩:=iP (P:=P) (w:=w) (t:=t) (len:=1) (vs:=#[(0,a.eval x)]) (cells:=#[]) hud hie hz0 (by rw[hnc];have:=ac5 c3;omega) (fun us hus=>by
        refine⟨cs,?_,by rw[hcs2,htl,hnc];omega,.inr trivial⟩;rw[hcs1];exact GY (by rw[hcs2,htl,hnc]) hus)
       have hfill:Instr.fill (fun i=>some (i*ie.size,ie.size)) us #[(0,a.eval x)].toList=some cs:=by
        rw[hcs1];exact GY (by rw[hcs2,htl,hnc]) r1
       rw[hfill]at r2;obtain rfl:=Option.some.inj r2;obtain⟨γ',F',hX4,hγ⟩:=KN (ty':=e) hn2 (n:=.gh d) rfl (bG k2 (.gh d)) (by rw[il,hsl5]) (by rw[hcs2,htl,hsl5]) (lN (f:=fun b=>f b+fr2 b) (g:=f) (fun b=>by have:=d4 b;omega) hC2)
        (fun b=>by have h1:=hts b;have h2:=k4 b;have h3:=hX.mem.le1 b;omega) k5
       have e2:((s1.fresh (.gh d)).root (.gh d) ⟨false,[.ow sub u [y]],none⟩).toS=(s1.toS.fresh (.gh d)).root (.gh d) ⟨false,[.ow sub [al u y]]⟩:=by
        rw[<- br b2];rfl
       rw[<- e2]at hX4;refine⟨_,_,_,γ',F',by rw[show(Array.map (fun(x:Nat×Operand)=>(x.1,a.eval x.2)) ⟨[(0,x)]⟩)=#[(0,a.eval x)]from by simp];exact r3,h,?_⟩;refine aV (aD _ (some d) (.one (.c (.rf ⟨.gh d,0,[]⟩)))) (RX.put hX4 hd (fJ (sub:=sub) (l:=[al u y]) ?_ hγ));rw[e2];simp[S.root,aa]
      ·exact h.elim
     ·exact h.elim
    ·exact h.elim
   ·exact h.elim
  ·exact h.elim
 ·exact h.elim
theorem Br{α β:Type}{R:α->β->Fp->Value->Prop}:∀(a:List α)(c:List β){b:List α}{d:List β}{f:Fp}{vs:List Value},a.length=c.length->Cs R (a++b) (c++d) f vs->∃f':Fp,Cs R a c f' vs/\∀x,f' x<=f x
 |[],[],_,_,_,_,_,_=>⟨fun _=>0,fun _=>rfl,fun _=>ad1 _⟩
 |x::a,y::c,b,d,f,vs,hl,h=>by
  obtain⟨v,r,f1,f2,h1,h2,h3,h4⟩:=h;obtain⟨f',k1,k2⟩:=Br a c (by simpa using hl) h4;exact⟨fun q=>f1 q+f' q,⟨v,r,f1,f',h1,fun _=>rfl,h3,k1⟩,fun q=>by have:=h2 q;have:=k2 q;dsimp only;omega⟩
 |[],_::_,_,_,_,_,hl,_=>by simp at hl
 |_::_,[],_,_,_,_,hl,_=>by simp at hl
theorem V4{k:Nat}{sub:List Sh}{l:List (List D)}{f:Fp}{v:Value}{m:Nat}(hm:m<=l.length)(h:OD w H k (.ow sub) (.li l) f v) :
  ∃ad c,v=.slice ad l.length c/\l.length<=c/\(∀b,ad=some b->b=⟨b.block,0,none⟩)/\∃f':Fp,OD w H k (.ow sub) (.li (l.take m)) f' (.slice ad m c)/\∀x,f' x<=f x:=by
 cases k with
 |zero=>simp[OD]at h
 |succ k=>
 rw[dD]at h;rcases h with⟨rfl,rfl,h0⟩|⟨b,c,cs,ty,fr,g',h1,h2,h3,h4,h5,h6,h7,h8,h9⟩
 ·obtain rfl:m=0:=by simpa using hm
  exact⟨none,0,rfl,ac1 _,(fun b hb=>by cases hb),f,dD.2 (.inl ⟨rfl,rfl,h0⟩),fun _=>ac1 _⟩
 ·subst h1;have e1:(List.replicate l.length sub).flatten=(List.replicate m sub).flatten++(List.replicate (l.length-m) sub).flatten:=by
   rw[<- List.flatten_append,List.replicate_append_replicate,Nat.add_sub_cancel' hm]
  have e2:l.flatten=(l.take m).flatten++(l.drop m).flatten:=by rw[<- List.flatten_append,ae1]
  have hlen:(l.take m).length=m:=by rw[ad8];omega
  have h7':∀x∈l.take m,x.length=sub.length:=fun x hx=>h7 x (List.mem_of_mem_take hx)
  rw[e1,e2]at h8;obtain⟨f',k1,k2⟩:=Br _ _ (by rw[bO _ _ h7',hlen];simp) h8;refine⟨_,c,rfl,h5,fun b' hb=>by cases hb;rfl,fun x=>f' x+if x=b then 1 else 0,dD.2 (.inr ⟨b,c,cs,ty,fr,f',by rw[hlen],h2,h3,h4,by omega,by omega,h7',by rw[hlen];exact k1,fun _=>rfl⟩),fun x=>by have:=h9 x;have:=k2 x;dsimp only;omega⟩
theorem Jh{e:En}{t:TypeId}{x hi:Operand}{d:Tmp}(hX:RX g s.toS a w H γ F)(hd:okD g.nt (some d)=true)(hx:aw x=true)(hhi:aw hi=true)(h:mr e s t x hi d k) :
  ∃t' y γ' F',(∀w:World,(Instr.sliceAt t (a.eval x) none (some (a.eval hi)) none).run e.P w=.ok y w)/\k t'/\RX g t'.toS (a.put (some d) y) w H γ' F':=by
 unfold mr at h;split at h
 ·rename_i el ht;split at h
  ·rename_i q n hxe hne;split at h
   ·rename_i u0 l0 _;split at h
    ·rename_i s1 sub l hok hb;obtain⟨⟨n0,n1⟩,h⟩:=h;have hy:=aA hX hx
     have hn:=aA hX hhi
     rw[ae hx,hxe]at hy;rw[ae hhi,hne]at hn;obtain⟨b1,b2,_⟩:=l4 (size:=nc u0) rfl (d9 hX) (fun q' hq'=>by
      cases hq';exact oK hy.2.1) hb
     obtain⟨kb,f,F1,k1,k2,k3,k4,k5⟩:=l5 hX hy b1;obtain⟨ad,c,hv,hc,had,f',q1,q2⟩:=V4 (m:=n.toNat) (by rw[acY];exact n1) k1;rw[acY]at hv hc;obtain⟨_,td,_,hud,htd,_⟩:=aR ht (by simp);obtain rfl:=nG htd;obtain⟨i,de,hi',_⟩:=eL hok;obtain⟨a',b',⟨rfl,rfl,_⟩,hbr⟩:=jS (P:=e.P) (isS:=true) (len:=l.length) (cap:=c) (vlo:=none) (lo:=none) (k:=fun a b=>a=0/\b=n.toNat/\b<=l.length) trivial (show Pg w H γ s.toS.m (some (At.one (.c (.d (.i .i64 n)))).toV) (some (a.eval hi))from hn) hc (show fP none 0 _ from⟨n0,rfl,rfl,n1⟩) (fun a b h=>by omega);have hrun:∀w:World,(Instr.sliceAt t (a.eval x) none (some (a.eval hi)) none).run e.P w=.ok (.slice ad n.toNat c) w:=by
      intro w;rw[hv];simp only[Instr.sliceAt,Sem.run_bind,run_underlying hud,Result.andThen_ok];simp only[Instr.slice,Sem.run_bind,run_underlying hud,Result.andThen_ok,hbr,bK hi',Sem.run_pure]
      congr 2
      cases ad with
      |none=>simp
      |some ad=>
       rw[had ad rfl];simp[cT]
     have hn2:=bV k2 (.gh d)
     have hts:∀b,tot F1 (s1.toS.fresh (.gh d)).m b<=tot F1 s1.toS.m b:=by
      intro b;unfold S.fresh;split
      ·exact ac1 _
      ·show tot F1 (ax _ _) b<=_
       rw[aT];exact eK
     obtain⟨γ',F',hX4,hγ⟩:=cR hn2 (n:=.gh d) rfl (bG k2 (.gh d)) (v:=.slice ad n.toNat c) (t:=.ow sub ((l.take n.toNat).map (al u0))) (f:=f') ⟨kb,by rw[ae8];exact q1⟩
      (fun b=>by have h1:=hts b;have h2:=k4 b;have h3:=hX.mem.le1 b;have:=q2 b;omega) (fun b hb=>by have:=q2 b;exact⟨(k5 b kQ1).1,(k5 b kQ1).2.1⟩) (fun b hb=>(k5 b (by have:=q2 b;omega)).2.2)
     have e2:((s1.fresh (.gh d)).root (.gh d) ⟨false,[.ow sub u0 (l.take n.toNat)],none⟩).toS=⟨(s1.toS.fresh (.gh d)).t,(.gh d,⟨false,[.ow sub ((l.take n.toNat).map (al u0))]⟩)::(s1.toS.fresh (.gh d)).m⟩:=by
      rw[<- br b2];rfl
     rw[<- e2]at hX4;refine⟨_,_,γ',F',hrun,h,?_⟩;refine aV (aD _ (some d) (.one (.c (.rf ⟨.gh d,0,[]⟩)))) (RX.put hX4 hd (fJ (sub:=sub) (l:=(l.take n.toNat).map (al u0)) ?_ hγ));rw[e2];simp[aa]
    ·exact h.elim
   ·exact h.elim
  ·exact h.elim
 ·exact h.elim
end
end Go.Am
end
