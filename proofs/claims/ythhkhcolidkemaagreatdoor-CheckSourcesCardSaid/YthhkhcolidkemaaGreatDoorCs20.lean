/-
  Part 20: AmL43 · AmL44 · AmG24 · AmPkL · AmPkRa · AmPkRb · AmPkRc.
-/
import Derived.Test.YthhkhcolidkemaaGreatDoorCs19
set_option linter.unusedSimpArgs false
set_option linter.unusedVariables false
set_option linter.unusedSectionVars false
set_option linter.unnecessarySimpa false
open Lt
open Go.IntKind (i64)
section
namespace Go.Am
open Go
open Lt (nmB toB Gd Rc uniq bkB phB cR Bare dK)
variable{body:(Int->Prop)->Int->Prop}
theorem CV{α:Type}[Inhabited α](l:List α)(p:α->Bool)(KK:Bool->Prop)
  (hs:∀R i x,i<l.length->l.getD i default=x->x∈l->(p x=true->KK true)->(l.length<=4611686018427387904->p x=false->R (i64.wrap ((i:Int)+1)))->body R (i:Int))
  (a:∀R,KK false->body R (l.length:Int)) (h:KK (l.any p)):ab body 0:=
 bO l (fun r=>KK (r.any p)) (fun R i x r h1 h2 h3 h4 h5=>hs R i x h1 h2 h3 (fun hp=>by grind) (fun hl hp=>h4 hl (by grind))) (fun R h=>a R (by grind)) h
theorem EU(f:Lt.Func)(v:a8)(KK:Bool->Prop)(h:KK (qb f v)):yH f v KK:=by
 unfold yH;have e:qb f v=f.Params.any fun x=>decide (x.Name=v):=by
  grind [qb]
 rw[e]at h;refine CV f.Params _ KK (fun R i x hi hx hm h1 h2 hl=>?_) (fun R h hl=>?_) h
 all_goals grind
theorem M2(b:Lt.Block)(v:a8)(KK:Bool->Prop)(h:KK (wu b v)):Gs b v KK:=by
 unfold Gs;have e:wu b v=b.Phis.any fun x=>decide (x.Dst=v):=by
  grind [wu]
 rw[e]at h;refine CV b.Phis _ KK (fun R i x hi hx hm h1 h2 hl=>?_) (fun R h hl=>?_) h
 all_goals grind
theorem JE(b:Lt.Block)(n:Int)(v:a8)(hp:yh b n v)(KK:Bool->Prop)(h:KK (rm b n v)):Cz b n v KK:=by
 unfold Cz;unfold rm at h;obtain⟨h0,h1,h2⟩:=hp;obtain⟨n,rfl⟩:=aj8 h0;rw[Int.toNat_natCast]at h;have hs:∀i,i<b.Code.length->∀v,v∈dK b (i+1) ↔ v∈dK b i\/(v≠[]/\(b.Code.getD i default).Dst=v):=fun i hi v=>by
  grind [dK,ba]
 have hm:∀i,i<n->v∈dK b (i+1)->v∈dK b n:=fun i hi hv=>by
  unfold dK at hv⊢;have:b.Code.take (i+1)=(b.Code.take n).take (i+1):=by grind
  grind
 refine au _ n (fun i x=>x=(i:Int)/\v ∉ dK b i) (fun R i x hi⟨e,hn⟩ih=>?_) (fun R x⟨e,hn⟩=>?_) 0 ⟨rfl,by simp[dK]⟩
 ·subst e;rw[if_pos (aP hi)];refine fun J a=>?_
  grind [Int.toNat_natCast,ae]
 grind
def CLv(f:Lt.Func)(v:a8)(o:List Bool)(i:Nat):Prop:=v ∉ cR (bkB f i)->∀k,k<f.Blocks.length->nmB f.Blocks k∈toB f.Blocks i->v ∉ phB f k->o.getD k false=true
structure BI (f:Lt.Func) (v:a8) (l o:List Bool):Prop where
 len:o.length=f.Blocks.length
 sd:∀k,o.getD k false=true->Bare f v k/\v ∉ phB f k
 mono:∀k,l.getD k false=true->o.getD k false=true
 less:o=l\/iL o<iL l
 cl:(∀i,i<f.Blocks.length->l.getD i false=true->CLv f v l i)->o=l
variable{o:List Bool}
theorem TU{k:Nat}(h:o.getD k false=true):o.set k true=o:=by
 refine aj9 fun j=>?_
 grind
theorem BI.set{f:Lt.Func}{v:a8}{l:List Bool}(h:BI f v l o){i k:Nat}(hi:i<f.Blocks.length)(ho:o.getD i false=true)(hs:v ∉ cR (bkB f i))(hk:k<f.Blocks.length)(he:nmB f.Blocks k∈toB f.Blocks i)(hp:v ∉ phB f k):BI f v l (o.set k true):=by
 have hl:k<o.length:=by grind [len]
 by_cases hc:o.getD k false=true
 ·grind [TU]
 have hb:=h.sd i ho
 have hct:=kN o k (by grind)
 refine⟨by grind [len],fun j hj=>?_,fun j hj=>?_,?_,fun hcl=>?_⟩
 ·rw[dP hl]at hj;by_cases e:j=k
  ·subst e;exact⟨.next i j hb.1 hb.2 hs hi hk he,hp⟩
  grind [sd]
 ·grind [dP,mono]
 ·rcases h.less with rfl|hlt
  all_goals omega
 have e:=h.cl hcl
 subst e;exact absurd (hcl i hi ho hs k hk he hp) hc
theorem JD(f:Lt.Func)(v:a8)(hp:Fw f v)(KK:List Bool->Prop)(h:∀y,KA f v y->KK y):Cy f v KK:=by
 unfold Cy;obtain⟨hn,F,hu,d⟩:=hp;unfold wu rm qb;dsimp only;have hz:((f.Blocks.length:Int)).toNat=f.Blocks.length:=Int.toNat_natCast _
 rw[hz];intro _;have hr:(List.replicate f.Blocks.length (dflt .bo):List Bool).length=f.Blocks.length:=akU
 refine⟨⟨by omega,by omega,by omega⟩,fun J hJ=>?_⟩;have l:∀k,(List.replicate f.Blocks.length (dflt .bo):List Bool).getD k false=true->False:=fun k hk=>by
  rw[List.getD,List.getElem?_replicate]at hk;split at hk
  ·exact absurd hk (by show ¬ (default:Bool)=true;decide)
  grind
 have j:J ((List.replicate f.Blocks.length (dflt .bo):List Bool).set 0 (!decide (v∈f.Params.map (·.Name))&&!decide (v∈phB f 0))):=hJ _ (by
  dsimp only;generalize g:(!decide (v∈f.Params.map (·.Name))&&!decide (v∈phB f 0))=b0;have I:((List.replicate f.Blocks.length (dflt .bo):List Bool).set 0 b0).length=f.Blocks.length:=by grind
  have A:∀k,((List.replicate f.Blocks.length (dflt .bo):List Bool).set 0 b0).getD k false=true->Bare f v k/\v ∉ phB f k:=fun k hk=>by
   by_cases e:k=0
   ·subst e;rw[rz kQ1]at hk;subst hk;have g:v ∉ f.Params.map (·.Name)/\v ∉ phB f 0:=by grind
    exact⟨.first g.1,g.2⟩
   rw[List.getD,ak7 (fun e'=>e e'.symm)]at hk;exact(l k hk).elim
  have B:(∀i,i<f.Blocks.length->((List.replicate f.Blocks.length (dflt .bo):List Bool).set 0 b0).getD i false=true->CLv f v ((List.replicate f.Blocks.length (dflt .bo):List Bool).set 0 b0) i)\/iL ((List.replicate f.Blocks.length (dflt .bo):List Bool).set 0 b0)+0+1<=f.Blocks.length:=by
   cases b0 with
   |false=>
    refine .inl fun i hi hl=>?_
    by_cases e:i=0
    ·grind
    rw[List.getD,ak7 (fun e'=>e e'.symm)]at hl;exact(l i hl).elim
   |true=>
    have h1:=kN (List.replicate f.Blocks.length (dflt .bo):List Bool) 0 (by
     rw[List.getD,List.getElem?_replicate,if_pos F];rfl)
    grind [iL]
  refine au _ f.Blocks.length (fun t x=>x.2=(t:Int)/\x.1.length=f.Blocks.length/\(∀k,x.1.getD k false=true->Bare f v k/\v ∉ phB f k)/\(b0=true->x.1.getD 0 false=true)/\((∀i,i<f.Blocks.length->x.1.getD i false=true->CLv f v x.1 i)\/iL x.1+t+1<=f.Blocks.length)) (fun R3 t x ht⟨e,h1,h2,h3,h4⟩P=>?_) (fun R3 x⟨e,h1,h2,h3,h4⟩=>?_) _ ⟨rfl,I,A,fun e=>by grind,B⟩
  ·obtain⟨a,p⟩:=x;dsimp only at e h1 h2 h3 h4⊢;subst e;intro _;rw[if_pos (aP ht)];have u:BI f v a a:=⟨h1,h2,fun _ h=>h,.inl rfl,fun _=>rfl⟩
   refine au _ f.Blocks.length (fun i x=>x.2=(i:Int)/\BI f v a x.1/\∀j,j<i->a.getD j false=true->CLv f v x.1 j) (fun V i x hi⟨e,g1,g2⟩N=>?_) (fun V x⟨e,g1,g2⟩=>?_) _ ⟨rfl,u,fun j hj=>by omega⟩
   ·obtain⟨b,p⟩:=x;dsimp only at e g1 g2⊢;subst e;intro _;rw[if_pos (aP hi)];rw[Int.toNat_natCast];have Y:i<b.length:=by grind [BI.len]
    have D:∀o,BI f v a o->(∀k,b.getD k false=true->o.getD k false=true)->(a.getD i false=true->CLv f v o i)->V (o,i64.wrap ((i:Int)+1)):=fun o U hm hc=>N _ ⟨ae kQ1,U,fun j hj hl=>by
     rcases akM j i with h'|h'
     ·exact fun hs k hk C hp=>hm k (g2 j h' hl hs k hk C hp)
     grind⟩
    intro J7 r;have w:b.getD i default=b.getD i false:=rfl
    rw[w];have H:dK (bkB f i) (bkB f i).Code.length=cR (bkB f i):=by grind [dK,cR]
    have S:yh (bkB f i) ((bkB f i).Code.length:Int) v:=⟨by omega,by omega,d _ (aC _ hi)⟩
    refine fun Z Q=>⟨⟨by omega,by omega⟩,?_⟩
    have W:Z (!b.getD i false||decide (v∈cR (bkB f i))):=Q _ (by
     dsimp only;refine ifk (fun hc=>r _ (D _ g1 (fun _ h=>h) fun hl hs=>?_)) (fun hc=>?_)
     ·grind [BI.mono]
     have hc:b.getD i false=true/\v ∉ cR (bkB f i):=by grind
     refine au _ f.Blocks.length (fun k x=>x.2=(k:Int)/\BI f v a x.1/\(∀j,b.getD j false=true->x.1.getD j false=true)/\∀j,j<k->nmB f.Blocks j∈toB f.Blocks i->v ∉ phB f j->x.1.getD j false=true) (fun n k x hk⟨e,E,q2,G⟩m=>?_) (fun n x⟨e,E,q2,G⟩=>?_) _ ⟨rfl,g1,fun _ h=>h,fun j hj=>by omega⟩
     ·obtain⟨o,p⟩:=x;dsimp only at e E q2 G⊢;subst e;intro _;rw[if_pos (aP hk)];rw[Int.toNat_natCast];have q:k<o.length:=by grind [BI.len]
      have M:=qU hu (i:Int) (k:Int)
      rw[Int.toNat_natCast,Int.toNat_natCast]at M;have on:∀o',BI f v a o'->(∀j,o.getD j false=true->o'.getD j false=true)->(nmB f.Blocks k∈toB f.Blocks i->v ∉ phB f k->o'.getD k false=true)->n (o',i64.wrap ((k:Int)+1)):=fun o' U hm hc=>m _ ⟨ae kQ1,U,fun j hj=>hm j (q2 j hj),fun j hj C hp=>by
       grind⟩
      intro ab c R s;refine⟨⟨by omega,by omega⟩,?_⟩;have aa:R (pV f (i:Int) (k:Int)&&!decide (v∈phB f k)):=s _ (by
       dsimp only;refine ifk (fun T=>⟨⟨by omega,by omega⟩,q,c _ (on _ ?_ (fun j hj=>?_) fun _ _=>rz q _ _)⟩) (fun T=>c _ (on _ E (fun _ h=>h) fun C hp=>?_))
       ·grind [BI.set]
       ·grind [dP]
       grind)
      grind
     obtain⟨o,p⟩:=x;dsimp only at e E q2 G⊢;subst e;intro _;rw[if_neg (by simp)];exact r _ (D _ E q2 fun _ _ k hk=>G k hk))
    have z:decide (v∈dK (bkB f i) (bkB f i).Code.length)=decide (v∈cR (bkB f i)):=by rw[H]
    refine ifk (fun hc=>?_) (fun hc=>⟨⟨by omega,hi⟩,⟨by omega,hi⟩,S,?_⟩)
    ·grind
    rw[show(!b.getD i false)=false from by grind,Bool.false_or,<- z]at W;exact W
   obtain⟨b,p⟩:=x;dsimp only at e g1 g2⊢;subst e;intro _;rw[if_neg (by simp)];refine P _ ⟨ae kQ1,g1.len,g1.sd,fun hb=>g1.mono 0 (h3 hb),?_⟩;dsimp only;rcases g1.less with e|ad
   all_goals grind [BI.cl]
  obtain⟨a,p⟩:=x;dsimp only at e h1 h2 h3 h4⊢;subst e;intro _;rw[if_neg (by simp)];have O:∀i,i<f.Blocks.length->a.getD i false=true->CLv f v a i:=h4.resolve_right kQ1
  refine h _ ⟨h1,fun k hk=>⟨h2 k,fun⟨hb,K⟩=>?_⟩⟩;clear hk;induction hb with
  |first af=>grind
  |next i k ac X L hi hk C ih=>exact O i hi (by grind) L k hk C K)
 grind
theorem ET(f:Lt.Func)(b n:Int)(v:a8)(hp:p8 f b n v)(KK:Bool->Prop)(h:KK (fZ f b n v)):yG f b n v KK:=by
 unfold yG;obtain⟨hp,h1,h2,h3,h4⟩:=hp;obtain⟨i,rfl⟩:=aj8 h1;have hi:i<f.Blocks.length:=by omega
 refine⟨hp,fun y⟨c,a⟩=>⟨ob kQ1,?_⟩⟩;rw[Int.toNat_natCast]at h4⊢;have hy:=a i hi
 unfold fZ at h;rw[Int.toNat_natCast]at h;refine ifk (fun hc=>?_) (fun hc=>⟨⟨by omega,hi⟩,⟨h3,h4,hp.2.2.2 _ (aC _ hi)⟩,?_⟩)
 all_goals grind [rm,dK,qQ]
theorem dk(n:Nat)(Q:Nat->Prop)(N:Prop)(hs:∀R (i:Nat),i<n->(¬ Q i->N)->(n<=4611686018427387904->Q i->R (i64.wrap ((i:Int)+1)))->body R (i:Int))
  (a:∀R,(∀i,i<n->Q i)->body R (n:Int)) (hN:∀i,i<n->¬ Q i->N):ab body 0:=by
 refine au _ n (fun i x=>x=(i:Int)/\∀j,j<i->Q j) (fun R i x hi⟨e,h⟩ih=>?_) (fun R x⟨e,h⟩=>?_) 0 ⟨rfl,fun j hj=>by omega⟩
 all_goals grind [ae]
def SE(f:Lt.Func)(i:Nat)(x:Lt.In):Prop:=∀k,k<f.Blocks.length->nmB f.Blocks k=x.Block->nmB f.Blocks i∈toB f.Blocks k->x.A.Kind=1->yZ f k x.A.S
theorem EV(f:Lt.Func)(hp:Qk f)(KK:Bool->Prop)(h:KK (gk f)):yI f KK:=by
 unfold yI;unfold gk at h;obtain⟨⟨L,hg,ai,u⟩,T⟩:=hp;have D:uniq f.Blocks:=hg.nd
 have pre:∀v,Fw f v:=fun v=>⟨L.1,hg.ps,D,fun b hb=>(u b hb).2⟩
 have K:¬ ((∀k,k<f.Blocks.length->mM (fun v=>¬ Bare f v k\/v∈phB f k) (bkB f k))/\sm f)->KK false:=fun hn=>by grind [sH]
 have E:∀k,k<f.Blocks.length->¬ mM (fun v=>¬ Bare f v k\/v∈phB f k) (bkB f k)->KK false:=fun k hk hn=>K fun a=>hn (a.1 k hk)
 have c:sm f ↔ ∀k,k<f.Blocks.length->∀x∈(bkB f k).Phis,∀i∈x.Ins,SE f k i:=by
  constructor
  ·exact fun a k hk x hx i hi j hj h1 h2 h3=>a _ (aC _ hk) x hx i hi j hj h1 h2 h3
  intro a b hb x hx i hi j hj h1 h2 h3;obtain⟨k,hk,e⟩:=ajU.1 hb;have e:bkB f k=b:=by grind
  subst e;exact a k hk x hx i hi j hj h1 h2 h3
 have Z:∀k,k<f.Blocks.length->∀x∈(bkB f k).Phis,∀i∈x.Ins,¬ SE f k i->KK false:=fun k hk x hx i hi hn=>K fun a=>hn (c.1 a.2 k hk x hx i hi)
 refine dk f.Blocks.length (fun k=>mM (fun v=>¬ Bare f v k\/v∈phB f k) (bkB f k)/\∀x∈(bkB f k).Phis,∀i∈x.Ins,SE f k i) (KK false) (fun R k hk hN ih=>?_) (fun R hA _=>?_) (fun k hk hn=>K fun a=>hn ⟨a.1 k hk,c.1 a.2 k hk⟩)
 rotate_left
 ·grind [pQ]
 dsimp only;intro hl;rw[if_pos (aP hk),Int.toNat_natCast];refine⟨by omega,?_⟩;have hb:=u _ (aC _ hk)
 have F:=T _ (aC _ hk)
 have ih:=ih hl
 have E:=E k hk
 have Z:=Z k hk
 have C:∀(n:Nat)v,fZ f (k:Int) (n:Int) v=true ↔ (¬ Bare f v k\/v∈phB f k)\/v∈dK (bkB f k) n:=fun n v=>by
  grind [fZ,qQ,Int.toNat_natCast]
 have ah:∀(n:Nat)v,n<=(bkB f k).Code.length->p8 f (k:Int) (n:Int) v:=fun n v hn=>⟨pre v,by omega,by omega,by omega,by grind⟩
 show ab _ _
 have aj:(bkB f k).Name=nmB f.Blocks k:=rfl
 have X:dK (bkB f k) (bkB f k).Code.length=cR (bkB f k):=by grind [dK,cR]
 refine dk (bkB f k).Code.length (fun j=>∀v,pm ((bkB f k).Code.getD j default) v->(¬ Bare f v k\/v∈phB f k)\/v∈dK (bkB f k) j) (KK false) (fun R3 j hj V Q=>?_) (fun R3 M=>?_) (fun j hj hn=>E fun a=>hn (a.1 j hj))
 ·intro O;rw[if_pos (aP hj)];refine⟨ob hj,F _ (aC _ hj),fun y hy=>?_⟩;rw[Int.toNat_natCast]at hy;refine dk y.length (fun q=>(¬ Bare f (y.getD q default) k\/(y.getD q default)∈phB f k)\/(y.getD q default)∈dK (bkB f k) j) (KK false) (fun R6 q hq ag af ad=>?_) (fun R6 ae _=>?_) (fun q hq hn=>V fun a=>hn (a _ ((hy _).1 (aC _ hq))))
  ·grind [Int.toNat_natCast]
  rw[if_neg (by simp)];refine Q O fun v hv=>?_
  obtain⟨q,hq,e⟩:=ajU.1 ((hy v).2 hv)
  grind
 intro _;rw[if_neg (by simp)];refine fun J hJ=>?_
 have p:=C (bkB f k).Code.length (bkB f k).End.A.S
 rw[X]at p;have j:J (decide (((bkB f k).End.Kind=2\/(bkB f k).End.Kind=3)/\(bkB f k).End.A.Kind=1)&&!fZ f (k:Int) ((bkB f k).Code.length:Int) (bkB f k).End.A.S):=hJ _ (by
  dsimp only;refine ifk (fun hc=>E fun a=>?_) (fun hc=>?_)
  ·have:=a.2
   grind
  have z:mM (fun v=>¬ Bare f v k\/v∈phB f k) (bkB f k):=⟨M,fun h1 h2=>p.1 (by grind)⟩
  refine dk (bkB f k).Phis.length (fun j=>∀i∈((bkB f k).Phis.getD j default).Ins,SE f k i) (KK false) (fun H j hj o w=>?_) (fun H B=>?_) (fun j hj hn=>by
   grind)
  ·intro ac;rw[if_pos (aP hj),Int.toNat_natCast];generalize hI:((bkB f k).Phis.getD j default).Ins=I at o w;refine dk I.length (fun q=>SE f k (I.getD q default)) (KK false) (fun U q hq m l=>?_) (fun U aa=>?_) (fun q hq hn=>o fun a=>hn (a _ (aC _ hq)))
   ·refine⟨⟨by omega,hj⟩,fun t=>?_⟩;rw[if_pos (aP hq),Int.toNat_natCast];refine⟨⟨by omega,hj⟩,⟨by omega,hq⟩,fun P g=>?_⟩;generalize I.getD q default=x at m l g⊢;have hn:SE f k x->P false:=fun a=>g _ (by
     grind)
    refine ifk (fun h1=>ifk (fun h2=>?_) (fun h2=>hn fun _ _ _ _ h3=>absurd (decide_eq_true h3) h2)) (fun h1=>hn fun k' d e _ _=>?_)
    rotate_left
    ·exact absurd ((dH x.Block f.Blocks 0).2 ⟨k',d,e⟩) h1
    obtain⟨k',d,Y,W⟩:=(dH x.Block f.Blocks 0).1 h1;have Y:(aI f x.Block).1=(k':Int):=by grind [aI]
    rw[Y];have r:=qU D (k':Int) (k:Int)
    rw[Int.toNat_natCast,Int.toNat_natCast]at r;refine⟨⟨by omega,by omega⟩,ifk (fun h3=>?_) (fun h3=>hn fun k2 s G h4 _=>absurd (r.2 ⟨by omega,hk,?_⟩) h3)⟩
    rotate_left
    ·rw[D k' k2 d s (W.trans G.symm)];exact h4
    rw[Int.toNat_natCast];have N:fZ f (k':Int) ((bkB f k').Code.length:Int) x.A.S=true ↔ yZ f k' x.A.S:=by
     grind [fZ,yZ,dK,cR,qQ,Int.toNat_natCast]
    refine⟨⟨by omega,d⟩,⟨pre _,by omega,by omega,by omega,by grind [Int.toNat_natCast]⟩,g _ ?_⟩;dsimp only;refine ifk (fun hc=>m fun a=>?_) (fun hc=>l t fun k2 s G h4 h5=>?_)
    ·have:=N.2 (a k' d W (r.1 h3).2.2 (of_decide_eq_true h2))
     grind
    rw[<- D k' k2 d s (W.trans G.symm)]
    grind
   grind [ajU]
  intro _;rw[if_neg (by simp)];refine ih ⟨z,fun x hx=>?_⟩;obtain⟨q,hq,e⟩:=ajU.1 hx;have:=B q hq
  grind)
 grind
end Go.Am
end

section
namespace Go.Am
open Go
theorem JF(f:Lt.Func)(hp:ka f)(KK:Int->Prop)(h:KK (ip f)):CA f KK:=by
 unfold CA;refine dl f.Blocks (fun n i=>(n,i)) (fun r n=>KK (Lt.rsz r n)) (fun R n i x r hi hx _ ih h=>?_) (fun R n h=>?_) 0 h
 ·intro hl;simp only[aP hi,Int.toNat_natCast,hx,hi,ajE,and_self,true_and,if_true];exact fun _=>ih hl _ h
 intro _;rw[if_neg (by simp)];exact h
theorem EW(f:Lt.Func)(hp:nA f)(KK:Bool->Prop)(h:KK (qc f)):yJ f KK:=by
 unfold yJ;dsimp only;unfold nA at hp;have hN:∀b∈f.Blocks,sV b=false->KK true:=fun b hb e=>by
  grind [qc,mG]
 refine dk f.Blocks.length (fun i=>sV (f.Blocks.getD i default)=true) (KK true) (fun R i hi _ ih=>?_) (fun R n=>?_) (fun i hi hn=>hN _ (aC _ hi) (by grind))
 ·intro hl;rw[if_pos (aP hi),Int.toNat_natCast];have d:(0:Int)<=(i:Int)/\i<f.Blocks.length:=by omega
  have a:=hN _ (aC _ hi)
  have c:=hp _ (aC _ hi)
  have ih:=ih hl
  generalize f.Blocks.getD i default=b at a c ih;unfold sV at a ih;refine⟨d,fun _=>ifk (fun hc=>a ?_) (fun hc=>?_)⟩
  ·grind
  have hc:b.Phis.length=0:=by
   grind
  rw[decide_eq_true hc,aj3]at a ih;refine dk b.Code.length (fun j=>AQ (b.Code.getD j default)=true) (KK true) (fun g j hj _ l=>?_) (fun g m=>?_) (fun j hj hn=>a (List.all_eq_false.2 ⟨_,aC _ hj,hn⟩))
  ·refine⟨d,fun k=>?_⟩;rw[if_pos (aP hj),Int.toNat_natCast]
   grind [AQ,cz]
  grind [ajU]
 grind [qc,mG,ajU]
theorem M3(p:Lt.Program)(f:Lt.Func)(hp:X0 p f)(KK:Int->Prop)(h:KK (A4 p f)):Gt p f KK:=by
 unfold Gt;unfold A4 at h;obtain⟨h1,h2,h3,h4,h5⟩:=hp;refine⟨h2.1,ifk (fun hc=>?_) (fun hc=>?_)⟩
 ·grind
 have o:di f=true:=by grind
 rw[if_neg (by grind)]at h;have hN:∀b∈f.Blocks,tc p f b=false->KK 4:=fun b hb e=>by
  grind [jW]
 refine dk f.Blocks.length (fun i=>tc p f (f.Blocks.getD i default)=true) (KK 4) (fun R i hi _ ih=>?_) (fun R q=>?_) (fun i hi hn=>hN _ (aC _ hi) (by grind))
 ·intro hl;rw[if_pos (aP hi),Int.toNat_natCast];have l:(0:Int)<=(i:Int)/\i<f.Blocks.length:=by omega
  have a:=hN _ (aC _ hi)
  have c:=h1 _ (aC _ hi)
  have ih:=ih hl
  generalize f.Blocks.getD i default=b at a c ih;unfold tc at a ih;refine dk b.Code.length (fun j=>lx p f (b.Code.getD j default)=true) (KK 4) (fun r j hj g k=>?_) (fun r m=>?_) (fun j hj hn=>a (by grind))
  ·refine⟨l,fun d=>?_⟩;rw[if_pos (aP hj),Int.toNat_natCast];refine⟨l,⟨by omega,hj⟩,c _ (aC _ hj),ifk (fun n=>g ?_) (fun n=>k d ?_)⟩
   all_goals grind
  refine⟨l,fun d=>?_⟩;rw[if_neg (by simp)];have m:(b.Code.all fun i=>lx p f i)=true:=ajM.2 fun x hx=>by
   grind [ajU]
  simp_all
 intro _;rw[if_neg (by simp)];have q:jW p f=true:=ajM.2 fun x hx=>by
  grind [ajU]
 rw[q,if_neg (by simp)]at h;unfold di at o;refine⟨⟨⟨h2,qQ.1 o,h3,h4⟩,h5⟩,ifk (fun hc=>?_) (fun hc=>?_)⟩
 all_goals grind
def UV(c:a8)(a:List a8)(KK:a8->Prop):Prop:=
 ab (α:=a8×Int) (fun e b=>(a.length<=4611686018427387904->if decide (b.2 < (a.length:Int))then(aa (α:=a8) (fun d=>if decide (0<b.2)then((b.1.length+([(32:UInt8)]:List UInt8).length<=4611686018427387904/\(b.1.length+([(32:UInt8)]:List UInt8).length)*1<=140737488355328)/\d (b.1++([(32:UInt8)]:List UInt8)))else(d b.1)) (fun v4=>(0<=b.2/\b.2.toNat<a.length)/\(v4.length+(a.getD b.2.toNat default).length<=4611686018427387904/\(v4.length+(a.getD b.2.toNat default).length)*1<=140737488355328)/\e ((v4++(a.getD b.2.toNat default)),(i64.wrap (b.2+1)))))else((b.1.length+([(10:UInt8)]:List UInt8).length<=4611686018427387904/\(b.1.length+([(10:UInt8)]:List UInt8).length)*1<=140737488355328)/\KK (b.1++([(10:UInt8)]:List UInt8))))) (c,0)
def Pa(d:a8)(b:a8)(a:List Lt.Var)(KK:a8->Prop):Prop:=
 ab (α:=a8×Int) (fun e c=>(a.length<=4611686018427387904->if decide (c.2 < (a.length:Int))then((0<=c.2/\c.2.toNat<a.length)/\(0<=c.2/\c.2.toNat<a.length)/\(bM c.1 [b,(a.getD c.2.toNat default).Name,(a.getD c.2.toNat default).Type_])/\e ((iz c.1 [b,(a.getD c.2.toNat default).Name,(a.getD c.2.toNat default).Type_]),(i64.wrap (c.2+1))))else(KK c.1))) (d,0)
def O9(a:Int)(KK:Int->Prop):Prop:=
 if decide (a < 0)then(KK (IntKind.u64.wrap (0 - (IntKind.u64.wrap a))))else(KK (IntKind.u64.wrap a))
def UT(a:Int)(KK:a8->Prop):Prop:=
 aa (α:=a8) (fun c=>ab (α:=a8×Int) (fun d v4=>(10:Int)≠0/\(([(UInt8.ofNat (IntKind.u8.wrap (IntKind.u64.wrap (48+(Int.tmod v4.2 10)))).toNat)]:List UInt8).length+v4.1.length<=4611686018427387904/\(([(UInt8.ofNat (IntKind.u8.wrap (IntKind.u64.wrap (48+(Int.tmod v4.2 10)))).toNat)]:List UInt8).length+v4.1.length)*1<=140737488355328)/\(10:Int)≠0/\if decide ((IntKind.u64.wrap (Int.tdiv v4.2 10))=0)then(c (([(UInt8.ofNat (IntKind.u8.wrap (IntKind.u64.wrap (48+(Int.tmod v4.2 10)))).toNat)]:List UInt8)++v4.1))else(d ((([(UInt8.ofNat (IntKind.u8.wrap (IntKind.u64.wrap (48+(Int.tmod v4.2 10)))).toNat)]:List UInt8)++v4.1),(IntKind.u64.wrap (Int.tdiv v4.2 10))))) ([],(KG a))) (fun b=>if decide (a < 0)then([45].length+b.length<=4611686018427387904/\KK ([45]++b))else(KK b))
def O7(a:a8)(KK:Bool->Prop):Prop:=
 ab (α:=Int) (fun i d=>have c:=(((a.getD d.toNat 0).toNat:Nat):Int);have z3:=(decide (c < (((97:UInt8).toNat:Nat):Int)));have f:=(decide ((((122:UInt8).toNat:Nat):Int)<c));(a.length<=4611686018427387904->if decide (d < (a.length:Int))then((0<=d/\d.toNat<a.length)/\aa (α:=Bool) (fun g=>if decide ((((48:UInt8).toNat:Nat):Int)<=c)then(g (decide (c<=(((57:UInt8).toNat:Nat):Int))))else(g false)) (fun v4=>aa (α:=Bool) (fun b=>if v4 then(if !(decide (0<d))then(if !decide (c=(((95:UInt8).toNat:Nat):Int))then(if decide (c < (((65:UInt8).toNat:Nat):Int))then(if z3 then(b true)else(b f))else(if decide ((((90:UInt8).toNat:Nat):Int)<c)then(if z3 then(b true)else(b f))else(b false)))else(b false))else(b false))else(if !decide (c=(((95:UInt8).toNat:Nat):Int))then(if decide (c < (((65:UInt8).toNat:Nat):Int))then(if z3 then(b true)else(b f))else(if decide ((((90:UInt8).toNat:Nat):Int)<c)then(if z3 then(b true)else(b f))else(b false)))else(b false))) (fun j=>if j then(KK false)else(i (i64.wrap (d+1))))))else(aa (α:=Bool) (fun e=>(a.length<=4611686018427387904->if decide (1<=(a.length:Int))then(if decide ((a.length:Int)<=16)then(if !decide (a=[110,117,108,108])then(if !decide (a=[105,110,116])then(e (!decide (a=[102,108,111,97,116])))else(e false))else(e false))else(e false))else(e false))) (fun h=>KK h)))) 0
def Gw(a:Int)(KK:Bool->Prop):Prop:=
 (9223372036854775808:Int)≠0/\KK (decide (9218868437227405312 < (Int.tmod (IntKind.u64.wrap a) 9223372036854775808)))
def Gy(a:Int)(KK:Int->Prop):Prop:=
 if FB a then(KK 9221120237041090560)else(KK a)
def Gz(a:Lt.Arg)(KK:Bool->Prop):Prop:=
 have d:=decide (a.Kind=4);have c:=decide (a.Kind=5);if decide (a.Kind=1)then(if cg a.S then(KK (decide (a.N=0)))else(KK false))else(aa (α:=Bool) (fun e=>if decide (a.Kind < 1)then(e true)else(if decide (5<a.Kind)then(e true)else(e (!decide (a.S=([]:List UInt8)))))) (fun f=>if f then(KK false)else(aa (α:=Bool) (fun b=>if decide (a.Kind=2)then((b true)/\(b true))else(if decide (a.Kind=3)then((if decide ((dI a.N)=a.N)then(b true)else(if d then(if decide (a.N=0)then(b true)else(if c then(if decide (0<=a.N)then(b (decide (a.N<=999)))else(b false))else(b false)))else(if c then(if decide (0<=a.N)then(b (decide (a.N<=999)))else(b false))else(b false))))/\(if decide ((dI a.N)=a.N)then(b true)else(if d then(if decide (a.N=0)then(b true)else(if c then(if decide (0<=a.N)then(b (decide (a.N<=999)))else(b false))else(b false)))else(if c then(if decide (0<=a.N)then(b (decide (a.N<=999)))else(b false))else(b false)))))else((if d then(if decide (a.N=0)then(b true)else(if c then(if decide (0<=a.N)then(b (decide (a.N<=999)))else(b false))else(b false)))else(if c then(if decide (0<=a.N)then(b (decide (a.N<=999)))else(b false))else(b false)))/\(if d then(if decide (a.N=0)then(b true)else(if c then(if decide (0<=a.N)then(b (decide (a.N<=999)))else(b false))else(b false)))else(if c then(if decide (0<=a.N)then(b (decide (a.N<=999)))else(b false))else(b false)))))) (fun v4=>KK v4))))
def US(b:Int)(KK:a8->Prop):Prop:=
 ab (α:=Int×a8×Int) (fun d a=>if decide (a.2.2 < 16)then((16:Int)≠0/\aa (α:=UInt8) (fun c=>if decide ((((UInt8.ofNat (IntKind.u8.wrap (Int.tmod a.1 16)).toNat).toNat:Nat):Int) < (((10:UInt8).toNat:Nat):Int))then(c (UInt8.ofNat (IntKind.u8.wrap ((((UInt8.ofNat (IntKind.u8.wrap (Int.tmod a.1 16)).toNat).toNat:Nat):Int)+(((48:UInt8).toNat:Nat):Int))).toNat))else(c (UInt8.ofNat (IntKind.u8.wrap ((((UInt8.ofNat (IntKind.u8.wrap (Int.tmod a.1 16)).toNat).toNat:Nat):Int)+(((87:UInt8).toNat:Nat):Int))).toNat))) (fun v4=>(([v4]:List UInt8).length+a.2.1.length<=4611686018427387904/\(([v4]:List UInt8).length+a.2.1.length)*1<=140737488355328)/\(16:Int)≠0/\d ((IntKind.u64.wrap (Int.tdiv a.1 16)),(([v4]:List UInt8)++a.2.1),(i64.wrap (a.2.2+1)))))else([48,102].length+a.2.1.length<=4611686018427387904/\KK ([48,102]++a.2.1))) ((IntKind.u64.wrap (dI b)),[],0)
def Pb(a:Lt.Arg)(KK:a8->Prop):Prop:=
 if !(jI a)then(KK ([]:List UInt8))else(if decide (a.Kind=1)then(KK a.S)else(if decide (a.Kind=2)then((il a.N)/\KK (jH a.N))else(if decide (a.Kind=3)then(KK (qd a.N))else(if decide (a.Kind=4)then(KK [110,117,108,108])else((il a.N)/\[35].length+(jH a.N).length<=4611686018427387904/\KK ([35]++(jH a.N)))))))
def UU(a:Int)(KK:(Lt.RForm×Bool)->Prop):Prop:=
 have d:=gw.getD a.toNat default;have z4:=Lt.RForm.mk d false (decide (a<=32)) 0 0;have z3:=Lt.RForm.mk d (!decide (a=34)) true 0 0;have c:=Lt.RForm.mk d false true 0 0;aa (α:=Bool) (fun k=>if decide (a < 1)then(k true)else(k (decide (34<a)))) (fun m=>if m then(KK ((Lt.RForm.mk ([]:List UInt8) false false 0 0),false))else(aa (α:=Lt.RForm) (fun b=>((0:Int)<=a/\a < ((35:Nat):Int))/\a.toNat<gw.length/\if !decide (a=27)then(if !decide (a=30)then(if !decide (a=33)then(if decide (a=25)then(b z3)else(if decide (a=26)then(b z3)else(if decide (a=27)then(b z3)else(if decide (29<=a)then(b (Lt.RForm.mk d (!decide (a=34)) (decide (a<=32)) 0 0))else(b (Lt.RForm.mk d (!decide (a=34)) false 0 0))))))else(if decide (a=25)then(b c)else(if decide (a=26)then(b c)else(if decide (a=27)then(b c)else(if decide (29<=a)then(b z4)else(b (Lt.RForm.mk d false false 0 0)))))))else(if decide (a=25)then(b c)else(if decide (a=26)then(b c)else(if decide (a=27)then(b c)else(if decide (29<=a)then(b z4)else(b (Lt.RForm.mk d false false 0 0)))))))else(if decide (a=25)then(b c)else(if decide (a=26)then(b c)else(if decide (a=27)then(b c)else(if decide (29<=a)then(b z4)else(b (Lt.RForm.mk d false false 0 0))))))) (fun v4=>aa (α:=Lt.RForm) (fun g=>aa (α:=Bool) (fun e=>if decide (a=22)then(e (decide (a=22)))else(if decide (a=23)then(e (decide (a=23)))else(if decide (a=24)then(e (decide (a=24)))else(if decide (a=26)then(e (decide (a=26)))else(if decide (a=30)then(e (decide (a=30)))else(e (decide (a=33)))))))) (fun l=>if l then(g (Lt.RForm.mk v4.Word v4.Dst v4.Named 1 1))else(aa (α:=Bool) (fun i=>if decide (a=25)then(i (decide (a=25)))else(if decide (a=31)then(i (decide (a=31)))else(i (decide (a=32))))) (fun j=>if j then(g (Lt.RForm.mk v4.Word v4.Dst v4.Named v4.Least 8))else(aa (α:=Bool) (fun f=>if decide (a=29)then(f (decide (a=29)))else(f (decide (a=34)))) (fun h=>if h then(g (Lt.RForm.mk v4.Word v4.Dst v4.Named v4.Least 0))else(g (Lt.RForm.mk v4.Word v4.Dst v4.Named 2 2)))))))) (fun n=>KK (n,true)))))
def O4(c:List a8)(a:List Lt.Arg)(KK:(List a8)->Prop):Prop:=
 ab (α:=List a8×Int) (fun d b=>(a.length<=4611686018427387904->if decide (b.2 < (a.length:Int))then((0<=b.2/\b.2.toNat<a.length)/\(fp (a.getD b.2.toNat default))/\(b.1.length+([(bt (a.getD b.2.toNat default))]:List a8).length<=4611686018427387904/\(b.1.length+([(bt (a.getD b.2.toNat default))]:List a8).length)*16<=140737488355328)/\d ((b.1++([(bt (a.getD b.2.toNat default))]:List a8)),(i64.wrap (b.2+1))))else(KK b.1))) (c,0)
def O5(f:a8)(a:Lt.Instr)(KK:a8->Prop):Prop:=
 have j:=([a.Name]:List a8);have z4:=([((Lt.rOf a.Op).1).Word]:List a8);aa (α:=List a8) (fun v=>if ((Lt.rOf a.Op).1).Dst then((([]:List a8).length+([a.Dst,[61]]:List a8).length<=4611686018427387904/\(([]:List a8).length+([a.Dst,[61]]:List a8).length)*16<=140737488355328)/\v [a.Dst,[61]])else(v [])) (fun i=>have z9:=xp (i++z4) ((a.Args.drop 0).take (1 - 0));(i.length+z4.length<=4611686018427387904/\(i.length+z4.length)*16<=140737488355328)/\aa (α:=List a8) (fun x=>aa (α:=Bool) (fun s=>if decide (a.Op=26)then(s (decide (0 < (a.Args.length:Int))))else(if decide (a.Op=27)then(s (decide (0 < (a.Args.length:Int))))else(s false))) (fun C=>if C then((0:Int)<=1/\(0<=1/\1<=a.Args.length)/\(qa (i++z4) ((a.Args.drop 0).take (1 - 0)))/\(z9.length+j.length<=4611686018427387904/\(z9.length+j.length)*16<=140737488355328)/\(0:Int)<=1/\(1<=a.Args.length/\a.Args.length<=a.Args.length)/\(qa (z9++j) ((a.Args.drop 1).take (a.Args.length - 1)))/\x (xp (z9++j) ((a.Args.drop 1).take (a.Args.length - 1))))else(aa (α:=List a8) (fun z=>if ((Lt.rOf a.Op).1).Named then(((i++z4).length+j.length<=4611686018427387904/\((i++z4).length+j.length)*16<=140737488355328)/\z ((i++z4)++j))else(z (i++z4))) (fun w=>(qa w a.Args)/\x (xp w a.Args))))) (fun v4=>(bM f v4)/\ab (α:=a8×Int) (fun B d=>have g:=(0<=d.2/\d.2.toNat<a.Frames.length);have e:=a.Frames.getD d.2.toNat default;(a.Frames.length<=4611686018427387904->if decide (d.2 < (a.Frames.length:Int))then(aa (α:=List a8) (fun k=>have y:=g/\(g/\(il (e.At))/\k [[97,116],e.Func,e.Block,(jH (e.At))])/\((il (e.At))/\g/\k [[97,116],e.Func,e.Block,(jH (e.At))]);g/\y/\y/\((il (e.At))/\g/\g/\k [[97,116],e.Func,e.Block,(jH (e.At))])) (fun q=>ab (α:=List a8×Int) (fun p b=>have l:=(0<=b.2/\b.2.toNat < (e.Vars).length);have h:=(e.Vars).getD b.2.toNat default;have z3:=([h.Name,(bt (h.A))]:List a8);have n:=b.1.length+z3.length<=4611686018427387904/\(b.1.length+z3.length)*16<=140737488355328;g/\((e.Vars).length<=4611686018427387904->if decide (b.2 < ((e.Vars).length:Int))then(aa (α:=List a8) (fun o=>g/\l/\(g/\l/\(fp (h.A))/\n/\o (b.1++z3))/\((fp (h.A))/\g/\l/\n/\o (b.1++z3))) (fun r=>p (r,(i64.wrap (b.2+1)))))else((bM d.1 b.1)/\B ((iz d.1 b.1),(i64.wrap (d.2+1)))))) (q,0)))else(ab (α:=a8×Int) (fun t c=>have m:=a.Objs.getD c.2.toNat default;(a.Objs.length<=4611686018427387904->if decide (c.2 < (a.Objs.length:Int))then(aa (α:=a8) (fun u=>have z5:=((0<=c.2/\c.2.toNat<a.Objs.length)/\(qa [[111,98,106],m.Class] (m.Vals))/\(bM c.1 (xp [[111,98,106],m.Class] (m.Vals)))/\u (iz c.1 (xp [[111,98,106],m.Class] (m.Vals))));(0<=c.2/\c.2.toNat<a.Objs.length)/\z5/\z5) (fun v20=>t (v20,(i64.wrap (c.2+1)))))else(KK c.1))) (d.1,0)))) ((iz f v4),0)))
def O6(b:a8)(a:Lt.Term)(KK:a8->Prop):Prop:=
 have d:=([(jH a.N)]:List a8);have c:=([([]:List UInt8),[106,117,109,112],[98,114,97,110,99,104],[114,101,116],[116,114,97,112]].getD a.Kind.toNat default);aa (α:=Bool) (fun i=>if decide (a.Kind < 1)then(i true)else(i (decide (4<a.Kind)))) (fun j=>if j then(KK b)else(((0:Int)<=a.Kind/\a.Kind < (([([]:List UInt8),[106,117,109,112],[98,114,97,110,99,104],[114,101,116],[116,114,97,112]].length:Nat):Int))/\aa (α:=List a8) (fun f=>aa (α:=Bool) (fun g=>if decide (a.Kind=2)then(g true)else(g (decide (a.Kind=3)))) (fun k=>if k then((fp a.A)/\(([c]:List a8).length+([(bt a.A)]:List a8).length<=4611686018427387904/\(([c]:List a8).length+([(bt a.A)]:List a8).length)*16<=140737488355328)/\f [c,(bt a.A)])else(f [c]))) (fun v4=>(v4.length+a.To.length<=4611686018427387904/\(v4.length+a.To.length)*16<=140737488355328)/\aa (α:=List a8) (fun h=>if decide (a.Kind=4)then((il a.N)/\((v4++a.To).length+d.length<=4611686018427387904/\((v4++a.To).length+d.length)*16<=140737488355328)/\h ((v4++a.To)++d))else(h (v4++a.To))) (fun e=>(bM b e)/\KK (iz b e)))))
def Gx(a:Lt.Program)(KK:a8->Prop):Prop:=
 aa (α:=a8) (fun H=>if a.SSA then((bM [] [[115,115,97]])/\H (iz [] [[115,115,97]]))else(H [])) (fun J=>ab (α:=a8×Int) (fun L v4=>have m:=(0<=v4.2/\v4.2.toNat<a.Classes.length);have o:=a.Classes.getD v4.2.toNat default;have j:=iz v4.1 [[99,108,97,115,115],o.Name];(a.Classes.length<=4611686018427387904->if decide (v4.2 < (a.Classes.length:Int))then(aa (α:=a8) (fun I=>have F:=(m/\(bM v4.1 [[99,108,97,115,115],o.Name])/\(dz j [102,105,101,108,100] (o.Fields))/\I (qe j [102,105,101,108,100] (o.Fields)));m/\(((bM v4.1 [[99,108,97,115,115],o.Name])/\m/\(dz j [102,105,101,108,100] (o.Fields))/\I (qe j [102,105,101,108,100] (o.Fields)))/\F)/\F) (fun K=>L (K,(i64.wrap (v4.2+1)))))else((dz v4.1 [103,108,111,98,97,108] a.Globals)/\ab (α:=a8×Int) (fun M k=>have p:=(0<=k.2/\k.2.toNat<a.Externs.length);have r:=a.Externs.getD k.2.toNat default;have z21:=iz k.1 [[101,120,116,101,114,110],r.Name,(jH (r.N))];have z20:=bM k.1 [[101,120,116,101,114,110],r.Name,(jH (r.N))];(a.Externs.length<=4611686018427387904->if decide (k.2 < (a.Externs.length:Int))then(aa (α:=a8) (fun G=>p/\(p/\(il (r.N))/\z20/\G z21)/\((il (r.N))/\p/\z20/\G z21)) (fun z=>M (z,(i64.wrap (k.2+1)))))else(ab (α:=a8×Int) (fun w c=>have e:=a.Funcs.getD c.2.toNat default;have n:=iz c.1 [[102,117,110,99],e.Name,e.Result];have h:=bM c.1 [[102,117,110,99],e.Name,e.Result];have i:=qe n [112,97,114,97,109] (e.Params);(a.Funcs.length<=4611686018427387904->if decide (c.2 < (a.Funcs.length:Int))then((0<=c.2/\c.2.toNat<a.Funcs.length)/\aa (α:=a8) (fun t=>have z3:=(dz n [112,97,114,97,109] (e.Params))/\(dz i [118,97,114] (e.Vars))/\t (qe i [118,97,114] (e.Vars));have l:=h/\(dz n [112,97,114,97,109] (e.Params))/\(dz i [118,97,114] (e.Vars))/\t (qe i [118,97,114] (e.Vars));((h/\z3/\z3)/\((h/\z3/\z3)/\l)/\(l/\l))/\(((h/\z3/\z3)/\l)/\l)/\((l/\l)/\l)) (fun x=>ab (α:=a8×Int) (fun C d=>have z4:=(e.Blocks).getD d.2.toNat default;have s:=Lt.Term.mk ((z4.End).Kind) ((z4.End).A) ((z4.End).To) ((z4.End).N);((e.Blocks).length<=4611686018427387904->if decide (d.2 < ((e.Blocks).length:Int))then((0<=d.2/\d.2.toNat < (e.Blocks).length)/\(bM d.1 [[98,108,111,99,107],z4.Name])/\ab (α:=a8×Int) (fun B b=>have f:=(0<=b.2/\b.2.toNat < (z4.Phis).length);have z9:=((z4.Phis).getD b.2.toNat default).Ins;((z4.Phis).length<=4611686018427387904->if decide (b.2 < ((z4.Phis).length:Int))then(f/\ab (α:=List a8×Int) (fun D v20=>have g:=z9.getD v20.2.toNat default;have q:=(0<=v20.2/\v20.2.toNat<z9.length);have z5:=([g.Block,(bt (g.A))]:List a8);have u:=v20.1.length+z5.length<=4611686018427387904/\(v20.1.length+z5.length)*16<=140737488355328;f/\(z9.length<=4611686018427387904->if decide (v20.2 < (z9.length:Int))then(aa (α:=List a8) (fun v=>f/\q/\(f/\q/\(fp (g.A))/\u/\v (v20.1++z5))/\((fp (g.A))/\f/\q/\u/\v (v20.1++z5))) (fun E=>D (E,(i64.wrap (v20.2+1)))))else((bM b.1 v20.1)/\B ((iz b.1 v20.1),(i64.wrap (b.2+1)))))) ([[112,104,105],((z4.Phis).getD b.2.toNat default).Dst],0))else(ab (α:=a8×Int) (fun y v24=>((z4.Code).length<=4611686018427387904->if decide (v24.2 < ((z4.Code).length:Int))then((0<=v24.2/\v24.2.toNat < (z4.Code).length)/\(KE v24.1 ((z4.Code).getD v24.2.toNat default))/\y ((Yd v24.1 ((z4.Code).getD v24.2.toNat default)),(i64.wrap (v24.2+1))))else((AU v24.1 s)/\C ((Yf v24.1 s),(i64.wrap (d.2+1)))))) (b.1,0)))) ((iz d.1 [[98,108,111,99,107],z4.Name]),0))else(w (d.1,(i64.wrap (c.2+1)))))) (x,0)))else(KK c.1))) (k.1,0)))) ((qe v4.1 [103,108,111,98,97,108] a.Globals),0)))) (J,0))
theorem iM{n:Nat}(h:n < 10):Lt.digs n=[UInt8.ofNat (48+n)]:=by
 grind [Lt.digs]
theorem pC{n:Nat}(h:¬ n < 10):Lt.digs n=Lt.digs (n / 10)++[UInt8.ofNat (48+n % 10)]:=by
 grind [Lt.digs]
theorem zK:∀(k n:Nat),n < 10 ^ (k+1)->(Lt.digs n).length<=k+1
 |0,n,h=>by grind [iM]
 |k+1,n,h=>by
  by_cases a:n < 10
  ·grind [iM]
  rw[pC a];have:=zK k (n / 10) kQ1
  grind
theorem sQ{n:Int}(h:Lt.inR n):(bf n).length<=20:=by
 unfold Lt.inR at h;have:=zK 18 n.natAbs kQ1
 grind [bf]
theorem dZ{n:Nat}(h:n < 18446744073709551616):IntKind.u64.wrap (n:Int)=(n:Int):=by
 grind [IntKind.wrap,IntKind.signed,IntKind.bits]
variable{α:Type}
theorem PT(f g:α->a8)(l:List α):(l.flatMap fun b=>[f b,g b]).length=2*l.length:=by
 induction l<;>grind
variable{β:Type}
theorem C9[Inhabited α](f:α->List β)(l:List α){i:Nat}(h:i<l.length):(l.take (i+1)).flatMap f=(l.take i).flatMap f++f (l.getD i default):=by
 grind [ba]
theorem eI[Inhabited α](l:List α)(g:α->List β)(out:List β)(body:(List β×Int->Prop)->List β×Int->Prop)
  (hs:∀R i b,l.length<=LEN->i<l.length->b=out++(l.take i).flatMap g->R (b++g (l.getD i default),i64.wrap ((i:Int)+1))->body R (b,(i:Int)))
  (a:∀R,l.length<=LEN->body R (out++l.flatMap g,(l.length:Int))):ab (fun R v=>l.length<=4611686018427387904->body R v) (out,0):=by
 by_cases hl:l.length<=LEN
 ·refine Ji l.length hl (fun i=>out++(l.take i).flatMap g) _ (fun R i hi ih _=>?_) (fun R _=>?_) (by simp)
  all_goals grind [C9]
 exact⟨1,fun h=>absurd h hl⟩
theorem iY[Inhabited α](g:α->List β)(l:List α){i:Nat}(h:i<l.length):((l.take i).flatMap g).length+(g (l.getD i default)).length<=(l.flatMap g).length:=by
 have e:l.flatMap g=(l.take (i+1)).flatMap g++(l.drop (i+1)).flatMap g:=by grind [akN]
 grind [C9]
theorem adT:∀(ws:List a8),ws.length<=(Lt.jw true ws).length
 |[]=>by simp
 |w::r=>by
  have:=adT r
  grind [Lt.jw]
theorem Ap(ws:List a8):ws.length<=(Lt.lnT ws).length:=by
 unfold Lt.lnT;cases ws<;>grind [adT,Lt.jw]
theorem Xd(out:List UInt8)(l:List a8)(hp:bM out l)(KK:a8->Prop)(h:KK (iz out l)):UV out l KK:=by
 unfold UV;(try simp only[ac,am,aq,jval,bor,band,bnand,bimp,and_self]);unfold bM Lt.room at hp;by_cases hl:l.length<=LEN
 rotate_left
 ·exact⟨1,fun h=>absurd h hl⟩
 have c:(iz out l).length<=1099511627776:=by grind [iz]
 refine au _ l.length (fun i x=>∃b,x=(b,(i:Int))/\b++Lt.jw (decide (0<i)) (l.drop i)++[10]=iz out l) (fun R i x hi a g=>?_) (fun R x a=>?_) _ ⟨out,rfl,by simp[iz,Lt.lnT]⟩
 ·obtain⟨b,rfl,e⟩:=a;have f:l.getD i default=l[i]:=by grind
  rw[ajT hi,Lt.jw,<- f]at e;have el:=congrArg List.length e
  simp only[ajR,ajK,ajS]at el;simp only[aP hi,if_true,Int.toNat_natCast]
  try dsimp +instances only [Int.toNat_natCast]
  intro _ J d;have hj:J (b++(if decide (0<i)=true then [32]else [])):=by
   refine d _ ⟨⟨ajE i,hi⟩,?_,?_⟩
   ·grind
   grind [ae]
  grind
 grind [Lt.jw]
theorem S6(out first:List UInt8)(l:List Lt.Var)(hp:dz out first l)(KK:a8->Prop)(h:KK (qe out first l)):Pa out first l KK:=by
 unfold Pa;(try simp only[ac,am,aq,jval,bor,band,bnand,bimp,and_self]);unfold dz iT at hp;refine eI l (fun v=>Lt.lnT [first,v.Name,v.Type_]) out _ (fun R i b hl hi hb ih=>?_) (fun R hl=>?_)
 ·simp only[aP hi,if_true,Int.toNat_natCast]
  try dsimp +instances only [Int.toNat_natCast]
  have:=iY (fun v:Lt.Var=>Lt.lnT [first,v.Name,v.Type_]) l hi
  refine⟨⟨ajE i,hi⟩,⟨ajE i,hi⟩,?_,ih⟩
  grind [bM]
 simp only[kZ,ajC,if_false];exact h
theorem S5(n:Int)(KK:Int->Prop)(h:KK (KG n)):O9 n KK:=by
 grind [O9,KG]
theorem Yi{n:Int}(h:Lt.inR n):KG n=(n.natAbs:Int):=by
 grind [Lt.inR,KG,IntKind.wrap,IntKind.signed,IntKind.bits]
theorem Xc(n:Int)(hp:il n)(KK:a8->Prop)(h:KK (jH n)):UT n KK:=by
 unfold il at hp;unfold UT;(try simp only[ac,am,aq,jval,bor,band,bnand,bimp,and_self]);rw[Yi hp];have g:=zK 18 n.natAbs (by grind [Lt.inR])
 unfold Lt.inR at hp;intro J j;have hj:J (Lt.digs n.natAbs):=by
  grind [jH,bf]
 have step:∀(m:Nat)(a:a8)(R:a8×Int->Prop),m<=9223372036854775808->Lt.digs m++a=Lt.digs n.natAbs->(¬ m < 10->R (UInt8.ofNat (48+m % 10)::a,((m / 10:Nat):Int))) ->
   (10:Int)≠0/\(([UInt8.ofNat (IntKind.u8.wrap (IntKind.u64.wrap (48+Int.tmod (m:Int) 10))).toNat]:List UInt8).length+a.length<=4611686018427387904/\(([UInt8.ofNat (IntKind.u8.wrap (IntKind.u64.wrap (48+Int.tmod (m:Int) 10))).toNat]:List UInt8).length+a.length)*1<=140737488355328)/\(10:Int)≠0 /\
    if decide (IntKind.u64.wrap (Int.tdiv (m:Int) 10)=0)=true then J ([UInt8.ofNat (IntKind.u8.wrap (IntKind.u64.wrap (48+Int.tmod (m:Int) 10))).toNat]++a)
    else R ([UInt8.ofNat (IntKind.u8.wrap (IntKind.u64.wrap (48+Int.tmod (m:Int) 10))).toNat]++a,IntKind.u64.wrap (Int.tdiv (m:Int) 10)):=by
  intro m a R hm e f;have w:IntKind.u64.wrap (48+Int.tmod (m:Int) 10)=((48+m % 10:Nat):Int):=by
   grind [dZ]
  have w2:UInt8.ofNat (IntKind.u8.wrap ((48+m % 10:Nat):Int)).toNat=UInt8.ofNat (48+m % 10):=by
   grind [IntKind.wrap,IntKind.bits]
  have w3:IntKind.u64.wrap (Int.tdiv (m:Int) 10)=((m / 10:Nat):Int):=by
   rw[show Int.tdiv (m:Int) 10=((m / 10:Nat):Int)from rfl];exact dZ kQ1
  grind [iM]
 refine au _ 20 (fun i x=>∃(m:Nat)(a:a8),x=(a,(m:Int))/\m < 10 ^ (20-i)/\m<=9223372036854775808/\Lt.digs m++a=Lt.digs n.natAbs) (fun R i x hi c f=>?_) (fun R x c=>?_) _ ⟨n.natAbs,[],rfl,by omega,by omega,by simp⟩
 ·obtain⟨m,a,rfl,hm,b,e⟩:=c;refine step m a R b e (fun d=>f _ ⟨m / 10,_,rfl,?_,by omega,?_⟩)
  ·rw[show 20-i=(20 - (i+1))+1 by omega,Nat.pow_succ]at hm;omega
  grind [pC]
 obtain⟨m,a,rfl,hm,b,e⟩:=c;exact step m a R b e (fun d=>absurd hm kQ1)
theorem u8w(y:Int):(((UInt8.ofNat (IntKind.u8.wrap y).toNat).toNat:Nat):Int)=IntKind.u8.wrap y:=by
 grind [IntKind.wrap,IntKind.signed,IntKind.bits,UInt8.toNat_ofNat']
theorem Xb(n:Int)(KK:a8->Prop)(h:KK (qd n)):US n KK:=by
 unfold US;(try simp only[ac,am,aq,jval,bor,band,bnand,bimp,and_self]);unfold qd at h;have hb:∀x:Int,(if decide ((((UInt8.ofNat (IntKind.u8.wrap (Int.tmod x 16)).toNat).toNat:Nat):Int) < (((10:UInt8).toNat:Nat):Int))=true then UInt8.ofNat (IntKind.u8.wrap ((((UInt8.ofNat (IntKind.u8.wrap (Int.tmod x 16)).toNat).toNat:Nat):Int)+(((48:UInt8).toNat:Nat):Int))).toNat
   else UInt8.ofNat (IntKind.u8.wrap ((((UInt8.ofNat (IntKind.u8.wrap (Int.tmod x 16)).toNat).toNat:Nat):Int)+(((87:UInt8).toNat:Nat):Int))).toNat)=WT x:=by
  grind [u8w,WT]
 refine au _ 16 (fun i x=>∃(y:Int)(a:a8),x=(y,a,(i:Int))/\a.length=i/\rK (16-i) y a=rK 16 (IntKind.u64.wrap (dI n)) []) (fun R i x hi b c=>?_) (fun R x b=>?_) _ ⟨_,[],rfl,rfl,rfl⟩
 ·obtain⟨y,a,rfl,hl,e⟩:=b;have hd:decide ((i:Int) < 16)=true:=by grind
  dsimp only;rw[hb,if_pos hd];refine⟨by decide,⟨by grind,by grind⟩,by decide,c _ ⟨_,_,by rw[ae kQ1],by grind,?_⟩⟩;rw[show 16-i=(16 - (i+1))+1 by omega,rK]at e;exact e
 grind [ajK,ajS,rK]
theorem M7(n:Int)(KK:Bool->Prop)(h:KK (FB n)):Gw n KK:=by
 unfold Gw;(try simp only[ac,am,aq,jval,bor,band,bnand,bimp,and_self]);exact⟨by decide,h⟩
theorem M9(n:Int)(KK:Int->Prop)(h:KK (dI n)):Gy n KK:=by
 unfold Gy;(try simp only[ac,am,aq,jval,bor,band,bnand,bimp,and_self]);exact h
theorem Na(a:Lt.Arg)(KK:Bool->Prop)(h:KK (jI a)):Gz a KK:=by
 unfold Gz;dsimp only;(try simp only[ac,am,aq,jval,bor,band,bnand,bimp,and_self])
 grind [jI,decide]
theorem S3(s:a8)(KK:Bool->Prop)(h:KK (cg s)):O7 s KK:=by
 unfold O7;dsimp only;(try simp only[ac,am,aq,jval,bor,band,bnand,bimp,and_self]);by_cases hl:s.length<=LEN
 rotate_left
 ·exact⟨1,fun h=>absurd h hl⟩
 refine au _ s.length (fun i x=>x=(i:Int)/\∀j,j<i->wv j (s.getD j 0)=true) (fun R i x hi a b=>?_) (fun R x a=>?_) _ ⟨rfl,by omega⟩
 ·obtain⟨rfl,a⟩:=a;simp only[aP hi,if_true,Int.toNat_natCast]
  try dsimp +instances only [Int.toNat_natCast]
  grind [wv,ae,cg]
 grind [cg]
theorem S7(a:Lt.Arg)(hp:fp a)(KK:a8->Prop)(h:KK (bt a)):Pb a KK:=by
 grind [Pb,bt,fp,Lt.Arg.ok,il,sQ,jH]
theorem S0(l:List a8)(a:List Lt.Arg)(hp:qa l a)(KK:List a8->Prop)(h:KK (xp l a)):O4 l a KK:=by
 unfold O4;(try simp only[ac,am,aq,jval,bor,band,bnand,bimp,and_self]);obtain⟨c,hp⟩:=hp;unfold Lt.room at hp;have e:∀l:List Lt.Arg,(l.flatMap fun x=>[bt x])=l.map bt:=fun l=>by induction l<;>simp_all
 refine eI a (fun x=>[bt x]) l _ (fun R i b hl hi hb ih=>?_) (fun R hl=>?_)
 ·simp only[aP hi,if_true,Int.toNat_natCast]
  try dsimp +instances only [Int.toNat_natCast]
  have:=iY (fun x=>[bt x]) a hi
  rw[e,e,ajH]at this;refine⟨⟨ajE i,hi⟩,c _ (aC _ hi),?_,ih⟩
  grind
 simp only[kZ,ajC,if_false];rw[e];exact h
theorem S2(out:List UInt8)(t:Lt.Term)(hp:AU out t)(KK:a8->Prop)(h:KK (Yf out t)):O6 out t KK:=by
 obtain⟨⟨c,b⟩,hp⟩:=hp;unfold O6;dsimp only;(try simp only[ac,am,aq,jval,bor,band,bnand,bimp,and_self]);unfold Yf at h;refine ifk (fun hc=>kk h ?_) (fun hc=>?_)
 ·grind [uS]
 have hk:¬ (t.Kind < 1\/4<t.Kind):=by grind
 unfold uS at h hp;rw[if_neg hk]at h hp;have e:t.To.length<=1099511627776:=by
  grind [Ap,A6,ajR,Lt.room]
 refine⟨⟨by omega,by grind⟩,?_⟩;generalize hw:([[],[106,117,109,112],[98,114,97,110,99,104],[114,101,116],[116,114,97,112]]:List a8).getD t.Kind.toNat default=w;have f:A6 t=([w]++(if t.Kind=2\/t.Kind=3 then [bt t.A]else []))++t.To++(if t.Kind=4 then [jH t.N]else []):=by
  rw[<- hw];rfl
 intro J j;have hj:J ([w]++(if t.Kind=2\/t.Kind=3 then [bt t.A]else [])):=by
  refine j _ ?_;generalize hv:([w]++(if t.Kind=2\/t.Kind=3 then [bt t.A]else []))=v at f;have i:v.length<=2:=by grind
  refine⟨⟨by omega,by omega⟩,?_⟩;intro g a;have d:g (A6 t):=a _ ⟨hp,h⟩
  rw[f]at d;refine ifk (fun hc=>⟨b,?_,?_⟩) (fun hc=>?_)
  all_goals grind
 refine ifk (fun hc=>⟨c,?_,?_⟩) (fun hc=>?_)
 all_goals grind
theorem aa9(n:Int)(KK:Lt.RForm×Bool->Prop)(h:KK (Lt.rOf n)):UU n KK:=by
 by_cases hr:n < 1\/34<n
 ·unfold UU Lt.rOf at *;rw[if_pos hr]at h;simp only[ac,jval,bor]
  grind
 have:n=1\/n=2\/n=3\/n=4\/n=5\/n=6\/n=7\/n=8\/n=9\/n=10\/n=11\/n=12\/n=13\/n=14\/n=15\/n=16\/n=17\/n=18\/n=19\/n=20\/n=21\/n=22\/n=23\/n=24\/n=25\/n=26\/n=27\/n=28\/n=29\/n=30\/n=31\/n=32\/n=33\/n=34:=by omega
 rcases this with rfl|rfl|rfl|rfl|rfl|rfl|rfl|rfl|rfl|rfl|rfl|rfl|rfl|rfl|rfl|rfl|rfl|rfl|rfl|rfl|rfl|rfl|rfl|rfl|rfl|rfl|rfl|rfl|rfl|rfl|rfl|rfl|rfl|rfl
 all_goals
  simp_all[Lt.rOf,UU,ac,gw]
theorem S1(out:List UInt8)(x:Lt.Instr)(hp:KE out x)(KK:a8->Prop)(h:KK (Yd out x)):O5 out x KK:=by
 obtain⟨⟨c,okF,okO⟩,k,hp⟩:=hp;unfold jG Lt.room at hp;simp only[ajR]at hp;unfold O5;dsimp only;(try simp only[ac,am,aq,jval,bor,band,bnand,bimp,and_self]);intro J K;have hw:=Ap (jK x)
 have P:J (if(Lt.rOf x.Op).1.Dst=true then [x.Dst,[61]]else []):=by
  refine K _ ?_;generalize hv:(if(Lt.rOf x.Op).1.Dst=true then [x.Dst,[61]]else [])=v;have F:r7 x=v++[(Lt.rOf x.Op).1.Word]:=by rw[<- hv];rfl
  have N:v.length<=2:=by grind
  refine⟨⟨by grind,by grind⟩,?_⟩;rw[<- F];have O:(r7 x).length<=3:=by grind
  intro E q;have n:E (jK x):=by
   refine q _ ⟨by grind [bM,Lt.room],?_⟩;refine eI x.Frames (fun f=>Lt.lnT (fJ f)) (iz out (jK x)) _ (fun R i b hl hi hb ih=>?_) (fun R hl=>?_)
   ·simp only[aP hi,if_true,Int.toNat_natCast]
    try dsimp +instances only [Int.toNat_natCast]
    have o:(0:Int)<=(i:Int)/\i<x.Frames.length:=⟨ajE i,hi⟩
    have C:il (x.Frames.getD i default).At:=cw k hi
    simp only[o,C,and_self,true_and];(try simp only[ac,am,aq,jval,bor,band,bnand,bimp,and_self]);have u:=iY (fun f=>Lt.lnT (fJ f)) x.Frames hi
    have g:=cw okF hi
    generalize x.Frames.getD i default=f at u g C ih⊢;have d:b.length+(Lt.lnT (fJ f)).length<=1099511627776:=by
     grind [iz]
    have z:=Ap (fJ f)
    have B:(fJ f).length=4+2*f.Vars.length:=by
     simp only[fJ,ajR,PT,ajK,ajS]
    refine eI f.Vars (fun v=>[v.Name,bt v.A]) _ _ (fun G j w y hj hw s=>?_) (fun G y=>?_)
    ·simp only[aP hj,if_true,Int.toNat_natCast]
     try dsimp +instances only [Int.toNat_natCast]
     have o2:(0:Int)<=(j:Int)/\j<f.Vars.length:=⟨ajE j,hj⟩
     have M:fp (f.Vars.getD j default).A:=g.2 _ (aC _ hj)
     simp only[o2,M,and_self,true_and];(try simp only[ac,am,aq,jval,bor,band,bnand,bimp,and_self]);refine⟨?_,s⟩;rw[hw];simp only[ajR,PT,ajK,ajS,List.length_take];omega
    simp only[kZ,ajC,if_false];refine⟨?_,ih⟩;unfold bM Lt.room;exact d
   simp only[kZ,ajC,if_false];refine eI x.Objs (fun o=>Lt.lnT (jJ o)) _ _ (fun R i b hl hi hb ih=>?_) (fun R hl=>?_)
   ·simp only[aP hi,if_true,Int.toNat_natCast]
    try dsimp +instances only [Int.toNat_natCast]
    have u:=iY (fun o=>Lt.lnT (jJ o)) x.Objs hi
    have m:=cw okO hi
    have o:(0:Int)<=(i:Int)/\i<x.Objs.length:=⟨ajE i,hi⟩
    refine⟨o,o,?_⟩;generalize x.Objs.getD i default=v at u m ih⊢;have d:b.length+(Lt.lnT (jJ v)).length<=1099511627776:=by
     grind [iz]
    have z:=Ap (jJ v)
    have B:(jJ v).length=2+v.Vals.length:=by
     grind [jJ]
    refine⟨⟨m,?_⟩,?_,ih⟩
    ·grind [Lt.room]
    unfold bM Lt.room;exact d
   grind [Yd,jG,iz]
  have D:=hw
  refine ifk (fun hc=>?_) (fun hc=>?_)
  ·have t:(x.Op=26\/x.Op=27)/\x.Args≠[]:=by
    grind
   have l:1<=x.Args.length:=by
    grind
   have e:jK x=r7 x++(x.Args.take 1).map bt++[x.Name]++(x.Args.drop 1).map bt:=by
    grind [jK]
   have el:=congrArg List.length e
   simp only[ajR,ajH,List.length_take,List.length_drop,ajK,ajS]at el;have I:List.take (1 - 0) (List.drop 0 x.Args)=x.Args.take 1:=rfl
   have L:List.take (x.Args.length - 1) (List.drop 1 x.Args)=x.Args.drop 1:=akZ (by simp)
   rw[I,L];refine⟨by omega,⟨by omega,l⟩,⟨fun a r=>c a (List.mem_of_mem_take r),?_⟩,?_,by omega,⟨l,ajB _⟩,⟨fun a r=>c a (List.mem_of_mem_drop r),?_⟩,?_⟩
   ·grind [Lt.room]
   ·grind [xp]
   ·grind [Lt.room,xp]
   rw[e]at n;exact n
  have t:¬ ((x.Op=26\/x.Op=27)/\x.Args≠[]):=by
   grind [akC]
  have e:jK x=r7 x++(if(Lt.rOf x.Op).1.Named then [x.Name]else [])++x.Args.map bt:=by
   grind [jK]
  have el:=congrArg List.length e
  simp only[ajR,ajH]at el;intro H p;have Q:H (r7 x++(if(Lt.rOf x.Op).1.Named then [x.Name]else [])):=by
   refine p _ ⟨⟨c,?_⟩,?_⟩
   ·grind [Lt.room]
   rw[e]at n;exact n
  grind
 grind
theorem M8(p:Lt.Program)(hp:kn p)(KK:a8->Prop)(h:KK (gD p)):Gx p KK:=by
 obtain⟨okP,H,y,hp⟩:=hp;unfold Gx;dsimp only;(try simp only[ac,am,aq,jval,bor,band,bnand,bimp,and_self]);unfold gD at h hp;unfold Lt.room at hp;simp only[ajR]at hp;intro J Y;have P:J (if p.SSA then Lt.lnT [[115,115,97]]else []):=by
  refine Y _ ?_;generalize(if p.SSA then Lt.lnT [[115,115,97]]else [])=s at h hp;refine eI p.Classes ir s _ (fun R i b hl hi hb ih=>?_) (fun R hl=>?_)
  ·simp only[aP hi,if_true,Int.toNat_natCast]
   try dsimp +instances only [Int.toNat_natCast]
   have o:(0:Int)<=(i:Int)/\i<p.Classes.length:=⟨ajE i,hi⟩
   have B:=iY ir p.Classes hi
   generalize p.Classes.getD i default=c at B ih⊢;have n:b.length+(ir c).length<=1099511627776:=by grind
   simp only[ir,ajR]at n;have E:bM b [[99,108,97,115,115],c.Name]:=by grind [bM,Lt.room]
   have p2:dz (iz b [[99,108,97,115,115],c.Name]) [102,105,101,108,100] c.Fields:=by
    grind [dz,Lt.room,iz]
   simp only[o,E,p2,and_self,true_and];(try simp only[ac,am,aq,jval,bor,band,bnand,bimp,and_self]);simp only[ir,<- akR]at ih;exact ih
  simp only[kZ,ajC,if_false];refine⟨by grind [dz,Lt.room],?_⟩;refine eI p.Externs jr _ _ (fun R i b hl hi hb ih=>?_) (fun R hl=>?_)
  ·simp only[aP hi,if_true,Int.toNat_natCast]
   try dsimp +instances only [Int.toNat_natCast]
   have o:(0:Int)<=(i:Int)/\i<p.Externs.length:=⟨ajE i,hi⟩
   have B:=iY jr p.Externs hi
   have O:il (p.Externs.getD i default).N:=cw H hi
   generalize p.Externs.getD i default=c at B ih O⊢;have E:bM b [[101,120,116,101,114,110],c.Name,jH c.N]:=by
    grind [bM,Lt.room,qe,iT,jr]
   simp only[o,E,O,and_self,true_and];(try simp only[ac,am,aq,jval,bor,band,bnand,bimp,and_self]);exact ih
  simp only[kZ,ajC,if_false];refine eI p.Funcs lj _ _ (fun R i b hl hi hb ih=>?_) (fun R hl=>?_)
  ·simp only[aP hi,if_true,Int.toNat_natCast]
   try dsimp +instances only [Int.toNat_natCast]
   have o:(0:Int)<=(i:Int)/\i<p.Funcs.length:=⟨ajE i,hi⟩
   have B:=iY lj p.Funcs hi
   have u:=cw okP hi
   have e:=cw y hi
   refine⟨o,?_⟩;generalize p.Funcs.getD i default=f at B u e ih⊢;have n:b.length+(lj f).length<=1099511627776:=by
    grind [iT,qe]
   simp only[lj,ajR]at n;refine⟨by grind [bM,Lt.room],by grind [dz,Lt.room,iz],?_,?_⟩
   ·grind [dz,Lt.room,iT,qe,iz]
   refine eI f.Blocks iq _ _ (fun S j b2 F hj Q l=>?_) (fun S F=>?_)
   ·simp only[aP hj,if_true,Int.toNat_natCast]
    try dsimp +instances only [Int.toNat_natCast]
    have o2:(0:Int)<=(j:Int)/\j<f.Blocks.length:=⟨ajE j,hj⟩
    have L:=iY iq f.Blocks hj
    have a:=cw u hj
    have d:=cw e hj
    simp only[o2,and_self,true_and];generalize f.Blocks.getD j default=k at L a d l⊢;have r:b2.length+(iq k).length<=1099511627776:=by
     grind [iT,qe,iz,ajR]
    simp only[iq,ajR]at r;refine⟨by grind [bM,Lt.room],?_⟩;refine eI k.Phis (fun x=>Lt.lnT (nB x)) _ _ (fun V q b3 G hq U D=>?_) (fun V G=>?_)
    ·simp only[aP hq,if_true,Int.toNat_natCast]
     try dsimp +instances only [Int.toNat_natCast]
     have o3:(0:Int)<=(q:Int)/\q<k.Phis.length:=⟨ajE q,hq⟩
     have I:=iY (fun x=>Lt.lnT (nB x)) k.Phis hq
     have z:=cw a.1 hq
     simp only[o3,and_self,true_and];generalize k.Phis.getD q default=x at I z D⊢;have v:b3.length+(Lt.lnT (nB x)).length<=1099511627776:=by
      grind [iz]
     have W:=Ap (nB x)
     have X:(nB x).length=2+2*x.Ins.length:=by
      simp only[nB,ajR,PT,ajK,ajS]
     refine eI x.Ins (fun i=>[i.Block,bt i.A]) _ _ (fun M t w g K hw m=>?_) (fun M g=>?_)
     ·simp only[aP K,if_true,Int.toNat_natCast]
      try dsimp +instances only [Int.toNat_natCast]
      have Z:(0:Int)<=(t:Int)/\t<x.Ins.length:=⟨ajE t,K⟩
      have pA:fp (x.Ins.getD t default).A:=z.2 _ (aC _ K)
      simp only[Z,pA,and_self,true_and];(try simp only[ac,am,aq,jval,bor,band,bnand,bimp,and_self]);refine⟨?_,m⟩;rw[hw];simp only[ajR,PT,ajK,ajS,List.length_take];omega
     simp only[kZ,ajC,if_false];refine⟨?_,D⟩;unfold bM Lt.room;exact v
    simp only[kZ,ajC,if_false];refine eI k.Code jG _ _ (fun M q b4 g hq T m=>?_) (fun M g=>?_)
    ·simp only[aP hq,if_true,Int.toNat_natCast]
     try dsimp +instances only [Int.toNat_natCast]
     have aa:=iY jG k.Code hq
     have okc:=cw a.2.1 hq
     have C:=cw d hq
     refine⟨⟨ajE q,hq⟩,⟨okc,C,?_⟩,m⟩
     grind [Lt.room,iz]
    simp only[kZ,ajC,if_false];refine⟨(⟨a.2.2,?_⟩:AU _ k.End),?_⟩
    ·grind [Lt.room,iz]
    simp only[iq,<- akR]at l;exact l
   simp only[kZ,ajC,if_false];simp only[lj,<- akR]at ih;exact ih
  simp only[kZ,ajC,if_false];unfold iT at h;exact h
 exact ifk (fun hc=>⟨by grind [bM,Lt.room],by rw[if_pos hc]at P;exact P⟩) (fun hc=>by grind)
theorem Zb(op:Int):(Lt.Of op).1.Most<=8:=by
 grind (splits:=20) [Lt.Of]
variable{op:Int}
theorem Va(h:op=26\/op=27):1<=(Lt.Of op).1.Least:=by
 rcases h with rfl|rfl<;>decide
structure InstrOk (i:Lt.Instr):Prop where
 args:i.Args.length<=8
 frames:i.Frames.length<=16
 objs:i.Objs.length<=99
 fr:∀f∈i.Frames,Lt.frame f=true
 ob:∀o∈i.Objs,Lt.virt o=true
 least:i.Op=26\/i.Op=27->1<=i.Args.length
 aok:bG i.Args false=true
 of:(Lt.Of i.Op).2=true
 dst:(Lt.Of i.Op).1.Dst=!decide (i.Dst=[])
 nm:(Lt.Of i.Op).1.Named=!decide (i.Name=[])
 dstN:(Lt.Of i.Op).1.Dst=true->Lt.Name i.Dst=true
 nmN:(Lt.Of i.Op).1.Named=true->Lt.Name i.Name=true
 lo:(Lt.Of i.Op).1.Least<=(i.Args.length:Int)
 hi:(i.Args.length:Int)<=(Lt.Of i.Op).1.Most
 none:i.Op≠31/\i.Op≠34->i.Frames=[]/\i.Objs=[]
variable{i:Lt.Instr}
theorem ii(h:Lt.instr i=true):InstrOk i:=by
 unfold Lt.instr at h;simp only[ai9,decide_eq_true_eq,beq_iff_eq,ajY,Bool.and_eq_false_iff]at h;obtain⟨⟨⟨⟨⟨⟨h1,h2⟩,h3⟩,h4⟩,h5⟩,⟨⟨⟨h6,h7⟩,h8⟩,h9⟩,b⟩,d⟩:=h;have hm:=Zb i.Op
 have a:(∀f∈i.Frames,Lt.frame f=true)/\(∀o∈i.Objs,Lt.virt o=true):=by
  grind
 refine⟨by omega,h9,b,a.1,a.2,fun c=>?_,h8,h1,h2,h3,fun hd=>?_,fun hd=>?_,h6,h7,fun c=>?_⟩
 ·have:=Va c
  omega
 all_goals grind
theorem zU{f:Lt.Frame}(h:Lt.frame f=true):Lt.Name f.Func=true/\Lt.Name f.Block=true/\0<=f.At/\f.At<=1024/\f.Vars.length<=16/\∀b∈f.Vars,iJ b=true:=by
 grind [Lt.frame]
theorem QA{o:Lt.Virt}(h:Lt.virt o=true):Lt.Name o.Class=true/\o.Vals.length<=8/\bG o.Vals true=true:=by
 grind [Lt.virt]
theorem NU{x:Lt.Phi}(h:Lt.phi x=true):Lt.Name x.Dst=true/\x.Ins≠[]/\x.Ins.length<=256/\∀i∈x.Ins,ox i=true:=by
 grind [Lt.phi]
theorem zi{b:Lt.Block}(h:Lt.block b=true):Lt.Name b.Name=true/\eY b.End=true/\(∀x∈b.Phis,Lt.phi x=true)/\∀i∈b.Code,Lt.instr i=true:=by
 grind [Lt.block]
def longs(l:List Lt.Block):Nat:=(l.map fun b=>b.Phis.length+b.Code.length).sum
theorem CX:∀(l:List Lt.Block)(n:Nat),n<=1024->Lt.blocks l n=true->n+longs l<=1024/\∀b∈l,Lt.block b=true
 |[],n,hn,_=>⟨by grind [longs],by simp⟩
 |b::r,n,hn,h=>by
  simp only[Lt.blocks,ai9,decide_eq_true_eq]at h;obtain⟨⟨h1,h2⟩,h3⟩:=h;obtain⟨k1,k2⟩:=CX r _ h1 h3
  grind [longs]
structure FuncOk (f:Lt.Func):Prop where
 name:Lt.Name f.Name=true
 res:Lt.kind f.Result=true
 params:Lt.typed f.Params 6=true
 vars:Lt.typed f.Vars 1024=true
 ne:f.Blocks≠[]
 len:f.Blocks.length<=256
 long:longs f.Blocks<=1024
 bl:∀b∈f.Blocks,Lt.block b=true
theorem yd{f:Lt.Func}(h:aG f=true):FuncOk f:=by
 unfold aG at h;simp only[ai9,decide_eq_true_eq,ajY,decide_eq_false_iff_not]at h;obtain⟨⟨⟨⟨⟨⟨h1,h2⟩,h3⟩,h4⟩,h5⟩,h6⟩,h7⟩:=h;obtain⟨k1,k2⟩:=CX _ 0 kQ1 h7;exact⟨h1,h2,h3,h4,h5,h6,by omega,k2⟩
structure ProgOk (p:Lt.Program):Prop where
 nc:p.Classes.length<=8
 ne:p.Externs.length<=8
 nf:p.Funcs.length<=8
 glob:Lt.typed p.Globals 8=true
 cl:∀c∈p.Classes,cO c=true
 ex:∀x∈p.Externs,cK x=true
 fn:∀f∈p.Funcs,aG f=true
theorem Fx{p:Lt.Program}(h:aX p=true):ProgOk p:=by
 unfold aX at h;simp only[ai9,decide_eq_true_eq,ajM]at h;obtain⟨⟨⟨⟨h1,h2⟩,h3⟩,h4⟩,h5,h6,h7⟩:=h;exact⟨h1,h2,h3,h4,h5,h6,h7⟩
variable{a:Lt.Arg}
theorem gn(h:bD a=true):(a.Kind=1/\Lt.Name a.S=true/\a.N=0)\/(a.Kind=2/\a.S=[])\/(a.Kind=3/\a.S=[]/\Lt.Plain a.N=a.N)\/(a.Kind=4/\a.S=[]/\a.N=0)\/(a.Kind=5/\a.S=[]/\0<=a.N/\a.N<=999):=by
 grind (splits:=20) [bD]
theorem TT[Inhabited α][DecidableEq α](a b:List α)(hl:a.length<=LEN)(c:a.length=b.length)(rest:Bool)(KK:Bool->Prop)(body:(Int->Prop)->Int->Prop)
  (hs:∀R i,i<a.length->(a.getD i default=b.getD i default->R (i64.wrap ((i:Int)+1)))->(a.getD i default≠b.getD i default->KK false)->body R (i:Int))
  (d:∀R,KK rest->body R (a.length:Int)) (h:KK (decide (a=b)&&rest)):ab body 0:=by
 refine au body a.length (fun i x=>x=(i:Int)/\KK (decide (a.drop i=b.drop i)&&rest)) (fun R i x hi hx ih=>?_) (fun R x hx=>?_) _ ⟨rfl,by grind⟩
 all_goals grind [ajT,ae,LEN,List.cons.injEq]
theorem cy[Inhabited α][DecidableEq α](a b:List α)(c:a.length=b.length)(rest:Bool)(KK:Bool->Prop)(body:(Int->Prop)->Int->Prop)
  (hs:∀R i,a.length<=LEN->i<a.length->(a.getD i default=b.getD i default->R (i64.wrap ((i:Int)+1)))->(a.getD i default≠b.getD i default->KK false)->body R (i:Int))
  (d:∀R,KK rest->body R (a.length:Int)) (h:KK (decide (a=b)&&rest)):ab (fun R v=>a.length<=4611686018427387904->body R v) 0:=by
 by_cases hl:a.length<=LEN
 ·exact TT a b hl c rest KK _ (fun R i hi h1 h2 _=>hs R i hl hi h1 h2) (fun R h _=>d R h) h
 exact⟨1,fun h=>absurd h hl⟩
theorem afJ(x y:Lt.Var):(decide (x.Name=y.Name)&&decide (x.Type_=y.Type_))=decide (x=y):=by
 obtain⟨a,b⟩:=x;obtain⟨c,d⟩:=y
 grind
theorem ED(x y:Lt.Arg):(decide (x.Kind=y.Kind)&&(decide (x.S=y.S)&&decide (x.N=y.N)))=decide (x=y):=by
 obtain⟨a,b,c⟩:=x;obtain⟨d,e,f⟩:=y
 grind
theorem aaF(x y:Lt.Bind):(decide (x.Name=y.Name)&&(decide (x.A.Kind=y.A.Kind)&&(decide (x.A.S=y.A.S)&&decide (x.A.N=y.A.N))))=decide (x=y):=by
 rw[ED];obtain⟨a,b⟩:=x;obtain⟨c,d⟩:=y
 grind
theorem ahH(x y:Lt.In):(decide (x.Block=y.Block)&&(decide (x.A.Kind=y.A.Kind)&&(decide (x.A.S=y.A.S)&&decide (x.A.N=y.A.N))))=decide (x=y):=by
 rw[ED];obtain⟨a,b⟩:=x;obtain⟨c,d⟩:=y
 grind
theorem Sm(x y:Lt.Extern):(decide (x.Name=y.Name)&&decide (x.N=y.N))=decide (x=y):=by
 obtain⟨a,b⟩:=x;obtain⟨c,d⟩:=y
 grind
theorem ob2{a:List α}{b:List β}{i:Nat}(h:i<a.length)(e:a.length=b.length):(0:Int)<=(i:Int)/\i<b.length:=⟨ajE i,by omega⟩
theorem E0(a b:List Lt.Var)(KK:Bool->Prop)(h:KK (ju a b)):yL a b KK:=by
 unfold yL;(try simp only[ac,am,aq,jval,bor,band,bnand,bimp,and_self]);intro _ _;unfold ju at h;refine ifk (fun hc=>kk h (by grind)) (fun hc=>?_);have c:a.length=b.length:=by grind
 refine cy a b c true KK _ (fun R i hl hi ih d=>?_) (fun R h=>?_) (kk h (by simp))
 all_goals grind [afJ]
theorem EZ(a b:List Lt.Arg)(KK:Bool->Prop)(h:KK (qh a b)):yK a b KK:=by
 unfold yK;(try simp only[ac,am,aq,jval,bor,band,bnand,bimp,and_self]);intro _ _;unfold qh at h;refine ifk (fun hc=>kk h (by grind)) (fun hc=>?_);have c:a.length=b.length:=by grind
 refine cy a b c true KK _ (fun R i hl hi ih d=>?_) (fun R h=>?_) (kk h (by simp))
 all_goals grind [ED]
theorem BR(a b:Lt.Instr)(KK:Bool->Prop)(h:KK (qF a b)):wM a b KK:=by
 unfold wM;dsimp only;(try simp only[ac,am,aq,jval,bor,band,bnand,bimp,and_self]);unfold qF at h;unfold qh;refine ifk (fun hc=>kk h (by grind)) (fun hc=>?_);simp only[akD,ajY,decide_eq_false_iff_not,not_or,ajV,decide_eq_true_eq,Classical.not_not]at hc;obtain⟨h1,h2,h3,h4,h5,h6⟩:=hc;have e:decide (a=b)=(decide (a.Frames=b.Frames)&&(decide (a.Objs=b.Objs)&&true)):=by
  obtain⟨v,z,a3,a4,a5,t⟩:=a;obtain⟨b1,b2,b3,s,u,b6⟩:=b
  grind
 rw[e]at h;have f:a.Frames.length=b.Frames.length:=by omega
 have c:a.Objs.length=b.Objs.length:=by omega
 refine cy a.Frames b.Frames f _ KK _ (fun R i hl hi ih d=>?_) (fun R h=>?_) h
 ·simp only[aP hi,if_true,Int.toNat_natCast]
  try dsimp +instances only [Int.toNat_natCast]
  refine⟨⟨ajE i,hi⟩,ob2 hi f,?_⟩;generalize a.Frames.getD i default=x at ih d⊢;generalize b.Frames.getD i default=y at ih d⊢;refine ifk (fun hc=>d (by grind)) (fun hc=>?_);have g:x.Vars.length=y.Vars.length:=by grind
  refine cy x.Vars y.Vars g true (fun b=>if b then R (i64.wrap ((i:Int)+1))else KK false) _ (fun l j hl hj m k=>?_) (fun l h=>?_) ?_
  ·grind [aaF]
  ·grind
  refine ifk (fun hv=>ih ?_) (fun hv=>d ?_)
  ·obtain⟨n,o,w,r⟩:=x;simp_all
  grind
 simp only[kZ,ajC,if_false];refine cy a.Objs b.Objs c _ KK _ (fun R i hl hi ih d=>?_) (fun R h=>?_) h
 ·simp only[aP hi,if_true,Int.toNat_natCast]
  try dsimp +instances only [Int.toNat_natCast]
  refine⟨⟨ajE i,hi⟩,ob2 hi c,?_⟩;have o1:(0:Int)<=(i:Int)/\i<a.Objs.length:=⟨ajE i,hi⟩
  have o2:=ob2 hi c
  simp only[o1,o2,and_self,true_and];(try simp only[ac,am,aq,jval,bor,band,bnand,bimp,and_self]);generalize a.Objs.getD i default=x at ih d⊢;generalize b.Objs.getD i default=y at ih d⊢;obtain⟨n,o⟩:=x;obtain⟨q,p⟩:=y
  grind
 grind
theorem BV(a b:Lt.Block)(KK:Bool->Prop)(h:KK (rv a b)):wQ a b KK:=by
 unfold wQ;dsimp only;(try simp only[ac,am,aq,jval,bor,band,bnand,bimp,and_self]);unfold rv at h;rw[ED];refine ifk (fun hc=>kk h (by grind)) (fun hc=>?_);simp only[akD,ajY,decide_eq_false_iff_not,not_or,ajV,decide_eq_true_eq,Classical.not_not]at hc;obtain⟨h1,h2,h3,h4,h5,h6,h7⟩:=hc;have e:decide (a=b)=(decide (a.End.To=b.End.To)&&(decide (a.Phis=b.Phis)&&(decide (a.Code=b.Code)&&true))):=by
  obtain⟨v,z,a3,⟨a4,a5,r,q⟩⟩:=a;obtain⟨b1,b2,b3,⟨A,u,b6,s⟩⟩:=b
  grind
 rw[e]at h;have f:a.End.To.length=b.End.To.length:=by omega
 have c:a.Phis.length=b.Phis.length:=by omega
 have k:a.Code.length=b.Code.length:=by omega
 refine cy a.End.To b.End.To f _ KK _ (fun R i hl hi ih d=>?_) (fun R h=>?_) h
 ·grind
 simp only[kZ,ajC,if_false];refine cy a.Phis b.Phis c _ KK _ (fun R i hl hi ih d=>?_) (fun R h=>?_) h
 ·simp only[aP hi,if_true,Int.toNat_natCast]
  try dsimp +instances only [Int.toNat_natCast]
  have o1:(0:Int)<=(i:Int)/\i<a.Phis.length:=⟨ajE i,hi⟩
  have o2:=ob2 hi c
  simp only[o1,o2,and_self,true_and];(try simp only[ac,am,aq,jval,bor,band,bnand,bimp,and_self]);generalize a.Phis.getD i default=x at ih d⊢;generalize b.Phis.getD i default=y at ih d⊢;obtain⟨w,l⟩:=x;obtain⟨t,m⟩:=y;dsimp only;refine ifk (fun hc=>d (by grind)) (fun hc=>?_);have g:l.length=m.length:=by grind
  refine cy l m g true (fun b=>if b then R (i64.wrap ((i:Int)+1))else KK false) _ (fun n j hl hj o p=>?_) (fun n h=>?_) ?_
  all_goals simp_all[ahH]
 simp only[kZ,ajC,if_false];refine cy a.Code b.Code k _ KK _ (fun R i hl hi ih d=>?_) (fun R h=>?_) h
 all_goals grind [qF]
theorem EP(a b:Lt.Func)(KK:Bool->Prop)(h:KK (tQ a b)):yC a b KK:=by
 unfold yC;dsimp only;(try simp only[ac,am,aq,jval,bor,band,bnand,bimp,and_self]);unfold tQ at h;unfold ju;refine ifk (fun hc=>kk h (by grind)) (fun hc=>?_);simp only[akD,ajY,decide_eq_false_iff_not,not_or,ajV,decide_eq_true_eq,Classical.not_not]at hc;obtain⟨h1,h2,h3,h4,h5⟩:=hc;have e:decide (a=b)=(decide (a.Blocks=b.Blocks)&&true):=by
  obtain⟨o,r,a3,a4,a5⟩:=a;obtain⟨b1,b2,b3,z,n⟩:=b
  grind
 rw[e]at h;have c:a.Blocks.length=b.Blocks.length:=by omega
 refine cy a.Blocks b.Blocks c _ KK _ (fun R i hl hi ih d=>?_) (fun R h=>?_) h
 ·simp only[aP hi,if_true,Int.toNat_natCast]
  try dsimp +instances only [Int.toNat_natCast]
  refine⟨⟨ajE i,hi⟩,ob2 hi c,?_⟩;generalize a.Blocks.getD i default=x at ih d⊢;generalize b.Blocks.getD i default=y at ih d⊢;obtain⟨q,f,s,⟨w,g,v,u⟩⟩:=x;obtain⟨k,t,p,⟨j,l,m,A⟩⟩:=y
  grind [rv]
 grind
theorem W5(a b:Lt.Program)(KK:Bool->Prop)(h:KK (Lt.Same a b)):UK a b KK:=by
 unfold UK;(try simp only[ac,am,aq,jval,bor,band,bnand,bimp,and_self]);unfold Lt.Same at h;unfold ju tQ;refine ifk (fun hc=>kk h (by grind)) (fun hc=>?_);simp only[akD,ajY,decide_eq_false_iff_not,not_or,ajV,decide_eq_true_eq,Classical.not_not,beq_iff_eq]at hc;obtain⟨h1,h2,h3,h4,h5⟩:=hc;have e:decide (a=b)=(decide (a.Classes=b.Classes)&&(decide (a.Externs=b.Externs)&&(decide (a.Funcs=b.Funcs)&&true))):=by
  obtain⟨n,q,a3,a4,a5⟩:=a;obtain⟨b1,b2,b3,l,m⟩:=b
  grind
 rw[e]at h;have c:a.Classes.length=b.Classes.length:=by omega
 have g:a.Externs.length=b.Externs.length:=by omega
 have f:a.Funcs.length=b.Funcs.length:=by omega
 refine cy a.Classes b.Classes c _ KK _ (fun R i hl hi ih d=>?_) (fun R h=>?_) h
 ·simp only[aP hi,if_true,Int.toNat_natCast]
  try dsimp +instances only [Int.toNat_natCast]
  have o1:(0:Int)<=(i:Int)/\i<a.Classes.length:=⟨ajE i,hi⟩
  have o2:=ob2 hi c
  simp only[o1,o2,and_self,true_and];(try simp only[ac,am,aq,jval,bor,band,bnand,bimp,and_self]);generalize a.Classes.getD i default=x at ih d⊢;generalize b.Classes.getD i default=y at ih d⊢;obtain⟨o,p⟩:=x;obtain⟨k,j⟩:=y
  grind
 simp only[kZ,ajC,if_false];refine cy a.Externs b.Externs g _ KK _ (fun R i hl hi ih d=>?_) (fun R h=>?_) h
 ·grind [Sm]
 simp only[kZ,ajC,if_false];refine cy a.Funcs b.Funcs f _ KK _ (fun R i hl hi ih d=>?_) (fun R h=>?_) h
 all_goals grind
theorem Ac:∀(k:Nat)(x:Int)(l:a8),(rK k x l).length=k+l.length
 |0,_,_=>by simp[rK]
 |k+1,x,l=>by rw[rK,Ac k];grind
theorem uz{P:Prop}{body:(α->Prop)->α->Prop}{x:α}(h:P->ab body x):ab (fun R v=>P->body R v) x:=by
 by_cases hp:P
 ·simp_all
 exact⟨1,fun h=>absurd h hp⟩
theorem Nf(n most:Int)(KK:Int->Prop)(h:KK (cx n most)):GD n most KK:=by
 grind [GD,cx]
theorem Ta(w:a8)(KK:Bool->Prop)(h:KK (DP w)):Pe w KK:=by
 simp_all[Pe,ac,jval,DP]
theorem Nh(l:List a8)(KK:Bool->Prop)(h:KK (fy l)):GG l KK:=by
 unfold GG;refine uz (fun hl=>dv l hl cg true KK _ (fun R i hi ih a=>?_) (fun R h=>?_) (kk h (by grind [fy])))
 all_goals grind
theorem Nn(l:List a8)(KK:Bool->Prop)(h:KK (cW l)):GL l KK:=by
 unfold GL;(try simp only[ac,am,aq,jval,bor,band,bnand,bimp,and_self,ix,oO,oP]);refine fun hl=>⟨fun hc=>⟨Int.le_refl 0 |> fun _=>by decide,by grind⟩,?_⟩
 refine⟨fun _ _=>⟨by decide,by grind⟩,kk h ?_⟩
 grind [cW,fy]
theorem abA(w:a8)(KK:Int×Bool->Prop)(h:KK (Lt.sOp w)):ac7 w KK:=by
 unfold ac7;have d:gw.length=35:=rfl
 have key:∀k i,i+k=35->KK (Oh w (gw.drop i) (i:Int))->oW (fun(c:Int->Prop) a=>if decide (a<=34)then(((0:Int)<=a/\a < ((35:Nat):Int))/\a.toNat<gw.length/\if decide ((gw.getD a.toNat default)=w)then(KK (a,true))else(c (i64.wrap (a+1))))else(KK (0,false))) (k+1) (i:Int):=by
  intro k;induction k with
  |zero=>
   intro i hi h;have e:i=35:=by omega
   subst e;exact h
  |succ k ih=>
   intro i hi h;have b:i<gw.length:=by omega
   rw[ajT b]at h;have e:gw.getD i default=gw[i]:=by grind
   rw[<- e]at h;show(if decide ((i:Int)<=34)then _ else _)
   grind (splits:=20) [Int.toNat_natCast,Oh,ae]
 exact⟨35,key 34 1 rfl h⟩
theorem zT(f:β->α->β)(b:β)(l:List α)(x:α):(l++[x]).foldl f b=f (l.foldl f b) x:=by simp
theorem Tn(s:a8)(i:Nat)(hi:i<s.length)(a:i < 30) :
  (if s.getD 0 0=45 then((s.take (i+1)).drop 1).foldl js 0 else(s.take (i+1)).foldl js 0) =
  (if i=0/\s.getD 0 0=45 then(if s.getD 0 0=45 then((s.take i).drop 1).foldl js 0 else(s.take i).foldl js 0)
   else js (if s.getD 0 0=45 then((s.take i).drop 1).foldl js 0 else(s.take i).foldl js 0) (s.getD i 0)):=by
 grind [ba]
theorem Aa(n:Int):Lt.inR (xr n):=by
 have:=wf_wrap (k:=.i64) n
 simp only[Lit.wf,ai9,decide_eq_true_eq]at this;have h1:i64.min=-9223372036854775808:=by decide
 have h2:i64.max=9223372036854775807:=by decide
 grind [Lt.inR,xr]
theorem Xg(s:a8)(KK:Int×Bool->Prop)(h:KK (eQ s)):UY s KK:=by
 unfold UY;(try simp only[ac,am,aq,jval,bor,band,bnand,bimp,and_self,ix,oO,oP]);refine uz (fun hl=>?_);have hb:∀c:UInt8,decide ((((c.toNat:Nat):Int))=(((45:UInt8).toNat:Nat):Int))=decide (c=45):=fun c=>by
  by_cases hc:c=45
  ·simp_all
  have:c.toNat≠(45:UInt8).toNat:=fun e=>hc (UInt8.toNat_inj.1 e)
  grind
 simp only[hb];obtain⟨g,f,j,l⟩:∃g:Nat->Int,g 0=0/\(∀i,i<s.length->i < 30->g (i+1)=if i=0/\s.getD 0 0=45 then g i else js (g i) (s.getD i 0))/\g (min s.length 30)=DQ s:=by
  refine⟨fun i=>if s.getD 0 0=45 then((s.take i).drop 1).foldl js 0 else(s.take i).foldl js 0,by simp,fun i h1 h2=>Tn s i h1 h2,?_⟩;have e:s.take (min s.length 30)=s.take 30:=by
   grind
  simp only[e];rfl
 refine Ji (min s.length 30) (by grind [LEN]) g _ (fun R i hi m=>?_) (fun R=>?_) f
 ·have h1:i<s.length:=by omega
  have h2:i < 30:=by omega
  have e:=j i h1 h2
  have a:decide ((i:Int) < 30)=true:=by grind
  have d:decide ((i:Int)=0)=decide (i=0):=by simp
  simp only[aP h1,if_true,aj3,a,Int.toNat_natCast,d]
  grind [js]
 have b:(decide (((min s.length 30:Nat):Int) < (s.length:Int))&&decide (((min s.length 30:Nat):Int) < 30))=false:=by
  grind
 simp only[b,ajC,if_false];refine⟨fun h=>h.elim,fun h=>h.elim,fun _=>⟨fun hc=>⟨by decide,by grind⟩,?_⟩⟩;have k:(if decide (0 < (s.length:Int))&&decide (s.getD 0 0=45)then IntKind.u64.wrap (0-g (min s.length 30))else g (min s.length 30))=(if s.getD 0 0=45 then IntKind.u64.wrap (0-DQ s)else DQ s):=by
  grind
 rw[k];refine⟨Aa _,?_⟩
 grind [eQ,KV]
theorem Mv(s:a8){i:Nat}(h:i+2<s.length):(s.drop 2).take (i+1)=(s.drop 2).take i++[s.getD (i+2) 0]:=by
 grind [ba]
theorem Xf(s:a8)(KK:Int×Bool->Prop)(h:KK (Bi s)):UX s KK:=by
 unfold UX;(try simp only[ac,am,aq,jval,bor,band,bnand,bimp,and_self,ix,oO,oP]);refine fun hl=>ifk (fun hc=>?_) (fun hc=>?_)
 ·grind [Bi]
 have a:s.length=18:=by grind
 refine au _ 16 (fun i x=>x=(((s.drop 2).take i).foldl Bj 0,((i+2:Nat):Int))) (fun R i x hi hx b=>?_) (fun R x hx=>?_) _ rfl
 ·subst hx;have h1:i+2<s.length:=by omega
  have e:=Mv s h1
  have hc:(decide (((i+2:Nat):Int) < 18))=true:=by grind
  simp only[hc,if_true,Int.toNat_natCast];refine⟨fun _=>⟨ajE _,h1⟩,fun _=>by decide,?_⟩;refine b _ ?_;rw[e,zT,ae kQ1]
  grind [Bj]
 grind [Bi,KT]
theorem P0:Lt.inR 0:=by grind [Lt.inR]
theorem P1(s:a8):Lt.inR (eQ s).1:=by
 unfold eQ;split
 ·exact Aa _
 exact P0
theorem aaU(s:a8):Lt.inR (Bi s).1:=by
 unfold Bi;split
 ·exact Aa _
 exact P0
theorem ahX(c w:Bool)(A B:Prop):(if c then(if w then A else B)else B)=(if c&&w then A else B):=by
 grind
theorem Xe(s:a8)(KK:Lt.Arg×Bool->Prop)(h:KK (Lt.dC s)):UW s KK:=by
 have hp:∀k n,Lt.inR n->fp ⟨k,[],n⟩:=fun _ _ h=>h
 have b:fp ⟨1,s,0⟩:=P0
 have f:=hp 2 _ (P1 s)
 have n2:=hp 3 _ (aaU s)
 have c:=hp 5 _ (P1 (s.drop 1))
 have e:=hp 4 _ P0
 unfold UW;dsimp only;intro i a hl;have g:=a (s.drop 1) ?_
 ·cases s<;>grind
 have b0:((0:Int)<=0/\(0:Int) < ((5:Nat):Int))=True:=by decide
 have b1:((0:Int)<=1/\(1:Int) < ((5:Nat):Int))=True:=by decide
 have b2:((0:Int)<=2/\(2:Int) < ((5:Nat):Int))=True:=by decide
 have b3:((0:Int)<=3/\(3:Int) < ((5:Nat):Int))=True:=by decide
 have d:((0:Int)<=4/\(4:Int) < ((5:Nat):Int))=True:=by decide
 simp only[ac,am,bL,be,b0,b1,b2,b3,d,show(decide ((0:Int) < 5))=true from rfl,show(decide ((1:Int) < 5))=true from rfl,show(decide ((2:Int) < 5))=true from rfl,show(decide ((3:Int) < 5))=true from rfl,show(decide ((4:Int) < 5))=true from rfl,show(decide ((5:Int) < 5))=false from rfl,if_true,ajC,if_false,b,f,n2,c,e,true_and,ahX]
 grind [Lt.dC,rO]
theorem DK(p:α->Bool)(d:α):∀l:List α,((List.range l.length).all fun i=>p (l.getD i d))=l.all p
 |[]=>rfl
 |a::r=>by
  rw[ajK,List.range_succ_eq_map,ajJ,List.all_map];have:=DK p d r
  grind
theorem DI(i:Nat)(c:UInt8):wv i c=(Lt.letter c||(kq c&&decide (0<i))):=by
 grind [wv,Lt.letter,ut,kq]
theorem aW(s:a8):cg s=Lt.Name s:=by
 unfold cg Lt.Name Lt.kept;cases s with
 |nil=>rfl
 |cons a r=>
  rw[ajK,List.range_succ_eq_map,ajJ,List.all_map];have e:((List.range r.length).all ((fun i=>wv i ((a::r).getD i 0)) ∘ Nat.succ))=r.all ik:=by
   rw[<- DK ik 0 r]
   grind [DI,ik]
  grind [DI,ik]
theorem XB(x:Nat):(9218868437227405312<x % 9223372036854775808) ↔ ((x &&& 9218868437227405312)=9218868437227405312/\(x &&& 4503599627370495)≠0):=by
 have a:x &&& 4503599627370495=x % 2 ^ 52:=akW x 52
 have d:x &&& 9223372036854775807=x % 2 ^ 63:=akW x 63
 have b:(x &&& 9218868437227405312) % 2 ^ 52=0:=by
  rw[<- akW,Nat.and_assoc]
  grind
 have c:x &&& 9223372036854775807=(x &&& 9218868437227405312) ||| (x &&& 4503599627370495):=by
  rw[<- Nat.and_or_distrib_left];rfl
 obtain⟨q,hq⟩:∃q,x &&& 9218868437227405312=2 ^ 52*q:=⟨_,(Nat.mul_div_cancel' (Nat.dvd_of_mod_eq_zero b)).symm⟩
 have h:=Nat.and_le_right (n:=x) (m:=9218868437227405312)
 rw[hq,a,<- Nat.two_pow_add_eq_or_of_lt (alL _ (by decide))]at c;omega
theorem nL(n:Int):IntKind.u64.wrap n=(((BitVec.ofInt 64 n).toNat:Nat):Int):=by
 grind [BitVec.toNat_ofInt,IntKind.wrap,IntKind.signed,IntKind.bits]
theorem AS(n:Int):dI n=Lt.Plain n:=by
 unfold dI FB Lt.Plain;have a:i64.bits=64:=rfl
 rw[nL,a,BitVec.toNat_and,BitVec.toNat_and];generalize(BitVec.ofInt 64 n).toNat=x;have b:(BitVec.ofInt 64 9218868437227405312).toNat=9218868437227405312:=by decide
 have c:(BitVec.ofInt 64 4503599627370495).toNat=4503599627370495:=by decide
 rw[b,c];have h1:=Nat.and_le_right (n:=x) (m:=9218868437227405312)
 have h2:=Nat.and_le_right (n:=x) (m:=4503599627370495)
 have:=XB x
 grind [cz]
def SC:a8:=[48,49,50,51,52,53,54,55,56,57,97,98,99,100,101,102]
def vX(k:Nat):UInt8:=SC.getD (k % 16) 0
theorem PZ(k:Nat):WT (k:Int)=vX k:=by
 unfold WT vX;have e:Int.tmod (k:Int) 16=((k % 16:Nat):Int):=rfl
 rw[e];have h:k % 16 < 16:=alL _ (by decide)
 generalize k % 16=j at h;have:∀j:Fin 16,UInt8.ofNat (IntKind.u8.wrap ((IntKind.u8.wrap ((j.1:Nat):Int))+(if IntKind.u8.wrap ((j.1:Nat):Int) < 10 then 48 else 87))).toNat=SC.getD j.1 0:=by decide
 exact this ⟨j,h⟩
theorem EJ:∀(k m:Nat)(l:a8),m < 18446744073709551616->rK k (m:Int) l=((List.range k).map fun i=>vX (m / 16 ^ (k - 1-i)))++l
 |0,m,l,_=>rfl
 |k+1,m,l,h=>by
  rw[rK,show Int.tdiv (m:Int) 16=((m / 16:Nat):Int)from rfl,dZ kQ1,EJ k (m / 16) _ kQ1,PZ,List.range_succ,List.map_append];have e:(List.range k).map (fun i=>vX (m / 16 / 16 ^ (k - 1-i)))=(List.range k).map (fun i=>vX (m / 16 ^ (k+1 - 1-i))):=by
   refine ajN (fun i hi=>?_);have hi:i<k:=List.mem_range.1 hi
   rw[Nat.div_div_eq_div_mul,show k+1 - 1-i=(k - 1-i)+1 by omega,Nat.pow_succ,Nat.mul_comm 16]
  grind
theorem WS(u:Int)(s:Nat)(hs:s<=60):WR u (s:Int)=vX ((BitVec.ofInt 64 u).toNat / 2 ^ s):=by
 unfold WR;have b:IntKind.u64.bits=64:=rfl
 rw[nL u,dZ (n:=s) kQ1,b,Int.toNat_natCast,Nat.min_eq_left kQ1];have hx:=(BitVec.ofInt 64 u).isLt
 generalize(BitVec.ofInt 64 u).toNat=x at hx⊢;have e:Int.fdiv (x:Int) (2 ^ s)=((x / 2 ^ s:Nat):Int):=by
  grind
 have d:x / 2 ^ s < 18446744073709551616:=Nat.lt_of_le_of_lt (Nat.div_le_self _ _) hx
 have a:(BitVec.ofInt 64 15).toNat=15:=by decide
 have f:(BitVec.ofInt 64 ((x / 2 ^ s:Nat):Int)).toNat=x / 2 ^ s:=by
  grind [BitVec.toNat_ofInt]
 rw[e,BitVec.toNat_and,a,f];have c:(x / 2 ^ s &&& 15:Nat)=x / 2 ^ s % 16:=akW _ 4
 rw[c,dZ kQ1,Int.toNat_natCast];rfl
theorem MB(n:Int):qd n=ic n:=by
 unfold qd ic;rw[AS,nL,EJ 16 _ _ (BitVec.isLt _),List.append_nil]
 congr 1
 refine ajN (fun i hi=>?_);have hi:i < 16:=List.mem_range.1 hi
 have e:(60:Int) - 4*(i:Int)=((60 - 4*i:Nat):Int):=by omega
 rw[e,WS _ _ kQ1];rw[show 60 - 4*i=4*(16 - 1-i)by omega,Nat.pow_mul]
theorem Bb(a:Lt.Arg):jI a=bD a:=by
 grind [jI,bD,aW,AS,decide]
theorem rF(a:Lt.Arg):bt a=ay a:=by
 grind [bt,ay,jH,Bb,MB,gn]
theorem sY(op:Int):(Lt.rOf op).2=(Lt.Of op).2/\(Lt.rOf op).1.Word=(Lt.Of op).1.Word/\(Lt.rOf op).1.Dst=(Lt.Of op).1.Dst/\(Lt.rOf op).1.Named=(Lt.Of op).1.Named/\(Lt.rOf op).1.Least=(Lt.Of op).1.Least/\(Lt.rOf op).1.Most=(Lt.Of op).1.Most:=by
 by_cases h:1<=op/\op<=34
 ·obtain⟨k,rfl⟩:=aj8 (show 0<=op by omega);have hk:k < 35:=by omega
  have:∀k:Fin 35,1<=k.1->(Lt.rOf (k.1:Int)).2=(Lt.Of (k.1:Int)).2/\(Lt.rOf (k.1:Int)).1.Word=(Lt.Of (k.1:Int)).1.Word/\(Lt.rOf (k.1:Int)).1.Dst=(Lt.Of (k.1:Int)).1.Dst/\(Lt.rOf (k.1:Int)).1.Named=(Lt.Of (k.1:Int)).1.Named/\(Lt.rOf (k.1:Int)).1.Least=(Lt.Of (k.1:Int)).1.Least/\(Lt.rOf (k.1:Int)).1.Most=(Lt.Of (k.1:Int)).1.Most:=by decide +kernel
  exact this ⟨k,hk⟩ (by grind)
 grind (splits:=20) [Lt.rOf,Lt.Of]
theorem zJ:∀(n:Nat),∀c∈Lt.digs n,48<=c.toNat/\c.toNat<=57:=by
 intro n;induction n using Nat.strongRecOn with
 |_ n ih=>
  have hd:∀k:Nat,k < 10->(UInt8.ofNat (48+k)).toNat=48+k:=fun k hk=>by simp;omega
  by_cases h:n < 10
  all_goals grind [iM,pC]
theorem PP(n:Nat):Lt.digs n≠[]:=by
 by_cases h:n < 10
 all_goals simp_all[iM,pC]
theorem P8{m:Nat}{c:UInt8}(h1:48<=c.toNat)(h2:c.toNat<=57)(h3:10*m+(c.toNat - 48) < 18446744073709551616):js (m:Int) c=((10*m+(c.toNat - 48):Nat):Int):=by
 grind [js,IntKind.wrap,IntKind.signed,IntKind.bits]
theorem Sf:∀(n:Nat),n < 18446744073709551616->(Lt.digs n).foldl js 0=(n:Int):=by
 intro n;induction n using Nat.strongRecOn with
 |_ n ih=>
  intro hn;have hd:∀k:Nat,k < 10->(UInt8.ofNat (48+k)).toNat=48+k:=fun k hk=>by simp;omega
  by_cases h:n < 10
  ·rw[iM h];show js ((0:Nat):Int) _=_
   rw[P8 (by grind) (by grind) (by grind),hd n h];omega
  rw[pC h,zT,ih (n / 10) kQ1 kQ1];have:=alL n (show 10 > 0 by decide)
  rw[P8 (by grind) (by grind) (by grind),hd _ this];omega
theorem XF{n:Int}(h:Lt.inR n):KV (bf n)=n:=by
 have hl:=sQ h
 unfold Lt.inR at h;have b:=PP n.natAbs
 have a:=zJ n.natAbs
 have hf:=Sf n.natAbs kQ1
 unfold KV DQ xr;rw[akZ (show(bf n).length<=30 by omega)];by_cases hn:n < 0
 ·grind [bf,IntKind.wrap,IntKind.signed,IntKind.bits]
 have e:bf n=Lt.digs n.natAbs:=by grind [bf]
 rw[e];have c:¬ (Lt.digs n.natAbs).getD 0 0=45:=by
  intro e;cases d:Lt.digs n.natAbs<;>simp_all
 grind [IntKind.wrap,IntKind.bits]
theorem qg{n:Int}(h:Lt.inR n):eQ (bf n)=(n,true):=by
 grind [eQ,XF,jH]
theorem ma(n:Int):∀c∈bf n,c=45\/(48<=c.toNat/\c.toNat<=57):=by
 grind [bf,zJ]
theorem Tp(n:Int):bf n≠[]:=by
 grind [bf,PP]
theorem WU(k:Nat):(if 97<=(IntKind.u64.wrap (((vX k).toNat:Nat):Int))then IntKind.u64.wrap ((IntKind.u64.wrap (((vX k).toNat:Nat):Int)) - 87)else IntKind.u64.wrap ((IntKind.u64.wrap (((vX k).toNat:Nat):Int)) - 48))=((k % 16:Nat):Int):=by
 unfold vX;have h:k % 16 < 16:=alL _ (by decide)
 generalize k % 16=j at h;have:∀j:Fin 16,(if 97<=(IntKind.u64.wrap (((SC.getD j.1 0).toNat:Nat):Int))then IntKind.u64.wrap ((IntKind.u64.wrap (((SC.getD j.1 0).toNat:Nat):Int)) - 87)else IntKind.u64.wrap ((IntKind.u64.wrap (((SC.getD j.1 0).toNat:Nat):Int)) - 48))=((j.1:Nat):Int):=by decide
 exact this ⟨j,h⟩
theorem aaL{u k:Nat}(h:16*u+15 < 18446744073709551616):Bj (u:Int) (vX k)=((16*u+k % 16:Nat):Int):=by
 unfold Bj;rw[WU];have e:Int.tmod ((k % 16:Nat):Int) 16=((k % 16:Nat):Int):=by
  grind
 rw[e];have a:=alL k (show 16 > 0 by decide)
 rw[show((u:Nat):Int)*16=((16*u:Nat):Int)by omega,dZ kQ1,show((16*u:Nat):Int)+((k % 16:Nat):Int)=((16*u+k % 16:Nat):Int)by omega,dZ kQ1]
theorem Dk:∀(k m:Nat)(l:a8),m < 18446744073709551616->k<=16->(rK k (m:Int) l).foldl Bj 0=l.foldl Bj ((m % 16 ^ k:Nat):Int)
 |0,m,l,_,_=>by grind [rK]
 |k+1,m,l,h,hk=>by
  rw[rK,show Int.tdiv (m:Int) 16=((m / 16:Nat):Int)from rfl,dZ kQ1,Dk k (m / 16) _ kQ1 kQ1,PZ,alI];have hp:16 ^ k<=16 ^ 15:=Nat.pow_le_pow_right (by decide) kQ1
  have hm:=alL (m / 16) (show 16 ^ k > 0 from Nat.pow_pos (by decide))
  have a:(16:Nat) ^ 15=1152921504606846976:=by decide
  rw[aaL kQ1]
  congr 2
  grind [Nat.mod_mul]
theorem Ty{n:Int}(h:Lt.inR n):Lt.inR (dI n):=by
 grind [dI,Lt.inR]
theorem WE{n:Int}(h:Lt.inR n):KT (qd n)=dI n:=by
 have hp:=Ty h
 unfold Lt.inR at hp;unfold KT qd;have hx:IntKind.u64.wrap (dI n)=(((IntKind.u64.wrap (dI n)).toNat:Nat):Int):=by
  rw[nL];rfl
 have a:(IntKind.u64.wrap (dI n)).toNat < 18446744073709551616:=by
  rw[nL];omega
 have hl:=Ac 16 (IntKind.u64.wrap (dI n)) []
 have b:([48,102]++rK 16 (IntKind.u64.wrap (dI n)) []).drop 2=rK 16 (IntKind.u64.wrap (dI n)) []:=rfl
 rw[b,akZ (by grind),hx,Dk 16 _ _ a kQ1]
 grind [IntKind.wrap,IntKind.signed,IntKind.bits]
theorem Yg(n:Int):(qd n).length=18:=by rfl
theorem N7(n:Int):qd (dI n)=qd n:=by
 grind [qd,dI]
theorem Yr{n:Int}(h:Lt.inR n):Bi (qd n)=(dI n,true):=by
 grind [Bi,WE,Yg,N7]
theorem ls(s:a8)(a:Lt.Arg):rO s a=true ↔ bD a=true/\ay a=s:=by
 grind [rO,Bb,rF]
theorem sP{a:UInt8}{r:a8}(h:Lt.Name (a::r)=true):Lt.letter a=true:=by
 grind [Lt.Name]
theorem Fi(n:Int):Lt.Name (bf n)=false:=by
 cases b:bf n with
 |nil=>rfl
 |cons a r=>
  have hb:=ma n a (by grind)
  cases hN:Lt.Name (a::r)with
  |false=>rfl
  |true=>
   exfalso
   have:=sP hN
   unfold Lt.letter ut at this;rcases hb with rfl|hb
   all_goals grind
theorem QB{n:Int}:ay ⟨2,[],n⟩=bf n:=by rfl
theorem QC{n:Int}(h:Lt.Plain n=n):ay ⟨3,[],n⟩=ic n:=by simp[ay,bD,h]
theorem ad6:ay ⟨4,[],0⟩=[110,117,108,108]:=by decide
theorem YO{n:Int}(h0:0<=n)(h1:n<=999):ay ⟨5,[],n⟩=35::bf n:=by grind [ay,bD]
variable{s:a8}
theorem YN(h:Lt.Name s=true):ay ⟨1,s,0⟩=s:=by simp[ay,bD,h]
theorem acS(s:a8):rO s ⟨1,s,0⟩=Lt.Name s:=by
 grind [rO,Bb,rF,YN,bD]
theorem nG(h:bD a=true)(ok:a.ok):Lt.dC (ay a)=(a,true):=by
 obtain⟨k,s,n⟩:=a;have ok:Lt.inR n:=ok
 rcases gn h with⟨hk,hN,hn⟩|⟨hk,hs⟩|⟨hk,hs,hp⟩|⟨hk,hs,hn⟩|⟨hk,hs,h0,h1⟩
 ·grind [YN,Lt.dC,acS]
 ·grind [QB,Lt.dC,acS,Fi,qg,ls]
 ·simp only at hk hs hp;subst hk;subst hs
  rw[QC hp];have e:ic n=48::102::(ic n).drop 2:=rfl
  have hN:Lt.Name (ic n)=false:=by
   cases hN:Lt.Name (ic n)with
   |false=>rfl
   |true=>rw[e]at hN;have:=sP hN;revert this;decide
  have h2:∀m,rO (ic n) ⟨2,[],m⟩=false:=by
   intro m;cases b:rO (ic n) ⟨2,[],m⟩with
   |false=>rfl
   |true=>
    have:=((ls _ _).1 b).2
    rw[QB]at this;have hb:=ma m 102 (by grind)
    grind
  unfold Lt.dC;rw[acS,hN,h2,if_neg (by decide),if_neg (by decide)];have c:(Bi (ic n)).1=n:=by rw[<- MB,Yr ok,AS];exact hp
  grind [ls,QC]
 ·simp only at hk hs hn;subst hk;subst hs;subst hn
  decide +kernel
 simp only at hk hs h0 h1;subst hk;subst hs
 rw[YO h0 h1];have hN:Lt.Name (35::bf n)=false:=by
  cases hN:Lt.Name (35::bf n)with
  |false=>rfl
  |true=>have:=sP hN;revert this;decide
 have h2:∀m,rO (35::bf n) ⟨2,[],m⟩=false:=by
  intro m;cases b:rO (35::bf n) ⟨2,[],m⟩with
  |false=>rfl
  |true=>
   have:=((ls _ _).1 b).2
   rw[QB]at this;have hb:=ma m 35 (by grind)
   grind
 have h3:∀m,rO (35::bf n) ⟨3,[],m⟩=false:=by
  intro m;cases b:rO (35::bf n) ⟨3,[],m⟩with
  |false=>rfl
  |true=>
   obtain⟨hr,this⟩:=(ls _ _).1 b;rcases gn hr with h|h|h|h|h
   all_goals grind [QC,ic]
 grind [ls,ad6,Lt.dC,acS,qg,YO]
theorem wB(h:(Lt.dC s).2=true):bD (Lt.dC s).1=true/\ay (Lt.dC s).1=s:=by
 grind [Lt.dC,ls]
variable{objs:Bool}
theorem qI(h:bd objs a=true)(ok:a.ok):iA objs (ay a)=true:=by
 grind [bd,iA,nG]
theorem sv(h:iA objs s=true):bd objs (Lt.dC s).1=true:=by
 grind [iA,bd,wB]
theorem DO{l:List Lt.Arg}(h:bG l objs=true)(ok:vH l):cj (Lt.puts l) objs=(l,true):=by
 unfold bG at h;rw[ajM]at h;unfold cj Lt.puts;have h1:(l.map ay).all (iA objs)=true:=by
  rw[ajM];intro w hw;obtain⟨a,b,rfl⟩:=ajX.1 hw;exact qI (h a b) (ok a b)
 have h2:(l.map ay).map (fun w=>(Lt.dC w).1)=l:=by
  rw[akA];have:∀a∈l,((fun w=>(Lt.dC w).1) ∘ ay) a=id a:=fun a b=>by
   show(Lt.dC (ay a)).1=a
   have:=h a b
   unfold bd at this;simp only[ai9]at this;rw[nG this.1 (ok a b)]
  simp_all[ajN]
 grind
variable{l:List a8}
theorem Bh(h:(cj l objs).2=true):bG (cj l objs).1 objs=true/\(cj l objs).1.length=l.length/\Lt.puts (cj l objs).1=l:=by
 unfold cj at h⊢;split at h
 ·rename_i hc;rw[if_pos hc];rw[ajM]at hc;refine⟨?_,by simp,?_⟩
  ·grind [bG,sv]
  unfold Lt.puts;rw[akA];have:∀w∈l,(ay ∘ (fun w=>(Lt.dC w).1)) w=id w:=fun w hw=>by
   grind [iA,wB]
  simp_all[ajN]
 grind
theorem sT:∀{l:List Lt.Bind},(∀b∈l,Lt.Name b.Name=true/\bd objs b.A=true/\b.A.ok)->cm objs (l.flatMap fun b=>[b.Name,ay b.A])=some l
 |[],_=>rfl
 |b::r,h=>by
  obtain⟨h1,h2,h3⟩:=h b (by simp);have ih:=sT (l:=r) (fun x hx=>h x (by grind))
  have a:bD b.A=true:=by
   grind [bd]
  rw[akE];show cm objs (b.Name::ay b.A::(r.flatMap fun b=>[b.Name,ay b.A]))=_
  simp_all[cm,aW,qI,nG]
theorem xk:∀{l:List a8}{x:List Lt.Bind},cm objs l=some x->(∀b∈x,Lt.Name b.Name=true/\bd objs b.A=true)/\(x.flatMap fun b=>[b.Name,ay b.A])=l
 |[],x,h=>by
  grind [cm]
 |[_],x,h=>by grind [cm]
 |a::b::r,x,h=>by
  rw[cm]at h;split at h
  ·rename_i hc;rw[ai9,aW]at hc;cases hr:cm objs r with
   |none=>grind
   |some y=>
    obtain⟨k1,k2⟩:=xk hr
    grind [sv,iA,wB]
  grind
theorem Ku(w:a8):∀(l:List a8)(n m:Int),Oh w l n=(m,true)->∃i:Nat,i<l.length/\m=n+(i:Int)/\l.getD i []=w
 |[],n,m,h=>by grind [Oh]
 |x::r,n,m,h=>by
  rw[Oh]at h;split at h
  ·grind
  obtain⟨i,h1,h2,h3⟩:=Ku w r _ _ h;exact⟨i+1,by grind,by omega,by grind⟩
theorem Ys{w:a8}(h:(Lt.sOp w).2=true):(1<=(Lt.sOp w).1/\(Lt.sOp w).1<=34)/\(Lt.Of (Lt.sOp w).1).1.Word=w/\(Lt.Of (Lt.sOp w).1).2=true:=by
 have e:Lt.sOp w=((Lt.sOp w).1,true):=by grind
 obtain⟨i,h1,h2,h3⟩:=Ku w (gw.drop 1) 1 (Lt.sOp w).1 e;have hi:i < 34:=h1
 have a:=sY (Lt.sOp w).1
 grind (splits:=20) [Lt.rOf]
theorem acA(h:(Lt.Of op).2=true):Lt.sOp (Lt.Of op).1.Word=(op,true):=by
 by_cases hc:1<=op/\op<=34
 ·obtain⟨k,rfl⟩:=aj8 (show 0<=op by omega);have hk:k < 35:=by omega
  have:∀k:Fin 35,1<=k.1->Lt.sOp (Lt.Of (k.1:Int)).1.Word=((k.1:Int),true):=by decide +kernel
  exact this ⟨k,hk⟩ (by grind)
 exfalso
 rw[<- (sY op).1]at h
 grind [Lt.rOf]
theorem cY(a b:List Lt.Line):eX (a++b)=eX a++eX b:=by simp[eX]
theorem kW(w:List a8):eX [Lt.ln w]=Lt.lnT w:=by simp[eX,Lt.ln,Lt.lnT]
theorem na(f:α->List a8)(l:List α):eX (l.map fun x=>Lt.ln (f x))=l.flatMap fun x=>Lt.lnT (f x):=by
 induction l with
 |nil=>rfl
 |cons a r ih=>rw[List.map_cons,akE,<- ih,<- kW,<- cY];rfl
theorem oA(f:α->List Lt.Line)(l:List α):eX (l.flatMap f)=l.flatMap fun x=>eX (f x):=by
 induction l with
 |nil=>rfl
 |cons a r ih=>grind [cY]
theorem oc{f g:α->List β}{l:List α}(h:∀x∈l,f x=g x):l.flatMap f=l.flatMap g:=by
 induction l<;>grind
theorem TJ(h:Lt.instr i=true):jK i=Lt.words i:=by
 have e:=ii h
 obtain⟨_,c,b,d,_,_⟩:=sY i.Op;unfold jK Lt.words r7 Lt.puts;have a:bt=ay:=funext rF
 rw[c,b,d,a];by_cases hc:i.Op=26\/i.Op=27
 ·have:=e.least hc
  cases f:i.Args<;>grind
 grind
variable{t:Lt.Term}
theorem qM(h:eY t=true) :
  (∃x,t=⟨1,⟨0,[],0⟩,[x],0⟩/\Lt.Name x=true)\/(∃a x y,t=⟨2,a,[x,y],0⟩/\bd false a=true/\Lt.Name x=true/\Lt.Name y=true) \/
  (∃a,t=⟨3,a,[],0⟩/\bd false a=true)\/(∃n,t=⟨4,⟨0,[],0⟩,[],n⟩):=by
 obtain⟨k,a,b,n⟩:=t;unfold eY Dw at h;simp only[ai9,ajM]at h;obtain⟨c,h⟩:=h;split at h
 ·rename_i hk;simp only[ai9,decide_eq_true_eq]at h;obtain⟨⟨rfl,hl⟩,rfl⟩:=h;subst hk
  match b,hl with
  |[x],_=>grind
 split at h
 ·rename_i hk;simp only[ai9,decide_eq_true_eq]at h;obtain⟨⟨d,hl⟩,rfl⟩:=h;subst hk
  match b,hl with
  |[x,y],_=>grind
 split at h
 all_goals simp_all
theorem Ye(h:eY t=true):uS t=Lt.lnT (jX t):=by
 unfold uS A6 jX jH;rcases qM h with⟨x,rfl,_⟩|⟨a,x,y,rfl,_⟩|⟨a,rfl,_⟩|⟨n,rfl⟩
 all_goals simp_all[rF]
theorem ww(first:List UInt8)(l:List Lt.Var):iT first l=eX (sa first l):=(na (fun v:Lt.Var=>[first,v.Name,v.Type_]) l).symm
theorem TF(h:Lt.instr i=true):jG i=eX (rT i):=by
 have a:bt=ay:=funext rF
 unfold jG rT;rw[cY,cY,kW,na,na,TJ h];unfold fJ kQ jJ sb Lt.puts;rw[a];rfl
theorem N6{b:Lt.Block}(h:Lt.block b=true):iq b=eX (mu b):=by
 have c:bt=ay:=funext rF
 obtain⟨_,a,_,hc⟩:=zi h;unfold iq mu;rw[cY,cY,cY,kW,na,oA,kW,Ye a,oc (fun x hx=>TF (hc x hx))]
 grind [nB,Fv]
theorem TG{f:Lt.Func}(h:aG f=true):lj f=eX (pL f):=by
 have a:=yd h
 grind [lj,pL,cY,kW,oA,ww,oc,N6,FuncOk.bl]
theorem TH{p:Lt.Program}(h:aX p=true):gD p=eX (DG p):=by
 have a:=Fx h
 unfold gD DG;rw[cY,cY,cY,cY,oA,oA,<- ww,oc (fun x hx=>TG (a.fn x hx))];have b:p.Classes.flatMap ir=p.Classes.flatMap fun x=>eX (kM x):=oc (fun c _=>by
  grind [ir,kM,cY,kW,ww])
 have d:p.Externs.flatMap jr=eX (p.Externs.map ue):=(na (fun x:Lt.Extern=>[[101,120,116,101,114,110],x.Name,Lt.number x.N]) p.Externs).symm
 grind [eX,kW]
def rY(c:UInt8):Bool:=decide (33<=c.toNat)&&decide (c.toNat<=126)&&!decide (c=59)
def fh(w:a8):Prop:=w≠[]/\∀c∈w,rY c=true
def xg(x:Lt.Line):Prop:=x.Words≠[]/\∀w∈x.Words,fh w
theorem aK{w:a8}(h:(!decide (w=[])&&w.all rY)=true):fh w:=by
 simp only[ai9,ajY,decide_eq_false_iff_not,ajM]at h;exact h
theorem B6{c:UInt8}(h:ik c=true):rY c=true:=by
 unfold ik Lt.letter ut kq at h;unfold rY;simp only[akD,ai9,decide_eq_true_eq,ajY,decide_eq_false_iff_not]at h⊢;refine⟨⟨by omega,by omega⟩,?_⟩;rintro rfl
 grind
theorem bN(h:Lt.Name s=true):fh s:=by
 unfold Lt.Name at h;simp only[ai9,ajY,decide_eq_false_iff_not,ajM]at h;exact⟨h.1.1.1.1,fun c hc=>B6 (h.2 c hc)⟩
theorem Dn(h:Lt.kind s=true):fh s:=by
 unfold Lt.kind at h;simp only[akD,decide_eq_true_eq]at h;rcases h with(rfl|rfl)|h
 ·exact aK (by decide)
 ·exact aK (by decide)
 exact bN h
theorem pX(n:Int):fh (bf n):=by
 refine⟨Tp n,fun c hc=>?_⟩;rcases ma n c hc with rfl|h
 ·decide
 unfold rY;simp only[ai9,decide_eq_true_eq,ajY,decide_eq_false_iff_not];refine⟨⟨by omega,by omega⟩,?_⟩;rintro rfl
 grind
theorem SB(k:Nat):rY (vX k)=true:=by
 unfold vX;have h:k % 16 < 16:=alL _ (by decide)
 generalize k % 16=j at h;have:∀j:Fin 16,rY (SC.getD j.1 0)=true:=by decide
 exact this ⟨j,h⟩
theorem WF(n:Int):fh (ic n):=by
 refine⟨by simp[ic],fun c hc=>?_⟩;rw[<- MB]at hc;unfold qd at hc;rw[nL,EJ 16 _ _ (BitVec.isLt _),List.append_nil]at hc;rcases ajO.1 hc with hc|hc
 ·simp only[ajI,List.not_mem_nil,or_false]at hc;rcases hc with rfl|rfl<;>decide
 grind [SB]
theorem Ue(h:bD a=true):fh (ay a):=by
 obtain⟨k,s,n⟩:=a;rcases gn h with⟨hk,hN,hn⟩|⟨hk,hs⟩|⟨hk,hs,hp⟩|⟨hk,hs,hn⟩|⟨hk,hs,h0,h1⟩
 ·grind [YN,bN]
 ·grind [QB,pX]
 ·grind [QC,WF]
 ·simp only at hk hs hn;subst hk;subst hs;subst hn
  rw[ad6];exact aK (by decide)
 simp only at hk hs h0 h1;subst hk;subst hs
 rw[YO h0 h1];refine⟨by simp,fun c hc=>?_⟩;rcases ajI.1 hc with rfl|hc
 ·decide
 exact(pX n).2 c hc
theorem pu(h:bd objs a=true):fh (ay a):=by
 grind [bd,Ue]
theorem DH{l:List Lt.Arg}(h:bG l objs=true):∀w∈Lt.puts l,fh w:=by
 intro w hw;obtain⟨a,b,rfl⟩:=ajX.1 hw
 grind [bG,pu]
theorem Za(h:(Lt.Of op).2=true):fh (Lt.Of op).1.Word:=by
 by_cases hc:1<=op/\op<=34
 ·obtain⟨k,rfl⟩:=aj8 (show 0<=op by omega);have hk:k < 35:=by omega
  have:∀k:Fin 35,1<=k.1->(!decide ((Lt.Of (k.1:Int)).1.Word=[])&&(Lt.Of (k.1:Int)).1.Word.all rY)=true:=by decide +kernel
  exact aK (this ⟨k,hk⟩ (by grind))
 exfalso
 rw[<- (sY op).1]at h
 grind [Lt.rOf]
theorem aw{w:a8}(h:fh w)(hl:∀v∈l,fh v):∀v∈w::l,fh v:=by
 grind
theorem dc:∀v∈([]:List a8),fh v:=by simp
theorem pO{a b:List a8}(h:∀v∈a,fh v)(hl:∀v∈b,fh v):∀v∈a++b,fh v:=by
 grind
theorem Dj{n:α->a8}{a:α->a8}{l:List α}(h:∀x∈l,fh (n x)/\fh (a x)):∀v∈l.flatMap (fun x=>[n x,a x]),fh v:=by
 grind
theorem OF(h:Lt.instr i=true):xg (Lt.ln (Lt.words i)):=by
 have a:=ii h
 have hp:=DH a.aok
 refine⟨by simp[Lt.ln,Lt.words],?_⟩;show ∀w∈Lt.words i,fh w
 unfold Lt.words;refine pO (pO ?_ (aw (Za a.of) dc)) ?_
 ·split
  ·rename_i hd;exact aw (bN (a.dstN hd)) (aw (aK (by decide)) dc)
  grind
 grind [InstrOk.least,Lt.Of,Lt.puts,bN,InstrOk.nmN]
theorem oQ{first:List UInt8}(hf:fh first){l:List Lt.Var}{n:Int}(h:Lt.typed l n=true):∀x∈sa first l,xg x:=by
 intro x hx;obtain⟨v,hv,rfl⟩:=ajX.1 hx;unfold Lt.typed at h;simp only[ai9,ajM]at h;have:=h.2 v hv
 exact⟨by simp[Lt.ln],aw hf (aw (bN this.1) (aw (Dn this.2) dc))⟩
theorem Ms(h:Lt.instr i=true):∀x∈rT i,xg x:=by
 have a:=ii h
 unfold rT;intro x hx;rcases ajO.1 hx with hx|hx
 ·rcases ajO.1 hx with hx|hx
  ·grind [OF]
  obtain⟨f,hf,rfl⟩:=ajX.1 hx;obtain⟨h1,h2,_,_,_,h3⟩:=zU (a.fr f hf);refine⟨by simp[Lt.ln,kQ],pO (aw (aK (by decide)) (aw (bN h1) (aw (bN h2) (aw (pX _) dc)))) (Dj (fun b hb=>?_))⟩
  grind [iJ,bN,pu]
 obtain⟨o,hm,rfl⟩:=ajX.1 hx;obtain⟨h1,_,h3⟩:=QA (a.ob o hm);exact⟨by simp[Lt.ln,sb],pO (aw (aK (by decide)) (aw (bN h1) dc)) (DH h3)⟩
theorem Il{b:Lt.Block}(h:Lt.block b=true):∀x∈mu b,xg x:=by
 obtain⟨hn,c,hp,hc⟩:=zi h;unfold mu;intro x hx;rcases ajO.1 hx with hx|hx
 ·rcases ajO.1 hx with hx|hx
  ·rcases ajO.1 hx with hx|hx
   ·rw[ajQ.1 hx];exact⟨by simp[Lt.ln],aw (aK (by decide)) (aw (bN hn) dc)⟩
   obtain⟨y,hy,rfl⟩:=ajX.1 hx;obtain⟨h1,_,_,h3⟩:=NU (hp y hy);refine⟨by simp[Lt.ln,Fv],pO (aw (aK (by decide)) (aw (bN h1) dc)) (Dj (fun i hi=>?_))⟩
   grind [ox,bN,pu]
  grind [Ms]
 rw[ajQ.1 hx];generalize b.End=t at c;rcases qM c with⟨x,rfl,h1⟩|⟨a,x,y,rfl,h1,h2,h3⟩|⟨a,rfl,h1⟩|⟨n,rfl⟩
 ·exact⟨by simp[Lt.ln,jX],aw (aK (by decide)) (aw (bN h1) dc)⟩
 ·exact⟨by simp[Lt.ln,jX],aw (aK (by decide)) (aw (pu h1) (aw (bN h2) (aw (bN h3) dc)))⟩
 ·exact⟨by simp[Lt.ln,jX],aw (aK (by decide)) (aw (pu h1) dc)⟩
 exact⟨by simp[Lt.ln,jX],aw (aK (by decide)) (aw (pX _) dc)⟩
theorem MD{f:Lt.Func}(h:aG f=true):∀x∈pL f,xg x:=by
 have a:=yd h
 unfold pL;intro x hx;rcases ajO.1 hx with hx|hx
 ·rcases ajO.1 hx with hx|hx
  ·rcases ajO.1 hx with hx|hx
   ·rw[ajQ.1 hx];exact⟨by simp[Lt.ln],aw (aK (by decide)) (aw (bN a.name) (aw (Dn a.res) dc))⟩
   exact oQ (aK (by decide)) a.params x hx
  exact oQ (aK (by decide)) a.vars x hx
 obtain⟨b,hb,hx⟩:=alF.1 hx;exact Il (a.bl b hb) x hx
theorem N2{p:Lt.Program}(h:aX p=true):∀x∈DG p,xg x:=by
 have a:=Fx h
 unfold DG;intro x hx;rcases ajO.1 hx with hx|hx
 ·rcases ajO.1 hx with hx|hx
  ·rcases ajO.1 hx with hx|hx
   ·rcases ajO.1 hx with hx|hx
    ·split at hx
     ·rw[ajQ.1 hx];exact⟨by simp[Lt.ln],aw (aK (by decide)) dc⟩
     grind
    obtain⟨c,hc,hx⟩:=alF.1 hx;have hr:=a.cl c hc
    unfold cO at hr;simp only[ai9]at hr;unfold kM at hx;rcases ajO.1 hx with hx|hx
    ·rw[ajQ.1 hx];exact⟨by simp[Lt.ln],aw (aK (by decide)) (aw (bN hr.1) dc)⟩
    exact oQ (aK (by decide)) hr.2 x hx
   exact oQ (aK (by decide)) a.glob x hx
  obtain⟨e,b,rfl⟩:=ajX.1 hx;have hr:=a.ex e b
  unfold cK at hr;simp only[ai9]at hr;exact⟨by simp[Lt.ln,ue],aw (aK (by decide)) (aw (bN hr.1.1) (aw (pX _) dc))⟩
 obtain⟨f,hf,hx⟩:=alF.1 hx;exact MD (a.fn f hf) x hx
theorem s9:∀(w r:a8)(k:Lt.Cut),(∀c∈w,rY c=true)->k.remark=false->cE (w++r) k=cE r { k with w:=k.w++w }
 |[],r,k,_,_=>by simp
 |c::w,r,k,h,hr=>by
  have hc:=h c (by simp)
  unfold rY at hc;simp only[ai9,decide_eq_true_eq,ajY,decide_eq_false_iff_not]at hc;have a:¬ c=10:=by rintro rfl;grind
  have d:¬ c=32:=by rintro rfl;grind
  have e:¬ c=9:=by rintro rfl;grind
  have b:k.byte c={ k with w:=k.w++[c] }:=by
   grind [Lt.Cut.byte]
  rw[ak2,cE,if_neg a,b,s9 w r { k with w:=k.w++[c] } (fun x hx=>h x (by grind)) hr];simp
theorem Bo:∀(ws:List a8)(r:a8)(out:List Lt.RLine)(l:List a8)(w:a8)(n:Int),(∀v∈ws,fh v)->w≠[] ->
  cE (Lt.jw true ws++10::r) ⟨out,l,w,n,false,false⟩=cE r ⟨out++[⟨n,l++w::ws⟩],[],[],n+1,false,false⟩
 |[],r,out,l,w,n,_,hw=>by
  simp_all[Lt.jw,cE,Lt.Cut.line,Lt.Cut.word]
 |v::vs,r,out,l,w,n,h,hw=>by
  have hv:=h v (by simp)
  rw[Lt.jw,if_pos rfl];show cE (32::(v++Lt.jw true vs++10::r)) _=_
  rw[cE,if_neg (by decide)];have a:(⟨out,l,w,n,false,false⟩:Lt.Cut).byte 32=⟨out,l++[w],[],n,false,false⟩:=by
   grind [Lt.Cut.byte,Lt.Cut.word]
  rw[a,akR,s9 v _ _ hv.2 rfl];simp only[aj7];rw[Bo vs r out (l++[w]) v n (fun x hx=>h x (by grind)) hv.1];simp
def numb:Int->List Lt.Line->List Lt.RLine
 |_,[]=>[]
 |n,x::t=>⟨n,x.Words⟩::numb (n+1) t
theorem xv:∀(L:List Lt.Line)(out:List Lt.RLine)(n:Int),(∀x∈L,xg x)->cE (eX L) ⟨out,[],[],n,false,false⟩=(out++numb n L,0,0)
 |[],out,n,_=>by simp[eX,cE,Lt.Cut.line,Lt.Cut.word,numb]
 |x::t,out,n,h=>by
  obtain⟨a,hx⟩:=h x (by simp);cases hw:x.Words with
  |nil=>grind
  |cons w ws=>
   rw[hw]at hx;have hv:=hx w (by simp)
   have e:eX (x::t)=w++(Lt.jw true ws++10::eX t):=by
    simp[eX,hw,Lt.jw]
   rw[e,s9 w _ _ hv.2 rfl];simp only[aj7];rw[Bo ws _ out [] w n (fun v hv=>hx v (by grind)) hv.1,xv t _ _ (fun y hy=>h y (by grind))];simp[numb,hw]
theorem Ol{L:List Lt.Line}(h:∀x∈L,xg x)(hl:(eX L).length<=4194304):eE (eX L)=(numb 1 L,0,0):=by
 grind [eE,xv]
theorem S8(l:List a8)(objs:Bool)(hp:jq l objs)(KK:List Lt.Arg×Bool->Prop)(h:KK (cj l objs)):Pd l objs KK:=by
 unfold Pd;(try simp only[ac,am,aq,jval,bor,band,bnand,bimp,and_self]);have hr:l.length<=1099511627776:=hp
 refine uz (fun hl=>?_);refine au _ l.length (fun i x=>x=((l.take i).map (fun w=>(Lt.dC w).1),(i:Int))/\(l.take i).all (iA objs)=true) (fun R i x a hx c=>?_) (fun R x hx=>?_) _ ⟨rfl,rfl⟩
 ·obtain⟨rfl,b⟩:=hx;simp only[aP a,if_true,Int.toNat_natCast];refine⟨⟨ajE i,a⟩,?_⟩;refine ifk (fun hc=>?_) (fun hc=>?_)
  ·grind [iA,aC,cj]
  grind [ba,ae,iA]
 grind [cj]
theorem AG(l:List a8){i:Nat}(h:i+1<l.length):(l.drop (i+1)).take (i+2 - (i+1))=[l.getD (i+1) default]:=by
 have e:i+2 - (i+1)=1:=by omega
 grind [ajT]
theorem wC(w:a8)(objs:Bool):cj [w] objs=if iA objs w=true then([(Lt.dC w).1],true)else([],false):=by
 grind [cj]
theorem bb(w:a8):fy [w]=cg w:=by simp[fy]
theorem gF(v w:a8):fy [v,w]=(cg v&&cg w):=by simp[fy]
theorem DB(objs:Bool):∀(l:List a8),l.length % 2=1->cm objs l=none
 |[],h=>by grind
 |[_],_=>rfl
 |a::b::r,h=>by
  have:=DB objs r (by grind)
  grind [cm]
theorem Ni(l:List a8)(f:Int)(objs:Bool)(hp:p9 l f objs)(KK:List Lt.Bind×Bool->Prop)(h:KK (aM l f objs)):GH l f objs KK:=by
 obtain⟨hr,hf0,e⟩:=hp;have hr:l.length<=1099511627776:=hr
 obtain⟨n,rfl⟩:=aj8 hf0;unfold GH;dsimp only;rw[show((n:Nat):Int)=(Int.ofNat n)from rfl]at *;have d:∀k:Nat,Int.tmod (k:Int) 2=((k % 2:Nat):Int):=fun k=>by rfl
 intro p c hl;have o:=c (decide ((l.length:Int)<Int.ofNat n)||!decide (Int.tmod (i64.wrap ((l.length:Int)-Int.ofNat n)) 2=0)) ?_
 ·grind
 simp only[ac,am,aq,jval,bor,bb];refine ifk (fun hc=>?_) (fun hc=>?_)
 ·grind [aM,jz,DB]
 simp only[akD,decide_eq_true_eq,ajY,decide_eq_false_iff_not,not_or,Decidable.not_not]at hc;obtain⟨h1,h2⟩:=hc;have h1:n<=l.length:=by grind
 rw[jz kQ1 kQ1]at h2;rw[show((l.length:Int)-Int.ofNat n)=((l.length-n:Nat):Int)from by grind,d]at h2;have h2:(l.length-n) % 2=0:=by omega
 obtain⟨m,hm⟩:∃m,l.length=n+2*m:=⟨(l.length-n) / 2,by omega⟩
 have hs:aM l (Int.ofNat n) objs=match cm objs (l.drop n)with|some x=>(x,true)|none=>([],false):=by
  grind [aM]
 refine au _ m (fun i x=>∃a:List Lt.Bind,x=(a,((n+2*i:Nat):Int))/\a.length<=i/\cm objs (l.drop n)=(cm objs (l.drop (n+2*i))).map (a++·)) (fun R i x hi hx g=>?_) (fun R x hx=>?_) _ ⟨[],rfl,by simp,by simp⟩
 ·obtain⟨a,rfl,j,hx⟩:=hx;have h3:n+2*i+1<l.length:=by omega
  have h4:n+2*i<l.length:=by omega
  have w1:i64.wrap (((n+2*i:Nat):Int)+1)=((n+2*i+1:Nat):Int):=ae kQ1
  have w2:i64.wrap (((n+2*i:Nat):Int)+2)=((n+2*i+2:Nat):Int):=by grind [jz]
  have hd:l.drop (n+2*i)=l.getD (n+2*i) default::l.getD (n+2*i+1) default::l.drop (n+2*(i+1)):=by
   grind [ajT]
  simp only[w1,w2,aP h4,if_true,Int.toNat_natCast,AG l h3];rw[hd,cm]at hx;rw[wC];refine fun hl=>⟨by omega,by omega,⟨by omega,by omega⟩,?_,⟨by omega,h4⟩,?_⟩
  ·show 1<=Lt.room
   decide
  by_cases b:(cg (l.getD (n+2*i) default)&&iA objs (l.getD (n+2*i+1) default))=true
  ·rw[if_pos b]at hx;simp only[ai9]at b;rw[if_pos b.2,b.1];simp only[aj6,Bool.or_false,ajC,if_false];refine⟨⟨by omega,h4⟩,⟨by decide,by simp⟩,⟨⟨by grind,by grind⟩,?_⟩⟩;refine g _ ⟨_,rfl,by grind,?_⟩;rw[hx];cases cm objs (l.drop (n+2*(i+1)))<;>simp
  grind
 grind [cm]
theorem lu(h:cW l=true):l.length=3:=by
 grind [cW]
theorem jy{l:List Lt.Var}{k:Nat}(h:Lt.typed l k=true):l.length<=k:=by
 grind [Lt.typed]
theorem fw(n most:Int):(cx n most=0)=(n<most):=by
 grind [cx]
theorem jA{n c:Nat}(h:n<=5000)(hc:c<=200):(n+1<=4611686018427387904/\(n+1)*c<=140737488355328)=True:=by
 have:(n+1)*c<=5001*200:=Nat.mul_le_mul kQ1 hc
 grind
theorem mF(h:1<l.length):((0:Int)<=1/\1<l.length)=True:=by simp[h]
theorem tb(h:2<l.length):((0:Int)<=2/\2<l.length)=True:=by simp[h]
theorem fN{l:List α}(h:l≠[])(h8:l.length<=5000):i64.wrap ((l.length:Int) - 1)=((l.length - 1:Nat):Int):=by
 grind [akC,jz]
theorem j4{l:List α}(h:l≠[]):(l.length - 1<l.length)=True:=by
 grind [akC]
theorem j6{l:List α}(h:l≠[]):((0:Int)<=((l.length - 1:Nat):Int)/\((l.length - 1:Nat):Int) < (l.length:Int))=True:=by
 grind [akC]
theorem Vz[Inhabited α]{l:List α}{p:α->Bool}(h:l.all p=true)(hn:l≠[]):p (l.getD (l.length - 1) default)=true:=by
 grind [akC]
theorem Nd(r:Lt.Read)(l:List a8)(hp:im r l)(KK:((Bool×Int)×Lt.Read)->Prop)(h:KK (bB r l)):GC r l KK:=by
 obtain⟨hi,hl,hr⟩:=hp;have hr:l.length<=1099511627776:=hr
 have h0:0<l.length:=akC.2 hl
 obtain⟨hw,⟨m,j,e⟩,⟨g,c,i⟩,h1,h2,h3⟩:=hi;have f:=jy (k:=8) g
 have n:=@jA r.P.Classes.length
 unfold GC;dsimp only;unfold bB at h;refine⟨⟨by decide,h0⟩,?_⟩;refine ifk (fun hc=>?_) (fun hc=>?_)
 ·rw[if_pos (by grind)]at h;simp only[ac,am,aq,bL,be,jval,bor,band,bnand,bimp,and_self,ix,oO,oP,bb,aj6,ajC,if_false,fw]
  grind [Lt.iU,cx]
 rw[if_neg (by grind)]at h;refine ifk (fun hc=>?_) (fun hc=>?_)
 ·rw[if_pos (by grind)]at h;simp only[ac,am,aq,bL,be,jval,bor,band,bnand,bimp,and_self,ix,oO,oP,bb,aj6,ajC,if_false,fw];refine ifk (fun hb=>kk h ?_) (fun hb=>?_)
  ·grind [lm]
  simp only[akD,ajY,decide_eq_false_iff_not,not_or,Decidable.not_not,ajV]at hb;have a:=h1 hb.1
  have b:=lu hb.2
  have hf:=jy (k:=8) (ai9 _ _ ▸ Vz c a:_/\_).2
  have d:r.P.Classes.length<=5000:=by omega
  simp only[fN a d,j4 a,j6 a,Int.toNat_natCast,mF (l:=l) kQ1,tb (l:=l) kQ1,implies_true,true_and,aj4,jA (show(r.P.Classes.getD (r.P.Classes.length - 1) default).Fields.length<=5000 by omega) (show 32<=200 by omega)]
  grind [lm,cx,Lt.last]
 rw[if_neg (by grind)]at h;refine ifk (fun hc=>?_) (fun hc=>?_)
 ·rw[if_pos (by grind)]at h;simp only[ac,am,aq,bL,be,jval,bor,band,bnand,bimp,and_self,ix,oO,oP,bb,aj6,ajC,if_false,fw];refine ifk (fun hb=>kk h ?_) (fun hb=>?_)
  ·grind [iu]
  have b:l.length=3:=lu (by grind)
  simp only[mF (l:=l) kQ1,tb (l:=l) kQ1,implies_true,true_and,aj4,jA (show r.P.Globals.length<=5000 by omega) (show 32<=200 by omega)];refine fun _=>kk h ?_
  unfold iu cx
  grind
 rw[if_neg (by grind)]at h;refine ifk (fun hc=>?_) (fun hc=>?_)
 ·rw[if_pos (by grind)]at h;simp only[ac,am,aq,bL,be,jval,bor,band,bnand,bimp,and_self,ix,oO,oP,bb,aj6,ajC,if_false,fw];refine⟨by grind,by grind,by grind,ifk (fun hb=>kk h ?_) (fun hb=>?_)⟩
  ·grind [gl]
  have b:l.length=3:=by grind
  refine ifk (fun hb=>kk h ?_) (fun hb=>?_)
  ·grind [gl]
  simp only[mF (l:=l) kQ1,tb (l:=l) kQ1,implies_true,true_and,aj4,jA (show r.P.Externs.length<=5000 by omega) (show 24<=200 by omega)];refine fun _=>kk h ?_
  unfold gl cx
  grind
 rw[if_neg (by grind)]at h;refine ifk (fun hc=>?_) (fun hc=>?_)
 ·rw[if_pos (by grind)]at h;simp only[ac,am,aq,bL,be,jval,bor,band,bnand,bimp,and_self,ix,oO,oP,bb,aj6,ajC,if_false,fw];refine ifk (fun hb=>kk h ?_) (fun hb=>?_)
  ·grind [Lt.jQ]
  have b:l.length=3:=lu (by grind)
  simp only[mF (l:=l) kQ1,tb (l:=l) kQ1,implies_true,true_and,aj4,jA (show r.P.Funcs.length<=5000 by omega) (show 104<=200 by omega)];refine fun _=>kk h ?_
  unfold Lt.jQ cx
  grind
 grind
theorem vU[Inhabited α](l:List α)(x:α):(l++[x]).getD ((l++[x]).length - 1) default=x:=by
 grind
variable{r:Lt.Read}
theorem jR(h:Lt.Inv r)(hw:3<=r.Where):r.P.Funcs≠[]/\pJ r.curF r.Where r.Long/\r.curF.Params.length<=6/\r.curF.Vars.length<=1024/\r.curF.Blocks.length<=256:=by
 obtain⟨_,_,_,_,_,h3⟩:=h;obtain⟨fs,f,hf,_,hp⟩:=h3 hw;have e:r.curF=f:=by grind [Lt.Read.curF]
 rw[e];exact⟨by grind,hp,jy (k:=6) hp.1.2.2.1,jy (k:=1024) hp.1.2.2.2,hp.2.1.1⟩
theorem vA(h:Lt.Inv r)(hw:5<=r.Where):r.curF.Blocks≠[]/\r.curB.Phis.length<=1024/\r.curB.Code.length<=1024/\r.curB.Code.all Lt.instr=true:=by
 obtain⟨_,hp,_⟩:=jR h kQ1;obtain⟨_,⟨_,h0,hn⟩,_,hb⟩:=hp
 grind [Lt.Read.curB]
theorem CP(h:Lt.Inv r)(hw:6<=r.Where)(a:r.Where<=8):r.curB.Code≠[]/\r.curI.Frames.length<=16/\r.curI.Objs.length<=99:=by
 obtain⟨_,hp,_⟩:=jR h kQ1;obtain⟨_,⟨_,h0,hn⟩,_,hb⟩:=hp
 grind [Lt.Read.curB,vU,Lt.Read.curI,Lt.instr]
theorem xt(objs:Bool):∀(l:List a8)(x:List Lt.Bind),cm objs l=some x->l.length=2*x.length
 |[],x,h=>by grind [cm]
 |[_],x,h=>by grind [cm]
 |a::b::r,x,h=>by
  rw[cm]at h;split at h
  ·cases hr:cm objs r with
   |none=>grind
   |some y=>
    have:=xt objs r y hr
    grind
  grind
theorem lq{f:Int}(h:(aM l f objs).2=true)(h0:0<=f):(l.length:Int)=f+2*((aM l f objs).1.length:Int):=by
 grind [aM,xt,List.length_drop]
theorem Nk(r:Lt.Read)(l:List a8)(hp:im r l)(KK:((Bool×Int)×Lt.Read)->Prop)(h:KK (bW r l)):GJ r l KK:=by
 obtain⟨hi,hl,hr⟩:=hp;have hr:l.length<=1099511627776:=hr
 have h0:0<l.length:=akC.2 hl
 have a:=hi
 obtain⟨hw,⟨y,M,v⟩,⟨O,F,D⟩,h1,h2,h3⟩:=hi;unfold GJ;dsimp only;unfold bW at h;refine fun _=>ifk (fun hf=>?_) (fun hf=>?_)
 ·have hf:r.P.Funcs≠[]:=fun e=>by grind
  have t:r.P.Funcs.length<=5000:=by omega
  have d:r.P.Funcs.getD (r.P.Funcs.length - 1) default=r.curF:=rfl
  refine fun _=>?_
  simp only[fN hf t,j4 hf,j6 hf,Int.toNat_natCast,true_and];refine⟨⟨by decide,h0⟩,?_⟩;refine ifk (fun hc=>?_) (fun hc=>?_)
  ·rw[if_pos (by grind)]at h;simp only[ac,am,aq,bL,be,jval,bor,band,bnand,bimp,and_self,ix,oO,oP,bb,aj6,ajC,if_false,fw];refine ifk (fun hb=>kk h ?_) (fun hb=>?_)
   ·grind [jM]
   have k:r.Where=3:=by grind
   have b:l.length=3:=lu (by grind)
   obtain⟨_,_,B,_⟩:=jR a kQ1;simp only[d,mF (l:=l) kQ1,tb (l:=l) kQ1,implies_true,true_and,aj4,jA (show r.curF.Params.length<=5000 by omega) (show 32<=200 by omega)];refine fun _=>kk h ?_
   unfold jM cx Lt.Read.func Lt.last;simp only[d]
   grind
  rw[if_neg (by grind)]at h;refine ifk (fun hc=>?_) (fun hc=>?_)
  ·rw[if_pos (by grind)]at h;simp only[ac,am,aq,bL,be,jval,bor,band,bnand,bimp,and_self,ix,oO,oP,bb,aj6,ajC,if_false,fw];refine ifk (fun hb=>kk h ?_) (fun hb=>?_)
   ·grind [Lt.mI]
   have k:3<=r.Where:=by grind
   have b:l.length=3:=lu (by grind)
   obtain⟨_,_,_,H,_⟩:=jR a kQ1;simp only[d,mF (l:=l) kQ1,tb (l:=l) kQ1,implies_true,true_and,aj4,jA (show r.curF.Vars.length<=5000 by omega) (show 32<=200 by omega)];refine fun _=>kk h ?_
   unfold Lt.mI cx Lt.Read.func Lt.last;simp only[d]
   grind
  rw[if_neg (by grind)]at h;refine ifk (fun hc=>?_) (fun hc=>?_)
  ·rw[if_pos (by grind)]at h;simp only[ac,am,aq,bL,be,jval,bor,band,bnand,bimp,and_self,ix,oO,oP,bb,aj6,ajC,if_false,fw];refine⟨by grind,by grind,by grind,ifk (fun hb=>kk h ?_) (fun hb=>?_)⟩
   ·grind [Lt.fu]
   have k:3<=r.Where:=by grind
   have b:l.length=2:=by grind
   obtain⟨_,_,_,_,p⟩:=jR a kQ1;simp only[d,mF (l:=l) kQ1,implies_true,true_and,aj4,jA (show r.curF.Blocks.length<=5000 by omega) (show 136<=200 by omega)];refine fun _=>kk h ?_
   unfold Lt.fu cx Lt.Read.func Lt.last;simp only[d]
   grind
  rw[if_neg (by grind)]at h;refine ifk (fun hc=>?_) (fun hc=>?_)
  ·rw[if_pos (by grind)]at h;simp only[ac,am,aq,bL,be,jval,bor,band,bnand,bimp,and_self,ix,oO,oP,bb,aj6,ajC,if_false,fw];refine⟨⟨by omega,by decide,by decide⟩,fun q j s=>?_,?_⟩
   ·grind [aM]
   refine ifk (fun hb=>kk h ?_) (fun hb=>?_)
   ·grind [Lt.o6]
   have q:r.Where=5:=by grind
   have j:(aM l 2 false).2=true:=by grind
   have s:¬ (aM l 2 false).1.length=0:=by
    grind
   have b:=lq (l:=l) (f:=2) (objs:=false) j (by decide)
   have g:1<l.length:=by omega
   obtain⟨_,_,_,_,p⟩:=jR a kQ1;obtain⟨c,E,_⟩:=vA a kQ1;refine fun _=>⟨fun _=>⟨by decide,g⟩,ifk (fun o=>kk h ?_) (fun o=>?_)⟩
   ·unfold Lt.o6;grind
   have u:(aM l 2 false).1.length<=256:=by
    grind
   have m:r.Long < 1024:=by
    grind
   have z:0<=r.Long:=(jR a kQ1).2.1.2.1.2.1
   have C:i64.wrap (r.Long+1)=r.Long+1:=jz kQ1 kQ1
   have K:r.curF.Blocks.getD (r.curF.Blocks.length - 1) default=r.curB:=rfl
   have n:r.curF.Blocks.length<=5000:=by omega
   simp only[d,mF (l:=l) g,true_and,fN c n,j4 c,j6 c,Int.toNat_natCast,K,aj4,jA (show r.curB.Phis.length<=5000 by omega) (show 40<=200 by omega),C];refine au _ (aM l 2 false).1.length (fun i x=>x=((i:Int),⟨l.getD 1 default,((aM l 2 false).1.take i).map fun x=>⟨x.Name,x.A⟩⟩)) (fun R i x g hx Q=>?_) (fun R x hx=>?_) _ rfl
   ·grind [Int.toNat_natCast,ajE,ae,ba]
   subst hx;simp only[kZ,ajC,if_false];refine fun _=>⟨fun h=>h.elim,fun h=>h.elim,fun h=>h.elim,fun _=>kk h ?_⟩
   rw[alG];have hn:cg (l.getD 1 default)=true:=by
    grind
   have N:(decide (r.Where=5)&&(aM l 2 false).2&&!decide ((aM l 2 false).1.length=0)&&cg (l.getD 1 default))=true:=by
    grind
   simp_all[Lt.o6,Lt.Read.block,Lt.Read.func,Lt.last,if_neg]
  grind
 have hf:r.P.Funcs=[]:=by simp_all
 have G:r.Where<=2:=by
  grind
 have I:decide (r.Where=3)=false:=by grind
 have w:decide (r.Where=4)=false:=by grind
 have L:decide (r.Where=5)=false:=by grind
 have J:decide (r.Where=9)=false:=by grind
 refine⟨⟨by decide,h0⟩,?_⟩;simp only[I,w,L,J,alD,if_true,ac]
 grind [jM,Lt.mI,Lt.fu,Lt.o6,p9]
theorem ru(r:Lt.Read)(h:jt l=some t):wD r l=(0,⟨⟨r.P.SSA,r.P.Classes,r.P.Globals,r.P.Externs,r.P.Funcs.set (r.P.Funcs.length - 1) ⟨r.curF.Name,r.curF.Result,r.curF.Params,r.curF.Vars,r.curF.Blocks.set (r.curF.Blocks.length - 1) ⟨r.curB.Name,r.curB.Phis,r.curB.Code,t⟩⟩⟩,9,r.Long⟩):=by
 unfold wD;rw[h];rfl
theorem ko(r:Lt.Read)(h:jt l=none):wD r l=(3,⟨r.P,9,r.Long⟩):=by
 grind [wD]
theorem JL(r:Lt.Read)(l:List a8)(hp:im r l)(KK:((Bool×Int)×Lt.Read)->Prop)(h:KK (cr r l)):CE r l KK:=by
 obtain⟨hi,hl,hr⟩:=hp;have hr:l.length<=1099511627776:=hr
 have h0:0<l.length:=akC.2 hl
 obtain⟨hw,⟨L,t,k⟩,_⟩:=id hi;unfold CE;dsimp only;unfold cr at h;refine⟨⟨by decide,h0⟩,?_⟩;simp only[ac,jval];refine ifk (fun hc=>?_) (fun hc=>?_)
 ·rw[if_pos (by grind)]at h
  try simp only[alD]
  refine ifk (fun t=>?_) (fun t=>?_)
  ·grind
  rw[if_neg (by grind)]at h;have J:5<=r.Where:=by grind
  have G:r.Where<=8:=by grind
  obtain⟨hf,_,_,_,H⟩:=jR hi kQ1;obtain⟨n,M,I,_⟩:=vA hi kQ1;have C:r.P.Funcs.length<=5000:=by omega
  have w:r.curF.Blocks.length<=5000:=by omega
  have p:r.curB.Code.length<=5000:=by omega
  have x:r.P.Funcs.getD (r.P.Funcs.length - 1) default=r.curF:=rfl
  have B:r.curF.Blocks.getD (r.curF.Blocks.length - 1) default=r.curB:=rfl
  have u:r.curB.Code.getD (r.curB.Code.length - 1) default=r.curI:=rfl
  simp only[fN hf C,j4 hf,j6 hf,Int.toNat_natCast,x,fN n w,j4 n,j6 n,B,true_and,bb,gF];refine fun _ _=>⟨⟨by decide,h0⟩,?_⟩
  refine ifk (fun k=>?_) (fun k=>?_)
  ·rw[if_pos (by grind)]at h;refine⟨⟨by omega,by decide,by decide⟩,?_⟩;simp only[ac,am,aq,bL,be,jval,bor,band,bnand,bimp,and_self,ix,oO,oP,bb,gF,aj6,ajC,if_false,fw];refine⟨fun o m=>?_,fun o m=>?_,fun hb=>?_,ifk (fun hb=>kk h ?_) (fun hb=>ifk (fun d=>kk h ?_) (fun d=>?_))⟩
   ·grind [lq]
   ·grind [lq]
   ·grind [lq]
   ·grind [Lt.sAt]
   ·have E:(decide (r.Where=7)&&(aM l 4 true).2&&cg (Lt.w1 l)&&cg (Lt.w2 l)&&((eQ (Lt.w3 l)).2&&decide (0<=(eQ (Lt.w3 l)).1)&&decide ((eQ (Lt.w3 l)).1<=1024)))=false:=by
     grind
    grind [Lt.sAt]
   have E:(decide (r.Where=7)&&(aM l 4 true).2&&cg (Lt.w1 l)&&cg (Lt.w2 l)&&((eQ (Lt.w3 l)).2&&decide (0<=(eQ (Lt.w3 l)).1)&&decide ((eQ (Lt.w3 l)).1<=1024)))=true:=by
    grind
   have o:r.Where=7:=by grind
   have m:(aM l 4 true).2=true:=by grind
   have O:=lq (l:=l) (f:=4) (objs:=true) m (by decide)
   obtain⟨a,v,A⟩:=CP hi kQ1 kQ1;simp only[fN a p,j4 a,j6 a,Int.toNat_natCast,u,true_and,mF (l:=l) kQ1,tb (l:=l) kQ1,implies_true,aj4,jA (show r.curI.Frames.length<=5000 by omega) (show 64<=200 by omega)];refine fun _ _=>kk h ?_
   unfold Lt.sAt;rw[if_neg (by grind)];unfold Lt.Read.instr Lt.Read.block Lt.Read.func Lt.last;simp only[x,B,u];by_cases b:16 < (aM l 4 true).1.length\/16<=r.curI.Frames.length
   ·rw[if_pos b,if_pos (by grind)]
   rw[if_neg b,if_neg (by grind)]
  rw[if_neg (by grind)]at h;refine ifk (fun q=>?_) (fun q=>?_)
  ·rw[if_pos (by grind)]at h;simp only[ac,am,aq,bL,be,jval,bor,band,bnand,bimp,and_self,ix,oO,oP,bb,gF,aj6,ajC,if_false,fw];have D:(l.drop 2).take (l.length - 2)=l.drop 2:=akZ (by grind)
   refine⟨fun _ y _=>?_,fun _=>by decide,fun hb=>?_,fun hb=>?_,ifk (fun hb=>kk h ?_) (fun hb=>ifk (fun d=>kk h ?_) (fun d=>?_))⟩
   ·grind
   ·grind
   ·rw[D];show(l.drop 2).length<=1099511627776;grind
   ·grind [Lt.rN]
   ·grind [Lt.rN]
   rw[D]at d⊢;have E:(decide (7<=r.Where)&&decide (2<=l.length)&&decide (l.length<=10)&&cg (Lt.w1 l)&&(cj (l.drop 2) true).2)=true:=by
    grind
   have y:2<=l.length:=by grind
   have o:7<=r.Where:=by grind
   obtain⟨a,v,A⟩:=CP hi kQ1 kQ1;simp only[fN a p,j4 a,j6 a,Int.toNat_natCast,u,true_and,mF (l:=l) kQ1,implies_true,aj4,jA (show r.curI.Objs.length<=5000 by omega) (show 40<=200 by omega)];refine fun _ _=>kk h ?_
   unfold Lt.rN;rw[if_neg (by grind)];unfold Lt.Read.instr Lt.Read.block Lt.Read.func Lt.last cx;simp only[x,B,u];by_cases b:99<=r.curI.Objs.length
   ·rw[if_pos b,if_pos kQ1]
   rw[if_neg b,if_neg kQ1]
  rw[if_neg (by grind)]at h;have hk:l.getD 0 default=[106,117,109,112]\/l.getD 0 default=[98,114,97,110,99,104]\/l.getD 0 default=[114,101,116]\/l.getD 0 default=[116,114,97,112]:=by grind
  refine fun z j=>?_
  have N:z (true,(wD r l).1,(wD r l).2):=j _ h
  clear j h hc k q;have z0:((0:Int)<=0/\0<l.length)=True:=by grind
  have c:decide ((l.length:Int)=2)=decide (l.length=2):=decide_eq_decide.2 kQ1
  have g:decide ((l.length:Int)=4)=decide (l.length=4):=decide_eq_decide.2 kQ1
  rcases hk with e|e|e|e
  ·simp only[e,show(decide (([106,117,109,112]:List UInt8)=[106,117,109,112]))=true from rfl,show(decide (([106,117,109,112]:List UInt8)=[98,114,97,110,99,104]))=false from rfl,show(decide (([106,117,109,112]:List UInt8)=[114,101,116]))=false from rfl,show(decide (([106,117,109,112]:List UInt8)=[116,114,97,112]))=false from rfl,z0,ac,am,aq,bL,be,jval,bor,band,bnand,bimp,and_self,ix,oO,oP,bb,gF,aj6,ajC,if_false,if_true,true_and,ak4,aj3,decide_true,not_false_eq_true,false_implies,true_implies,implies_true,c,g,forall_const]
   grind [ru,jt,ko]
  ·simp only[e,show(decide (([98,114,97,110,99,104]:List UInt8)=[106,117,109,112]))=false from rfl,show(decide (([98,114,97,110,99,104]:List UInt8)=[98,114,97,110,99,104]))=true from rfl,show(decide (([98,114,97,110,99,104]:List UInt8)=[114,101,116]))=false from rfl,show(decide (([98,114,97,110,99,104]:List UInt8)=[116,114,97,112]))=false from rfl,z0,ac,am,aq,bL,be,jval,bor,band,bnand,bimp,and_self,ix,oO,oP,bb,gF,aj6,ajC,if_false,if_true,true_and,ak4,aj3,decide_true,not_false_eq_true,false_implies,true_implies,implies_true,c,g,forall_const];by_cases h4:l.length=4
   ·have F:(l.drop 1).take (2 - 1)=[l.getD 1 default]:=AG l (i:=0) kQ1
    rw[F,wC];have s:jq [l.getD 1 default] false:=by show 1<=1099511627776;omega
    refine⟨fun _=>⟨by decide,by omega⟩,fun _=>⟨by decide,by omega⟩,fun _=>by decide,fun _=>by decide,fun _=>⟨by decide,by omega⟩,fun _=>s,fun _ Q=>?_,fun _ _=>⟨by decide,by omega⟩,fun _ _=>⟨by decide,by omega⟩,kk N ?_⟩
    ·grind
    have K:¬ Lt.w0 l=Ag:=by grind
    grind [ru,jt,ko]
   grind [ko,jt]
  ·simp only[e,show(decide (([114,101,116]:List UInt8)=[106,117,109,112]))=false from rfl,show(decide (([114,101,116]:List UInt8)=[98,114,97,110,99,104]))=false from rfl,show(decide (([114,101,116]:List UInt8)=[114,101,116]))=true from rfl,show(decide (([114,101,116]:List UInt8)=[116,114,97,112]))=false from rfl,z0,ac,am,aq,bL,be,jval,bor,band,bnand,bimp,and_self,ix,oO,oP,bb,gF,aj6,ajC,if_false,if_true,true_and,ak4,aj3,decide_true,not_false_eq_true,false_implies,true_implies,implies_true,c,g,forall_const];have K:¬ Lt.w0 l=Ag:=by grind
   have n2:¬ Lt.w0 l=i6:=by grind
   by_cases h4:l.length=2
   ·have F:(l.drop 1).take (l.length - 1)=[l.getD 1 default]:=by grind [AG]
    grind [wC,jq,ru,jt,ko]
   grind [ko,jt]
  simp only[e,show(decide (([116,114,97,112]:List UInt8)=[106,117,109,112]))=false from rfl,show(decide (([116,114,97,112]:List UInt8)=[98,114,97,110,99,104]))=false from rfl,show(decide (([116,114,97,112]:List UInt8)=[114,101,116]))=false from rfl,show(decide (([116,114,97,112]:List UInt8)=[116,114,97,112]))=true from rfl,z0,ac,am,aq,bL,be,jval,bor,band,bnand,bimp,and_self,ix,oO,oP,bb,gF,aj6,ajC,if_false,if_true,true_and,ak4,aj3,decide_true,not_false_eq_true,false_implies,true_implies,implies_true,c,g,forall_const]
  grind [ru,jt,ko]
 grind
def PK(r:Lt.Read)(dst:List UInt8)(l:List a8):Int×Lt.Read:=
 if r.ins=false then(3,r)
 else match Lt.gE dst l with
 |none=>(3,r)
 |some x=>if 1024<=r.Long then(2,r)else(0,{ r.block (fun b=>{ b with Code:=b.Code++[x] })with Where:=if x.Op=31\/x.Op=34 then 7 else 6,Long:=r.Long+1 })
theorem Nc(r:Lt.Read)(l:List a8)(hp:im r l)(KK:(Int×Lt.Read)->Prop)(h:KK (eN r l)):GB r l KK:=by
 obtain⟨hi,hl,hr⟩:=hp;have hr:l.length<=1099511627776:=hr
 have h0:0<l.length:=akC.2 hl
 obtain⟨hw,⟨z,J,s⟩,_⟩:=id hi;have e0:eN r l=if Lt.sEq l&&!cg (Lt.w0 l)then(3,r)else PK r (if Lt.sEq l then Lt.w0 l else []) (if Lt.sEq l then l.drop 2 else l):=rfl
 rw[e0]at h;unfold GB;dsimp only;refine fun o g=>?_
 have key:∀(l':List a8)(dst:List UInt8),0<l'.length->l'.length<=1099511627776->KK (PK r dst l')->o (l',⟨0,dst,[],[],[],[]⟩):=by
  intro l' dst j H hk;refine g _ ?_;clear g h e0 o;refine⟨⟨by decide,j⟩,?_⟩;simp only[ac,jval,bor,alD,if_true,bb];refine ifk (fun hc=>?_) (fun hc=>?_)
  ·refine kk hk ?_;unfold PK;by_cases c:r.ins=false
   ·grind
   rw[if_neg c]
   grind [Lt.gE]
  have c:¬ r.ins=false:=by grind
  have y:5<=r.Where:=by grind
  have u:r.Where<=8:=by grind
  have hop:¬ ((Lt.sOp (Lt.w0 l')).2&&((Lt.rOf (Lt.sOp (Lt.w0 l')).1).1.Dst==!decide (dst=[])))=false:=by
   grind
  clear hc;unfold PK Lt.gE at hk;rw[if_neg c,if_neg hop]at hk;have G:l'.getD 0 default=Lt.w0 l':=rfl
  simp only[G];generalize Lt.sOp (Lt.w0 l')=O at hk hop⊢;obtain⟨op,p⟩:=O;generalize hfm:(Lt.rOf op).1=m at hk⊢;simp only at hk⊢
  obtain⟨hf,⟨_,⟨_,A,_⟩,_⟩,_,_,v⟩:=jR hi kQ1;obtain⟨f,C,w,_⟩:=vA hi kQ1;have n:r.P.Funcs.length<=5000:=by omega
  have i:r.curF.Blocks.length<=5000:=by omega
  have k:r.curB.Code.length<=5000:=by omega
  have D:r.P.Funcs.getD (r.P.Funcs.length - 1) default=r.curF:=rfl
  have I:r.curF.Blocks.getD (r.curF.Blocks.length - 1) default=r.curB:=rfl
  have l1:∀x:Lt.Instr,([x]:List Lt.Instr).length=1:=fun _=>rfl
  simp only[fN hf n,j4 hf,j6 hf,Int.toNat_natCast,D,fN f i,j4 f,j6 f,I,true_and,l1,jA k (show 112<=200 by omega),ac];refine fun F e=>?_
  have q:∀nm rest,rest.length<=1099511627776->KK (match(if (cj rest false).2&&!(m.Named&&!cg nm)&&decide (m.Least<=((cj rest false).1.length:Int))&&decide (((cj rest false).1.length:Int)<=m.Most)then some ⟨op,dst,nm,(cj rest false).1,[],[]⟩else none:Option Lt.Instr)with
    |none=>(3,r)
    |some x=>if 1024<=r.Long then(2,r)else(0,{ r.block (fun b=>{ b with Code:=b.Code++[x] })with Where:=if x.Op=31\/x.Op=34 then 7 else 6,Long:=r.Long+1 }))->F (rest,⟨op,dst,nm,[],[],[]⟩):=by
   intro nm rest d a;refine e _ ⟨d,?_⟩;clear e hk;refine ifk (fun hc=>kk a ?_) (fun hc=>?_)
   ·grind
   rw[if_pos (by grind)]at a;refine ifk (fun hl=>kk a ?_) (fun hl=>?_)
   ·grind
   have hl:¬ 1024<=r.Long:=by grind
   have B:i64.wrap (r.Long+1)=r.Long+1:=jz kQ1 kQ1
   simp only[B,and_self,ac,jval,bor];refine fun _ _=>kk a ?_
   show(if 1024<=r.Long then _ else _)=_
   rw[if_neg hl];by_cases E:op=31\/op=34
   ·have:(decide (op=31)||decide (op=34))=true:=by grind
    simp_all[Lt.Read.block,Lt.Read.func,Lt.last]
   have:¬ (decide (op=31)||decide (op=34))=true:=by grind
   simp_all[Lt.Read.block,Lt.Read.func,Lt.last]
  clear e
  grind [KW,aj4,ajK]
 have es:((decide (2 < (l.length:Int)))&&(decide ((l.getD 1 default)=[61])))=Lt.sEq l:=by
  grind [Lt.sEq]
 refine fun K t=>?_
 grind [bb,akZ,List.length_drop]
theorem WQ(h:(bB r l).1.1=false):bB r l=((false,0),r):=by
 grind [bB]
theorem XP(h:(bW r l).1.1=false):bW r l=((false,0),r):=by
 grind [bW]
theorem TZ(h:(cr r l).1.1=false):cr r l=((false,0),r):=by
 grind [cr]
theorem Ng(r:Lt.Read)(l:List a8)(b:Bool)(hp:KD r l b)(KK:(Int×Lt.Read)->Prop)(h:KK (dJ r l b)):GF r l b KK:=by
 have hp:im r l:=hp
 obtain⟨hi,hl,hr⟩:=id hp;have hr:l.length<=1099511627776:=hr
 have h0:0<l.length:=akC.2 hl
 have es:((decide (2 < (l.length:Int)))&&(decide ((l.getD 1 default)=[61])))=Lt.sEq l:=by
  grind [Lt.sEq]
 unfold GF;dsimp only;unfold dJ at h;refine fun g e=>?_
 have f:=e (Lt.sEq l) ?_
 ·grind
 show(if Lt.sEq l=true then _ else _)
 refine ifk (fun hs=>⟨hp,?_⟩) (fun hs=>⟨⟨by decide,h0⟩,?_⟩)
 ·simp_all
 rw[if_neg hs]at h;refine ifk (fun hc=>?_) (fun hc=>⟨hp,?_⟩)
 ·rw[if_pos (by grind)]at h;simp only[ac,jval,bor]
  grind
 rw[if_neg (by grind)]at h;by_cases d:(bB r l).1.1=true
 ·simp_all[ac]
 rw[if_neg d]at h;have d:=Bool.eq_false_iff.2 d
 rw[d];simp only[WQ d,alD,if_true,am,ac];refine⟨hp,?_⟩;by_cases a:(bW r l).1.1=true
 ·simp_all[ac]
 rw[if_neg a]at h;have a:=Bool.eq_false_iff.2 a
 simp only[XP a,alD,if_true,am,ac];refine⟨hp,?_⟩;by_cases c:(cr r l).1.1=true
 ·simp_all[ac]
 rw[if_neg c]at h;have c:=Bool.eq_false_iff.2 c
 simp_all[TZ,ac]
theorem Nl(s:a8)(KK:List Lt.RLine×Int×Int->Prop)(h:KK (eE s)):GK s KK:=by
 have hb:∀c d:UInt8,decide ((((c.toNat:Nat):Int))=((d.toNat:Nat):Int))=decide (c=d):=fun c d=>by
  grind [UInt8.toNat_inj]
 unfold GK;dsimp only;unfold eE at h;refine fun hl=>ifk (fun hc=>?_) (fun hc=>?_)
 ·grind
 rw[if_neg (by grind)]at h;have hs:s.length<=4194304:=by grind
 clear hc;simp only[hb];refine au _ (s.length+1) (fun i x=>(i<=s.length/\∃k:Lt.Cut,x=(k.out,k.l,k.w,k.n,k.remark,k.bad,(i:Int))/\(k.out.length<=i/\k.l.length<=i/\k.w.length<=i/\1<=k.n/\k.n<=(i:Int)+1)/\KK (cE (s.drop i) k))\/(i=s.length+1/\∃a b c d e,∃o,x=(o,a,b,c,d,e,(i:Int))/\KK (o,0,0))) (fun R i x hi hx D=>?_) (fun R x hx=>?_) _ (Or.inl ⟨aj0 _,⟨[],[],[],1,false,false⟩,rfl,⟨ajB _,ajB _,ajB _,by decide,by decide⟩,h⟩)
 ·rcases hx with⟨hi,k,rfl,⟨k1,k2,k3,k4,k5⟩,hk⟩|⟨v,_⟩
  ·simp only[show decide ((i:Int)<=(s.length:Int))=true by grind,if_true,Int.toNat_natCast];refine fun _=>?_
   have w1:i64.wrap ((i:Int)+1)=((i+1:Nat):Int):=ae kQ1
   have G:i64.wrap (k.n+1)=k.n+1:=jz kQ1 kQ1
   rw[w1,G];have hw:∀r:List a8->Prop,r k.word.l->aa (α:=List a8) (fun t=>(k.w.length<=4611686018427387904->if decide (0 < (k.w.length:Int))then((k.l.length+([k.w]:List a8).length<=4611686018427387904/\(k.l.length+([k.w]:List a8).length)*16<=140737488355328)/\t (k.l++([k.w]:List a8)))else(t k.l))) r:=by
    intro r h J F hl;refine ifk (fun hc=>⟨⟨by grind,by grind⟩,F _ (kk h ?_)⟩) (fun hc=>F _ (kk h ?_))
    ·grind [Lt.Cut.word]
    unfold Lt.Cut.word;rw[if_pos (by cases L:k.w<;>grind)]
   refine fun M p=>?_
   by_cases u:i=s.length\/s.getD i 0=10
   ·refine fun N B=>?_
    have g:=B true ?_
    ·grind
    simp only[aj6,ajC,if_false,if_true,ac];refine fun C f=>hw _ (f (k.word.l,[],k.bad) ?_)
    have j:KK (if k.bad then([],k.n,3)else if i=s.length then(k.line.out,0,0)else cE (s.drop (i+1)) k.line):=by
     by_cases v:i=s.length
     ·rw[if_pos v];rw[v,akJ]at hk;exact hk
     grind [ajT,cE]
    refine ifk (fun hb=>?_) (fun hb=>?_)
    ·grind
    rw[if_neg hb]at j;have q:k.word.l.length<=i+1:=by
     grind [Lt.Cut.word]
    refine fun K z=>?_
    have g2:=z k.line.out ?_
    ·refine fun _=>ifk (fun hc=>⟨⟨by grind,by grind⟩,kk g2 ?_⟩) (fun hc=>kk g2 ?_)
     ·grind [Lt.Cut.line]
     unfold Lt.Cut.line;rw[if_pos (by cases L:k.word.l<;>grind)]
    refine p _ (D _ ?_);by_cases v:i=s.length
    ·grind
    rw[if_neg v]at j;refine Or.inl ⟨by omega,k.line,rfl,⟨?_,aj0 _,aj0 _,?_,?_⟩,j⟩
    ·grind [Lt.Cut.line]
    ·show 1<=k.n+1;omega
    show k.n+1<=((i+1:Nat):Int)+1;omega
   have I:i<s.length:=by omega
   have H:¬ s.getD i 0=10:=fun h=>u (Or.inr h)
   have ob:((0:Int)<=(i:Int)/\i<s.length)=True:=by grind
   have j:KK (cE (s.drop (i+1)) (k.byte (s.getD i 0))):=by
    grind [ajT,cE]
   clear hk;have E:decide (((s.getD i 0).toNat:Int) < ((UInt8.toNat 33:Nat):Int))=decide ((s.getD i 0).toNat < 33):=decide_eq_decide.2 (by grind)
   have y:decide (((UInt8.toNat 126:Nat):Int) < ((s.getD i 0).toNat:Int))=decide (126 < (s.getD i 0).toNat):=decide_eq_decide.2 (by grind)
   simp only[show decide ((i:Int)=(s.length:Int))=false by grind,ajC,if_false,ob,true_and,aq,ac,show decide (s.getD i 0=10)=false by grind,alD,if_true,jval,bor,E,y];simp only[aq]at hw;refine fun _ C f=>?_
   refine ifk (fun hv=>hw _ (f (k.word.l,[],k.bad) (p _ (D _ (Or.inl ?_))))) (fun hv=>⟨⟨by grind,by grind⟩,f _ (p _ (D _ (Or.inl ?_)))⟩)
   ·refine⟨by omega,k.byte (s.getD i 0),?_,?_,j⟩
    ·by_cases m:s.getD i 0=59
     ·have A:decide (s.getD i 0=59)=true:=decide_eq_true m
      unfold Lt.Cut.byte;simp only[if_pos m,A,Bool.true_or];rfl
     have e:Lt.Cut.byte k (s.getD i 0)=k.word:=by
      grind [Lt.Cut.byte]
     have A:decide (s.getD i 0=59)=false:=decide_eq_false m
     simp only[e,A,Bool.false_or];rfl
    have q:k.word.l.length<=i+1:=by
     grind [Lt.Cut.word]
    by_cases m:s.getD i 0=59
    ·unfold Lt.Cut.byte;rw[if_pos m];exact⟨by show k.out.length<=i+1;omega,q,aj0 _,k4,by show k.n<=_;omega⟩
    have e:Lt.Cut.byte k (s.getD i 0)=k.word:=by
     grind [Lt.Cut.byte]
    rw[e];exact⟨by show k.out.length<=i+1;omega,q,aj0 _,k4,by show k.n<=_;omega⟩
   grind [Lt.Cut.byte]
  omega
 grind
def Runs:Lt.Read->List (List a8)->Lt.Read->Prop
 |r,[],a=>r=a
 |r,w::t,a=>∃r1,(∀b,dJ r w b=(0,r1))/\Runs r1 t a
theorem cG:∀{a b:List (List a8)}{r r1 r2:Lt.Read},Runs r a r1->Runs r1 b r2->Runs r (a++b) r2
 |[],b,r,r1,r2,h1,h2=>by have:r=r1:=h1;grind
 |w::t,b,r,r1,r2,⟨q,hq,h1⟩,h2=>⟨q,hq,cG h1 h2⟩
variable{r1:Lt.Read}
theorem pf{w:List a8}(h:∀b,dJ r w b=(0,r1)):Runs r [w] r1:=⟨r1,h,rfl⟩
theorem eG(r:Lt.Read):Runs r [] r:=rfl
theorem sU:∀(L:List Lt.Line)(n:Int)(b:Bool)(r a:Lt.Read),Runs r (L.map fun x=>x.Words) a ->
  fL (numb n L) b r=if a.out then(a.P,0,0)else(⟨false,[],[],[],[]⟩,0,3)
 |[],n,b,r,a,h=>by have:r=a:=h;subst this;rfl
 |x::t,n,b,r,a,⟨q,hq,h⟩=>by
  rw[numb,fL];simp only[hq b,if_true];exact sU t _ _ q a h
theorem np{b:Bool}(a:Lt.sEq l=false)(hs:¬ Lt.w0 l=vY)(h:bB r l=((true,0),r1)):dJ r l b=(0,r1):=by
 grind [dJ]
theorem qV{b:Bool}(c:Lt.sEq l=false)(hs:¬ Lt.w0 l=vY)(a:bB r l=((false,0),r))(h:bW r l=((true,0),r1)):dJ r l b=(0,r1):=by
 grind [dJ]
theorem sL{b:Bool}(c:Lt.sEq l=false)(hs:¬ Lt.w0 l=vY)(a:bB r l=((false,0),r))(hp:bW r l=((false,0),r))(h:cr r l=((true,0),r1)):dJ r l b=(0,r1):=by
 grind [dJ]
theorem Th{b:Bool}(hs:¬ Lt.w0 l=vY)(a:bB r l=((false,0),r))(hp:bW r l=((false,0),r))(h:cr r l=((false,0),r)):dJ r l b=eN r l:=by
 grind [dJ]
theorem lY(h1:¬ Lt.w0 l=sJ)(h2:¬ Lt.w0 l=pR)(h3:¬ Lt.w0 l=j0)(h4:¬ Lt.w0 l=ij)(h5:¬ Lt.w0 l=xh):bB r l=((false,0),r):=by
 grind [bB]
theorem ye(h1:¬ Lt.w0 l=pS)(h2:¬ Lt.w0 l=Js)(h3:¬ Lt.w0 l=sI)(h4:¬ Lt.w0 l=Ah):bW r l=((false,0),r):=by
 grind [bW]
theorem Yy(h1:¬ Lt.w0 l=Lt.kAt)(h2:¬ Lt.w0 l=rL)(h3:¬ Lt.w0 l=Ag)(h4:¬ Lt.w0 l=i6)(h5:¬ Lt.w0 l=EO)(h6:¬ Lt.w0 l=Ai):cr r l=((false,0),r):=by
 grind [cr]
theorem MF(h:Lt.w0 l=sJ):bB r l=((true,(Lt.iU r l).1),(Lt.iU r l).2):=by
 grind [bB]
theorem MG(h:Lt.w0 l=pR):bB r l=((true,(lm r l).1),(lm r l).2):=by
 grind [bB]
theorem Jg(h:Lt.w0 l=j0):bB r l=((true,(iu r l).1),(iu r l).2):=by
 grind [bB]
theorem Jf(h:Lt.w0 l=ij):bB r l=((true,(gl r l).1),(gl r l).2):=by
 grind [bB]
theorem SA(h:Lt.w0 l=xh):bB r l=((true,(Lt.jQ r l).1),(Lt.jQ r l).2):=by
 grind [bB]
theorem NS(h:Lt.w0 l=pS):bW r l=((true,(jM r l).1),(jM r l).2):=by
 grind [bW]
theorem XR(h:Lt.w0 l=Js):bW r l=((true,(Lt.mI r l).1),(Lt.mI r l).2):=by
 grind [bW]
theorem NR(h:Lt.w0 l=sI):bW r l=((true,(Lt.fu r l).1),(Lt.fu r l).2):=by
 grind [bW]
theorem XQ(h:Lt.w0 l=Ah):bW r l=((true,(Lt.o6 r l).1),(Lt.o6 r l).2):=by
 grind [bW]
theorem Yx(hi:r.ins=true)(h:Lt.w0 l=Lt.kAt):cr r l=((true,(Lt.sAt r l).1),(Lt.sAt r l).2):=by
 grind [cr]
theorem T0(hi:r.ins=true)(h:Lt.w0 l=rL):cr r l=((true,(Lt.rN r l).1),(Lt.rN r l).2):=by
 grind [cr]
theorem fX{w:a8}(h:Lt.Name w=true):¬ w=[61]:=by rintro rfl;revert h;decide
theorem Ll(h:bD a=true)(ok:a.ok):¬ ay a=[61]:=by
 intro e;have:=nG h ok
 rw[e]at this;have h2:(Lt.dC [61]).2=false:=by decide +kernel
 grind
theorem WB(a b:a8):Lt.sEq [a,b]=false:=rfl
theorem iX{a w:a8}(h:¬ w=[61]):Lt.sEq (a::w::l)=false:=by
 grind [Lt.sEq]
theorem P6(w:a8):DP w=Lt.kind w:=by
 grind [DP,Lt.kind,aW]
theorem lA{k:a8}{v:Lt.Var}(h1:Lt.Name v.Name=true)(h2:Lt.kind v.Type_=true):cW [k,v.Name,v.Type_]=true:=by
 grind [cW,aW,P6]
theorem nk[Inhabited α](l:List α)(x:α)(f:α->α):Lt.last (l++[x]) f=l++[f x]:=by
 grind [Lt.last]
def stP(s:Bool)(cs:List Lt.Class)(gs:List Lt.Var)(es:List Lt.Extern)(fs:List Lt.Func)(w n:Int):Lt.Read:=⟨⟨s,cs,gs,es,fs⟩,w,n⟩
def stF(p:Lt.Program)(fs:List Lt.Func)(f:Lt.Func)(w n:Int):Lt.Read:=⟨{ p with Funcs:=fs++[f] },w,n⟩
def stB(p:Lt.Program)(fs:List Lt.Func)(f:Lt.Func)(bs:List Lt.Block)(b:Lt.Block)(w n:Int):Lt.Read:=stF p fs { f with Blocks:=bs++[b] } w n
def stI(p:Lt.Program)(fs:List Lt.Func)(f:Lt.Func)(bs:List Lt.Block)(b:Lt.Block)(cs:List Lt.Instr)(x:Lt.Instr)(w n:Int):Lt.Read:=stB p fs f bs { b with Code:=cs++[x] } w n
section
variable (p:Lt.Program) (fs:List Lt.Func) (f:Lt.Func) (bs:List Lt.Block) (b:Lt.Block) (cs:List Lt.Instr) (x:Lt.Instr) (w n:Int)
theorem oh(g:Lt.Func->Lt.Func):(stF p fs f w n).func g=stF p fs (g f) w n:=by
 grind [Lt.Read.func,stF,nk]
end
section
variable (p:Lt.Program) (fs:List Lt.Func) (f:Lt.Func) (bs:List Lt.Block) (b:Lt.Block) (cs:List Lt.Instr) (x:Lt.Instr) (w n:Int)
theorem jg(g:Lt.Block->Lt.Block):(stB p fs f bs b w n).block g=stB p fs f bs (g b) w n:=by
 grind [Lt.Read.block,stB,oh,nk]
end
section
variable (p:Lt.Program) (fs:List Lt.Func) (f:Lt.Func) (bs:List Lt.Block) (b:Lt.Block) (cs:List Lt.Instr) (x:Lt.Instr) (w n:Int)
theorem ul(g:Lt.Instr->Lt.Instr):(stI p fs f bs b cs x w n).instr g=stI p fs f bs b cs (g x) w n:=by
 grind [Lt.Read.instr,stI,jg,nk]
end
section
variable (p:Lt.Program) (fs:List Lt.Func) (f:Lt.Func) (bs:List Lt.Block) (b:Lt.Block) (cs:List Lt.Instr) (x:Lt.Instr) (w n:Int)
theorem nZ:(stF p fs f w n).curF=f:=by grind [Lt.Read.curF,stF]
end
section
variable (p:Lt.Program) (fs:List Lt.Func) (f:Lt.Func) (bs:List Lt.Block) (b:Lt.Block) (cs:List Lt.Instr) (x:Lt.Instr) (w n:Int)
theorem aaC:(stB p fs f bs b w n).curB=b:=by
 grind [Lt.Read.curB,stB,nZ]
end
section
variable (p:Lt.Program) (fs:List Lt.Func) (f:Lt.Func) (bs:List Lt.Block) (b:Lt.Block) (cs:List Lt.Instr) (x:Lt.Instr) (w n:Int)
theorem x8:(stI p fs f bs b cs x w n).curI=x:=by
 grind [Lt.Read.curI,stI,aaC]
end
theorem On{s:Bool}{cs:List Lt.Class}{gs:List Lt.Var}{es:List Lt.Extern}{fs:List Lt.Func}{w n:Int}{c:a8}(a:w<=2\/w=9)(hc:Lt.Name c=true)(hl:cs.length < 8) :
  Runs (stP s cs gs es fs w n) [[sJ,c]] (stP s (cs++[⟨c,[]⟩]) gs es fs 1 n):=by
 grind [pf,np,WB,MF,Lt.iU,stP,aW]
theorem rC{l:List Lt.Var}{k:Int}(h:Lt.typed l k=true):∀v∈l,Lt.Name v.Name=true/\Lt.kind v.Type_=true:=by
 grind [Lt.typed]
theorem xy{s:Bool}{cs:List Lt.Class}{gs:List Lt.Var}{es:List Lt.Extern}{fs:List Lt.Func}{n:Int}:∀(l:List Lt.Var)(c:Lt.Class),(∀v∈l,Lt.Name v.Name=true/\Lt.kind v.Type_=true)->c.Fields.length+l.length<=8 ->
  Runs (stP s (cs++[c]) gs es fs 1 n) (l.map fun v=>[pR,v.Name,v.Type_]) (stP s (cs++[{ c with Fields:=c.Fields++l }]) gs es fs 1 n)
 |[],c,_,_=>by simpa using eG _
 |v::l,c,h,hl=>by
  obtain⟨h1,h2⟩:=h v (by simp);have a:c.Fields.length+(l.length+1)<=8:=hl
  have ih:=xy (s:=s) (cs:=cs) (gs:=gs) (es:=es) (fs:=fs) (n:=n) l { c with Fields:=c.Fields++[v] } (fun x hx=>h x (by grind)) (by grind)
  refine⟨stP s (cs++[{ c with Fields:=c.Fields++[v] }]) gs es fs 1 n,fun b=>np (iX (fX h1)) (by grind) ?_,by grind⟩;refine(MG rfl).trans ?_;have:lm (stP s (cs++[c]) gs es fs 1 n) [pR,v.Name,v.Type_]=(0,stP s (cs++[{ c with Fields:=c.Fields++[v] }]) gs es fs 1 n):=by
   unfold lm;rw[lA h1 h2];have e:(stP s (cs++[c]) gs es fs 1 n).P.Classes=cs++[c]:=rfl
   rw[e,vU,nk,if_neg (by show ¬ (decide ((1:Int)=1)&&true)=false;decide),if_neg kQ1];rfl
  grind
theorem xx{s:Bool}{gs:List Lt.Var}{es:List Lt.Extern}{fs:List Lt.Func}{n:Int}:∀(l cs:List Lt.Class)(w:Int),(w<=2\/w=9)->(∀c∈l,cO c=true)->cs.length+l.length<=8 ->
  ∃w',(w'<=2\/w'=9)/\Runs (stP s cs gs es fs w n) ((l.flatMap kM).map fun x=>x.Words) (stP s (cs++l) gs es fs w' n)
 |[],cs,w,hw,_,_=>⟨w,hw,by grind [eG]⟩
 |c::l,cs,w,hw,h,hl=>by
  have hc:=h c (by simp)
  unfold cO at hc;simp only[ai9]at hc;have hf:=jy (k:=8) hc.2
  have g:cs.length+(l.length+1)<=8:=hl
  obtain⟨w',f,ih⟩:=xx (s:=s) (gs:=gs) (es:=es) (fs:=fs) (n:=n) l (cs++[c]) 1 kQ1 (fun x hx=>h x (by grind)) (by grind);refine⟨w',f,?_⟩;have a:=On (s:=s) (gs:=gs) (es:=es) (fs:=fs) (n:=n) (cs:=cs) hw hc.1 kQ1
  have b:=xy (s:=s) (cs:=cs) (gs:=gs) (es:=es) (fs:=fs) (n:=n) c.Fields ⟨c.Name,[]⟩ (rC hc.2) (by grind)
  simp only[aj7]at b;have e:((c::l).flatMap kM).map (fun x=>x.Words)=([[sJ,c.Name]]++c.Fields.map fun v=>[pR,v.Name,v.Type_])++(l.flatMap kM).map fun x=>x.Words:=by
   simp_all[kM,Lt.ln,sa]
  rw[e];have d:Runs (stP s (cs++[c]) gs es fs 1 n) ((l.flatMap kM).map fun x=>x.Words) (stP s (cs++c::l) gs es fs w' n):=by grind
  exact cG (cG a b) d
theorem u7{s:Bool}{cs:List Lt.Class}{es:List Lt.Extern}{fs:List Lt.Func}{n:Int}:∀(l gs:List Lt.Var)(w:Int),(w<=2\/w=9)->(∀v∈l,Lt.Name v.Name=true/\Lt.kind v.Type_=true)->gs.length+l.length<=8 ->
  ∃w',(w'<=2\/w'=9)/\Runs (stP s cs gs es fs w n) (l.map fun v=>[j0,v.Name,v.Type_]) (stP s cs (gs++l) es fs w' n)
 |[],gs,w,hw,_,_=>⟨w,hw,by grind [eG]⟩
 |v::l,gs,w,hw,h,hl=>by
  obtain⟨h1,h2⟩:=h v (by simp);have c:gs.length+(l.length+1)<=8:=hl
  obtain⟨w',a,ih⟩:=u7 (s:=s) (cs:=cs) (es:=es) (fs:=fs) (n:=n) l (gs++[v]) 2 kQ1 (fun x hx=>h x (by grind)) (by grind);refine⟨w',a,stP s cs (gs++[v]) es fs 2 n,fun b=>np (iX (fX h1)) (by grind) ?_,by grind⟩;refine(Jg rfl).trans ?_;have:iu (stP s cs gs es fs w n) [j0,v.Name,v.Type_]=(0,stP s cs (gs++[v]) es fs 2 n):=by
   unfold iu;rw[lA h1 h2];have d:(Lt.Read.out (stP s cs gs es fs w n)&&true)=true:=by
    show((decide (w<=2)||decide (w=9))&&true)=true
    grind
   rw[d,if_neg (by decide),if_neg (by show ¬ 8<=gs.length;omega)];rfl
  grind
theorem u6{s:Bool}{cs:List Lt.Class}{gs:List Lt.Var}{fs:List Lt.Func}{n:Int}:∀(l es:List Lt.Extern)(w:Int),(w<=2\/w=9)->(∀x∈l,cK x=true)->es.length+l.length<=8 ->
  ∃w',(w'<=2\/w'=9)/\Runs (stP s cs gs es fs w n) (l.map fun x=>[ij,x.Name,bf x.N]) (stP s cs gs (es++l) fs w' n)
 |[],es,w,hw,_,_=>⟨w,hw,by grind [eG]⟩
 |v::l,es,w,hw,h,hl=>by
  have hv:=h v (by simp)
  unfold cK at hv;simp only[ai9,decide_eq_true_eq]at hv;obtain⟨⟨h1,h2⟩,h3⟩:=hv;have c:es.length+(l.length+1)<=8:=hl
  obtain⟨w',a,ih⟩:=u6 (s:=s) (cs:=cs) (gs:=gs) (fs:=fs) (n:=n) l (es++[v]) 2 kQ1 (fun x hx=>h x (by grind)) (by grind);refine⟨w',a,stP s cs gs (es++[v]) fs 2 n,fun b=>np (iX (fX h1)) (by grind) ?_,by grind⟩;refine(Jf rfl).trans ?_;have:gl (stP s cs gs es fs w n) [ij,v.Name,bf v.N]=(0,stP s cs gs (es++[v]) fs 2 n):=by
   unfold gl;have en:eQ (Lt.w2 [ij,v.Name,bf v.N])=(v.N,true):=qg (by grind [Lt.inR])
   have d:Lt.w1 [ij,v.Name,bf v.N]=v.Name:=rfl
   rw[en,d,aW,h1];have e:(Lt.Read.out (stP s cs gs es fs w n)&&decide (List.length [ij,v.Name,bf v.N]=3)&&true&&((v.N,true).2&&decide (0<=(v.N,true).1)&&decide ((v.N,true).1<=8)))=true:=by
    show((decide (w<=2)||decide (w=9))&&true&&true&&(true&&decide (0<=v.N)&&decide (v.N<=8)))=true
    grind
   rw[e,if_neg (by decide),if_neg (by show ¬ 8<=es.length;omega)];rfl
  grind
theorem T2{p:Lt.Program}{fs:List Lt.Func}{w n:Int}{a t:List UInt8}(c:w<=2\/w=9)(h1:Lt.Name a=true)(h2:Lt.kind t=true)(hl:fs.length < 8) :
  Runs ⟨{ p with Funcs:=fs },w,n⟩ [[xh,a,t]] (stF p fs ⟨a,t,[],[],[]⟩ 3 0):=by
 refine pf fun b=>np (iX (fX h1)) (by grind) ?_
 refine(SA rfl).trans ?_;have:Lt.jQ ⟨{ p with Funcs:=fs },w,n⟩ [xh,a,t]=(0,stF p fs ⟨a,t,[],[],[]⟩ 3 0):=by
  unfold Lt.jQ;rw[lA (v:=⟨a,t⟩) h1 h2];have c:(Lt.Read.out ⟨{ p with Funcs:=fs },w,n⟩&&true)=true:=by
   grind
  rw[c,if_neg (by decide),if_neg (by grind)];rfl
 grind
theorem xB{p:Lt.Program}{fs:List Lt.Func}{n:Int}:∀(l:List Lt.Var)(f:Lt.Func),(∀v∈l,Lt.Name v.Name=true/\Lt.kind v.Type_=true)->f.Params.length+l.length<=6 ->
  Runs (stF p fs f 3 n) (l.map fun v=>[pS,v.Name,v.Type_]) (stF p fs { f with Params:=f.Params++l } 3 n)
 |[],f,_,_=>by simpa using eG _
 |v::l,f,h,hl=>by
  obtain⟨h1,h2⟩:=h v (by simp);have a:f.Params.length+(l.length+1)<=6:=hl
  have ih:=xB (p:=p) (fs:=fs) (n:=n) l { f with Params:=f.Params++[v] } (fun x hx=>h x (by grind)) (by grind)
  refine⟨stF p fs { f with Params:=f.Params++[v] } 3 n,fun b=>qV (iX (fX h1)) (by grind) (lY (by grind) (by grind) (by grind) (by grind) (by grind)) ?_,by grind⟩;refine(NS rfl).trans ?_;have:jM (stF p fs f 3 n) [pS,v.Name,v.Type_]=(0,stF p fs { f with Params:=f.Params++[v] } 3 n):=by
   unfold jM;rw[lA h1 h2,nZ,oh,if_neg (by show ¬ (decide ((3:Int)=3)&&true)=false;decide),if_neg kQ1];rfl
  grind
theorem DX{p:Lt.Program}{fs:List Lt.Func}{n:Int}:∀(l:List Lt.Var)(f:Lt.Func)(w:Int),(w=3\/w=4)->(∀v∈l,Lt.Name v.Name=true/\Lt.kind v.Type_=true)->f.Vars.length+l.length<=1024 ->
  ∃w',(w'=3\/w'=4)/\Runs (stF p fs f w n) (l.map fun v=>[Js,v.Name,v.Type_]) (stF p fs { f with Vars:=f.Vars++l } w' n)
 |[],f,w,hw,_,_=>⟨w,hw,by simpa using eG _⟩
 |v::l,f,w,hw,h,hl=>by
  obtain⟨h1,h2⟩:=h v (by simp);have c:f.Vars.length+(l.length+1)<=1024:=hl
  obtain⟨w',a,ih⟩:=DX (p:=p) (fs:=fs) (n:=n) l { f with Vars:=f.Vars++[v] } 4 (.inr rfl) (fun x hx=>h x (by grind)) (by grind);refine⟨w',a,stF p fs { f with Vars:=f.Vars++[v] } 4 n,fun b=>qV (iX (fX h1)) (by grind) (lY (by grind) (by grind) (by grind) (by grind) (by grind)) ?_,by grind⟩;refine(XR rfl).trans ?_;have:Lt.mI (stF p fs f w n) [Js,v.Name,v.Type_]=(0,stF p fs { f with Vars:=f.Vars++[v] } 4 n):=by
   unfold Lt.mI;have d:((decide ((stF p fs f w n).Where=3)||decide ((stF p fs f w n).Where=4))&&true)=true:=by
    show((decide (w=3)||decide (w=4))&&true)=true
    grind
   rw[lA h1 h2,nZ,oh,d,if_neg (by decide),if_neg kQ1];rfl
  grind
theorem Om{p:Lt.Program}{fs:List Lt.Func}{f:Lt.Func}{w n:Int}{a:a8}(hw:w=3\/w=4\/w=9)(h1:Lt.Name a=true)(hl:f.Blocks.length < 256) :
  Runs (stF p fs f w n) [[sI,a]] (stB p fs f f.Blocks ⟨a,[],[],⟨0,⟨0,[],0⟩,[],0⟩⟩ 5 n):=by
 refine pf fun b=>qV (WB _ _) (by grind) (lY (by grind) (by grind) (by grind) (by grind) (by grind)) ?_
 grind [NR,Lt.fu,stF,stB,aW,nZ,oh]
theorem NT{x:Lt.Phi}(h:Lt.phi x=true)(ok:x.ok):aM (Fv x) 2 false=(x.Ins.map fun i=>⟨i.Block,i.A⟩,true):=by
 obtain⟨_,_,_,h4⟩:=NU h;unfold aM Fv;have a:=sT (objs:=false) (l:=x.Ins.map fun i=>⟨i.Block,i.A⟩) (by
  intro b hb;obtain⟨i,hi,rfl⟩:=ajX.1 hb;have:=h4 i hi
  unfold ox at this;simp only[ai9]at this;exact⟨this.1,this.2,ok.2 i hi⟩)
 grind [List.flatMap_map]
theorem VF(l:List Lt.In):(l.map fun i=>(⟨i.Block,i.A⟩:Lt.Bind)).map (fun x=>(⟨x.Name,x.A⟩:Lt.In))=l:=by
 rw[akA];exact List.map_id _
theorem DW{p:Lt.Program}{fs:List Lt.Func}{f:Lt.Func}{bs:List Lt.Block}:∀(l:List Lt.Phi)(b:Lt.Block)(n:Nat),(∀x∈l,Lt.phi x=true/\x.ok)->n+l.length<=1024 ->
  Runs (stB p fs f bs b 5 n) (l.map Fv) (stB p fs f bs { b with Phis:=b.Phis++l } 5 ((n+l.length:Nat):Int))
 |[],b,n,_,_=>by simpa using eG _
 |x::l,b,n,h,hl=>by
  obtain⟨h1,a⟩:=h x (by simp);obtain⟨hd,g,d,_⟩:=NU h1;have j:n+(l.length+1)<=1024:=hl
  have ih:=DW (p:=p) (fs:=fs) (f:=f) (bs:=bs) l { b with Phis:=b.Phis++[x] } (n+1) (fun y hy=>h y (by grind)) kQ1
  have e:n+1+l.length=n+(x::l).length:=by grind
  rw[e]at ih;refine⟨stB p fs f bs { b with Phis:=b.Phis++[x] } 5 ((n+1:Nat):Int),fun c=>qV (iX (fX hd)) (by show ¬ Ah=vY;decide) (lY (by show ¬ Ah=_;decide) (by show ¬ Ah=_;decide) (by show ¬ Ah=_;decide) (by show ¬ Ah=_;decide) (by show ¬ Ah=_;decide)) ?_,by grind⟩;refine(XQ rfl).trans ?_;have:Lt.o6 (stB p fs f bs b 5 n) (Fv x)=(0,stB p fs f bs { b with Phis:=b.Phis++[x] } 5 ((n+1:Nat):Int)):=by
   unfold Lt.o6;rw[NT h1 a,aW];have k:(decide ((stB p fs f bs b 5 (n:Int)).Where=5)&&((x.Ins.map fun i=>(⟨i.Block,i.A⟩:Lt.Bind)),true).2&&!decide ((((x.Ins.map fun i=>(⟨i.Block,i.A⟩:Lt.Bind)),true)).1.length=0)&&Lt.Name (Lt.w1 (Fv x)))=true:=by
    show(true&&true&&!decide ((x.Ins.map fun i=>(⟨i.Block,i.A⟩:Lt.Bind)).length=0)&&Lt.Name x.Dst)=true
    grind
   rw[k,if_neg (by decide),if_neg (by
    show ¬ (256 < (x.Ins.map fun i=>(⟨i.Block,i.A⟩:Lt.Bind)).length\/1024<=(n:Int))
    grind),jg]
   simp only[VF];rfl
  grind
def eC(i:Lt.Instr):List a8:=
 (Lt.Of i.Op).1.Word::(if i.Op=26\/i.Op=27 then(Lt.puts i.Args).getD 0 default::i.Name::(Lt.puts i.Args).drop 1 else(if(Lt.Of i.Op).1.Named then [i.Name]else [])++Lt.puts i.Args)
theorem YP(i:Lt.Instr):Lt.words i=(if(Lt.Of i.Op).1.Dst then [i.Dst,[61]]else [])++eC i:=by
 grind [Lt.words,eC]
theorem bare(i:Lt.Instr)(h:Lt.instr i=true)(ok:i.ok):Lt.gE i.Dst (eC i)=some { i with Frames:=[],Objs:=[] }:=by
 have b:=ii h
 obtain⟨_,m,e,g,f,k⟩:=sY i.Op;have hop:=acA b.of
 have d:=DO b.aok ok.1
 unfold Lt.gE;have c:Lt.w0 (eC i)=(Lt.Of i.Op).1.Word:=rfl
 rw[c,hop];simp only[e,g,f,k,aW];have j:((Lt.Of i.Op).1.Dst==!decide (i.Dst=[]))=true:=by rw[b.dst];simp
 rw[j,if_neg (by decide)];have hr:KW i.Op (eC i)=some (i.Name,Lt.puts i.Args):=by
  unfold KW;by_cases hc:i.Op=26\/i.Op=27
  ·have hl:=b.least hc
   rw[if_pos hc];unfold eC;rw[if_pos hc];cases l:i.Args with
   |nil=>grind
   |cons a r=>rfl
  grind [eC,InstrOk.nm]
 grind [InstrOk.nmN,InstrOk.lo,InstrOk.hi]
theorem afY(h:(Lt.Of op).2=true)(hd:(Lt.Of op).1.Dst=false):op=27\/op=30\/op=33\/op=34:=by
 by_cases hc:1<=op/\op<=34
 ·grind [Lt.Of]
 exfalso
 rw[<- (sY op).1]at h
 grind [Lt.rOf]
theorem Yb{l:List Lt.Arg}(h:bG l objs=true)(ok:vH l):∀w∈Lt.puts l,¬ w=[61]:=by
 intro w hw;obtain⟨a,b,rfl⟩:=ajX.1 hw;unfold bG at h;have:=ajM.1 h a b
 unfold bd at this;simp only[ai9]at this;exact Ll this.1 (ok a b)
theorem afI(h:Lt.instr i=true)(ok:i.ok):Lt.sEq (eC i)=false:=by
 have a:=ii h
 have hp:=Yb a.aok ok.1
 grind [eC,InstrOk.least,Lt.puts,fX,InstrOk.nmN,Lt.sEq]
theorem T1{p:Lt.Program}{fs:List Lt.Func}{f:Lt.Func}{bs:List Lt.Block}{b:Lt.Block}{w:Int}{n:Nat}(hw:5<=w/\w<=8)(h:Lt.instr i=true)(ok:i.ok)(hl:n+1<=1024) :
  Runs (stB p fs f bs b w n) [Lt.words i] (stI p fs f bs b b.Code { i with Frames:=[],Objs:=[] } (if i.Op=31\/i.Op=34 then 7 else 6) ((n+1:Nat):Int)):=by
 have j:=ii h
 have hb:=bare i h ok
 have a:(stB p fs f bs b w (n:Int)).ins=true:=by
  show(decide (5<=w)&&decide (w<=8))=true
  grind
 refine pf fun c=>?_
 rw[YP];cases hd:(Lt.Of i.Op).1.Dst with
 |true=>
  rw[if_pos rfl];have hN:=j.dstN hd
  have d:Lt.sEq ([i.Dst,[61]]++eC i)=true:=by
   rfl
  unfold dJ;rw[d,if_pos rfl];unfold eN;have e0:Lt.w0 ([i.Dst,[61]]++eC i)=i.Dst:=rfl
  have l:([i.Dst,[61]]++eC i).drop 2=eC i:=rfl
  rw[d,e0,aW,hN,a,if_neg (by decide),if_neg (by decide),if_pos rfl,if_pos rfl,l,hb];simp only
  rw[if_neg (by show ¬ (1024:Int)<=(n:Int);omega),jg];rfl
 |false=>
  rw[if_neg (by decide),aj7];have d:=afI h ok
  have g:i.Dst=[]:=by grind [InstrOk.dst]
  have e0:Lt.w0 (eC i)=(Lt.Of i.Op).1.Word:=rfl
  have hk:∀k∈[vY,sJ,pR,j0,ij,xh,pS,Js,sI,Ah,Lt.kAt,rL,Ag,i6,EO,Ai],¬ Lt.w0 (eC i)=k:=by
   rw[e0];rcases afY j.of hd with e|e|e|e<;>rw[e]<;>decide +kernel
  rw[Th (hk _ (by simp)) (lY (hk _ (by simp)) (hk _ (by simp)) (hk _ (by simp)) (hk _ (by simp)) (hk _ (by simp))) (ye (hk _ (by simp)) (hk _ (by simp)) (hk _ (by simp)) (hk _ (by simp))) (Yy (hk _ (by simp)) (hk _ (by simp)) (hk _ (by simp)) (hk _ (by simp)) (hk _ (by simp)) (hk _ (by simp)))];unfold eN;rw[d,a,ak4,if_neg (by decide),if_neg (by decide),if_neg (by decide),if_neg (by decide)];rw[g]at hb;rw[hb];simp only
  rw[if_neg (by show ¬ (1024:Int)<=(n:Int);omega),jg];simp only[g];rfl
end Go.Am
end
