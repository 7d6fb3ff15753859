/-
  Part 12: AmL28 · AmL20c · AmL29 · AmL30 · AmPkS.
-/
import Derived.Test.YtgpedlcblhiklaaGreatDoorSo11
set_option linter.unusedSimpArgs false
set_option linter.unusedVariables false
set_option linter.unusedSectionVars false
set_option linter.unnecessarySimpa false
open Lt
open Go.IntKind (i64)
section
namespace Go.Am
open Go
open Lt (nmB toB Gd Rc bkB phB fl Bare bg wY sW)
theorem Zj(m:VM)(k v:List UInt8):v∈(cT .s m k true).map (·.1) ↔ v∈m.map (·.1)\/v=k:=by
 grind [mq]
theorem Zc(m:VM)(k:List UInt8):(cT .s m k true).length<=m.length+1:=by
 grind [mq,af7]
theorem zd{α:Type}[Inhabited α]{body:(Int×VM->Prop)->Int×VM->Prop}(l:List α)(ar:α->Lt.Arg)(m:VM)(Q:VM->Prop)
  (hs:∀R(i:Nat)m,i<l.length->l.length<=4611686018427387904->((ar (l.getD i default)).Kind=1->R (i64.wrap ((i:Int)+1),cT .s m (ar (l.getD i default)).S true))->(¬ (ar (l.getD i default)).Kind=1->R (i64.wrap ((i:Int)+1),m))->body R ((i:Int),m))
  (he:∀R m,Q m->body R ((l.length:Int),m)) (hl:l.length<=4611686018427387904)
  (h:∀m',(∀v,v∈m'.map (·.1) ↔ v∈m.map (·.1)\/∃a∈l,(ar a).Kind=1/\(ar a).S=v)->m'.length<=m.length+l.length->Q m'):ab body (0,m):=by
 refine iL l (fun m i=>(i,m)) (fun r m=>∀m',(∀v,v∈m'.map (·.1) ↔ v∈m.map (·.1)\/∃a∈r,(ar a).Kind=1/\(ar a).S=v)->m'.length<=m.length+r.length->Q m') (fun R m i x r hi hx _ ih h=>hs R i m hi hl (fun hc=>ih hl _ fun m' b hn=>h m' (fun v=>?_) ?_) (fun hc=>ih hl _ fun m' b hn=>h m' (fun v=>?_) ?_)) (fun R m h=>he R m (h m (fun v=>by simp) (by simp))) m h
 all_goals grind [Zj,Zc]
theorem Mw(x:Lt.Instr)(hp:ly x)(KK:List (List UInt8)->Prop)(h:∀y,JU x y->KK y):Ge x KK:=by
 unfold Ge;unfold ly Xr at hp;dsimp only;intro s;refine zd x.Args id [] (fun m=>∀m',(∀v,v∈m'.map (·.1) ↔ v∈m.map (·.1)\/(∃f∈x.Frames,∃b∈f.Vars,b.A.Kind=1/\b.A.S=v)\/∃o∈x.Objs,∃a∈o.Vals,a.Kind=1/\a.S=v)->m'.length<=m.length+(x.Frames.map fun f=>f.Vars.length).sum+(x.Objs.map fun o=>o.Vals.length).sum->kD (some m')/\∀y,iN (some m') y->KK y) (fun R i m hi hl k1 k2=>?_) (fun R m d=>?_) s (fun m t hn m' q hn'=>⟨⟨rfl,?_⟩,fun y hy=>h y fun v=>by rw[hy v];simp only[ahG];rw[q,t];simp only[ag5,agX,false_or,id];rfl⟩)
 ·rw[if_pos (bP hi)];intro J u
  grind
 rotate_left
 ·grind
 rw[if_neg (by simp)];intro l;refine iL x.Frames (fun m i=>(i,m)) (fun r m=>∀m',(∀v,v∈m'.map (·.1) ↔ v∈m.map (·.1)\/(∃f∈r,∃b∈f.Vars,b.A.Kind=1/\b.A.S=v)\/∃o∈x.Objs,∃a∈o.Vals,a.Kind=1/\a.S=v)->m'.length<=m.length+(r.map fun f=>f.Vars.length).sum+(x.Objs.map fun o=>o.Vals.length).sum->kD (some m')/\∀y,iN (some m') y->KK y) (fun R m i x' r hi hx _ ih h=>?_) (fun R m d=>?_) m d
 ·rw[if_pos (bP hi)];refine⟨ob hi,fun hl=>?_⟩;dsimp +instances only [Int.toNat_natCast]
  rw[hx];refine zd x'.Vars (·.A) m (fun m'=>∀c,(∀v,v∈c.map (·.1) ↔ v∈m'.map (·.1)\/(∃f∈r,∃b∈f.Vars,b.A.Kind=1/\b.A.S=v)\/∃o∈x.Objs,∃a∈o.Vals,a.Kind=1/\a.S=v)->c.length<=m'.length+(r.map fun f=>f.Vars.length).sum+(x.Objs.map fun o=>o.Vals.length).sum->kD (some c)/\∀y,iN (some c) y->KK y) (fun R i m hi hl k1 k2=>?_) (fun R m d=>?_) (by rw[<- hx];exact hl) (fun w e j k g p=>h k (fun v=>?_) ?_)
  ·rw[if_pos (bP hi)];intro J u
   grind [Int.toNat_natCast]
  ·rw[if_neg (by simp)];exact ih l _ d
  ·rw[g,e]
   grind
  grind
 rw[if_neg (by simp)];intro n;refine iL x.Objs (fun m i=>(i,m)) (fun r m=>∀m',(∀v,v∈m'.map (·.1) ↔ v∈m.map (·.1)\/∃o∈r,∃a∈o.Vals,a.Kind=1/\a.S=v)->m'.length<=m.length+(r.map fun o=>o.Vals.length).sum->kD (some m')/\∀y,iN (some m') y->KK y) (fun R m i x' r hi hx _ ih h=>?_) (fun R m d=>?_) m (fun m' t hn=>d m' (fun v=>by grind) kQ1)
 ·rw[if_pos (bP hi)];refine⟨ob hi,fun hl=>?_⟩;dsimp +instances only [Int.toNat_natCast]
  rw[hx];refine zd x'.Vals id m (fun m'=>∀c,(∀v,v∈c.map (·.1) ↔ v∈m'.map (·.1)\/∃o∈r,∃a∈o.Vals,a.Kind=1/\a.S=v)->c.length<=m'.length+(r.map fun o=>o.Vals.length).sum->kD (some c)/\∀y,iN (some c) y->KK y) (fun R i m hi hl k1 k2=>?_) (fun R m d=>?_) (by rw[<- hx];exact hl) (fun w e j k g p=>h k (fun v=>?_) ?_)
  ·rw[if_pos (bP hi)];intro J u
   grind [Int.toNat_natCast]
  ·rw[if_neg (by simp)];exact ih n _ d
  ·rw[g,e]
   grind
  grind
 grind
theorem I6(s:Lt.Vs)(b:Lt.Block)(hp:WD s b)(KK:Bool->Prop)(h:KK (na s b)):Cj s b KK:=by
 unfold Cj;have o:¬ sW (fun v=>bg s v=true) b->KK false:=fun I=>by grind [na,Ad]
 have kT:sW (fun v=>bg s v=true) b->KK true:=fun I=>by grind [na,vP]
 dsimp only;obtain⟨hp,z⟩:=hp;refine⟨hp,fun hl=>?_⟩;have es:some (s.getD [])=s:=by cases s<;>grind
 have a:∀i,i<b.Code.length->ly (b.Code.getD i default):=fun i hi=>z _ (bd _ hi)
 let D:Nat->List (List UInt8):=fun i=>((b.Code.take i).map (·.Dst)).filter fun d=>!decide (d=[])
 have M:∀i v,i<b.Code.length->(v∈D (i+1) ↔ v∈D i\/(v=(b.Code.getD i default).Dst/\v≠[])):=fun i v hi=>by
  grind [bC]
 have K:∀v,v ∉ D 0:=fun v hv=>by grind
 have r:D b.Code.length=fl b:=by
  show List.filter _ _=_
  rw[agV];rfl
 refine aO _ b.Code.length (fun i v=>v.1=(i:Int)/\(∀w,bg (some v.2) w=true ↔ bg s w=true\/w∈D i)/\∀j,j<i->∀w,wY (b.Code.getD j default) w->bg s w=true\/w∈D j) (fun R i v hi⟨e,h1,h2⟩ih=>?_) (fun R v⟨e,h1,h2⟩=>?_) _ ⟨rfl,fun w=>by grind,fun j hj=>by omega⟩
 ·obtain⟨H,m⟩:=v;dsimp only at e h1 h2⊢;subst e;rw[if_pos (bP hi)];intro C k;dsimp +instances only [Int.toNat_natCast]at k⊢
  have hd:=M i
  have n:=a i hi
  have o:(¬ ∀w,wY (b.Code.getD i default) w->bg s w=true\/w∈D i)->KK false:=fun hn=>o fun hb=>hn (hb.1 i hi)
  have on:(∀w,wY (b.Code.getD i default) w->bg s w=true\/w∈D i)->∀m',(∀w,bg (some m') w=true ↔ bg s w=true\/w∈D (i+1))->C m':=fun f m' t=>k _ (ih _ ⟨au kQ1,t,fun j hj w hw=>by
   grind⟩)
  generalize b.Code.getD i default=x at hd o on n⊢;refine⟨ob hi,fun L g=>⟨n,fun y hy E=>?_⟩⟩;have u:(¬ ∀w,wY x w->bg s w=true\/w∈D i)->L true:=fun hn=>g _ (by grind)
  refine aO _ y.length (fun j v=>v=(j:Int)/\∀q,q<j->bg (some m) (y.getD q default)=true) (fun F j v hj⟨e,hq⟩p=>?_) (fun F v⟨e,hq⟩=>?_) _ ⟨rfl,fun q hq=>by omega⟩
  ·subst e;rw[if_pos (bP hj)];refine⟨ob hj,?_⟩;rw[Int.toNat_natCast];refine ifk (fun hc=>u fun f=>?_) (fun hc=>p _ ⟨au kQ1,fun q G=>?_⟩)
   ·have:=(h1 _).2 (f _ ((hy _).1 (bd _ hj)))
    have hc:(!bg (some m) (y.getD j default))=true:=hc
    grind
   rcases ahN q j with h'|h'
   ·grind
   obtain rfl:q=j:=by omega
   have hc:¬ (!bg (some m) (y.getD q default))=true:=hc
   grind
  subst e;rw[if_neg (by simp)];have f:∀w,wY x w->bg s w=true\/w∈D i:=fun w hw=>by
   obtain⟨q,J,e⟩:=ahW.1 ((hy w).2 hw)
   grind
  refine g _ ?_;show if false=true then KK false else _
  rw[if_neg (by simp)];refine ifk (fun hc=>on f _ fun w=>?_) (fun hc=>on f _ fun w=>?_)
  ·grind [IS]
  grind
 obtain⟨H,m⟩:=v;dsimp only at e h1 h2⊢;subst e;rw[if_neg (by simp)];rw[r]at h1;intro B l;have fin:∀c:Bool,(c=true ↔ ((b.End.Kind=2\/b.End.Kind=3)->b.End.A.Kind=1->bg s b.End.A.S=true\/b.End.A.S∈fl b))->B c:=fun c hc=>by
  refine l _ ?_;show KK c
  cases c with
  |true=>exact kT ⟨h2,hc.1 rfl⟩
  |false=>exact o fun hb=>by have:=hc.2 hb.2;grind
 have N:∀w,(aP (β:=Bool) .s m w).getD (dflt .bo)=bg (some m) w:=fun w=>rfl
 grind
theorem I7(f:Lt.Func)(s a:List UInt8)(KK:Bool->Prop)(h:KK (xW f s a)):Ck f s a KK:=by
 unfold Ck;intro hl;refine bN f.Blocks (fun l=>KK (sk a s l)) (fun R i x r hi hx _ ih h=>?_) (fun R h=>?_) h
 ·grind [sk]
 rw[if_neg (by simp)];exact h
theorem Ml(f:Lt.Func)(o:Option (List (List UInt8×Lt.Vs)))(KK:Bool->Prop)(h:KK (ze f o)):F7 f o KK:=by
 unfold F7;dsimp only;unfold ze at h;intro _;refine bN f.Blocks (fun l=>KK (l.all fun b=>b.Phis.all fun x=>x.Ins.all (pB f o b))) (fun R i b r hi hx _ ih h=>?_) (fun R h=>?_) h
 ·rw[if_pos (bP hi)];refine⟨ob hi,?_⟩;dsimp +instances only [Int.toNat_natCast]
  rw[hx];intro _;rw[agF]at h;refine bN b.Phis (fun l=>KK ((l.all fun x=>x.Ins.all (pB f o b))&&r.all fun b=>b.Phis.all fun x=>x.Ins.all (pB f o b))) (fun k s x r3 d j _ n h=>?_) (fun k h=>?_) h
  ·rw[if_pos (bP d)];refine⟨ob d,?_⟩;dsimp +instances only [Int.toNat_natCast]
   rw[j];intro _;rw[agF]at h;refine bN x.Ins (fun l=>KK ((l.all (pB f o b)&&r3.all fun x=>x.Ins.all (pB f o b))&&r.all fun b=>b.Phis.all fun x=>x.Ins.all (pB f o b))) (fun m q y r5 a g _ p h=>?_) (fun m h=>?_) h
   ·rw[if_pos (bP a)];refine⟨ob a,?_⟩;dsimp +instances only [Int.toNat_natCast]
    rw[g];rw[agF]at h;intro J t;have fin:∀c:Bool,c=!pB f o b y->J c:=fun c e=>by
     grind
    unfold pB at fin;refine ifk (fun h1=>?_) (fun h1=>fin _ (by grind));rw[h1]at fin;refine ifk (fun h2=>?_) (fun h2=>fin _ (by grind));rw[h2]at fin;refine ifk (fun h3=>fin _ (by grind)) (fun h3=>fin _ ?_);rw[show(!decide (y.A.Kind=1))=false from by grind];rfl
   grind
  grind
 grind
theorem Df(a s:List UInt8):∀(l:List Lt.Block)(k:Nat),k<l.length->(l.getD k default).Name=s->(∀j,j<k->(l.getD j default).Name≠s)->sk a s l=vM (l.getD k default).End.To a
 |[],k,h,_,_=>absurd h (Nat.not_lt_zero _)
 |b::r,0,_,hn,_=>by
  grind [sk]
 |b::r,k+1,h,hn,hj=>by
  have h0:¬ b.Name=s:=hj 0 (Nat.succ_pos _)
  unfold sk;rw[if_neg h0];exact Df a s r k (Nat.lt_of_succ_lt_succ h) hn fun j h'=>hj (j+1) (Nat.succ_lt_succ h')
theorem Dl{β:Type}(v:β):∀(m:List (List UInt8×β))(k0 k:List UInt8),aP .s (cT .s m k0 v) k=if k0=k then some v else aP .s m k
 |[],k0,k=>by
  grind [cT,aP,ua]
 |x::l,k0,k=>by
  have ih:=Dl v l k0 k
  grind [cT,aP,ua]
def ad0(f:Lt.Func)(i:Nat)(m:List (List UInt8×Lt.Vs)):Prop:=
 ∀s,(∀k,k<i->nmB f.Blocks k=s->∃V,aP .s m s=some V/\∀w,bg V w=true ↔ OK f k w)/\((∀k,k<i->nmB f.Blocks k≠s)->aP .s m s=none)
theorem WA{f:Lt.Func}{m:List (List UInt8×Lt.Vs)}(c:Gd f.Blocks)(h:ad0 f f.Blocks.length m):ze f (some m)=true ↔ yV f:=by
 have key:∀(b:Lt.Block)(i:Lt.In),pB f (some m) b i=true ↔ ∀k,k<f.Blocks.length->nmB f.Blocks k=i.Block->b.Name∈toB f.Blocks k->i.A.Kind=1->OK f k i.A.S:=by
  intro b i;unfold pB;rw[ahG];by_cases he:∃k,k<f.Blocks.length/\nmB f.Blocks k=i.Block
  ·obtain⟨k,hk,hn⟩:=he;obtain⟨V,a,hw⟩:=(h i.Block).1 k hk hn
   grind [xW,Df,Gd.nd,Ri]
  have hn:∀k,k<f.Blocks.length->nmB f.Blocks k≠i.Block:=fun k hk e=>he ⟨k,hk,e⟩
  rw[(h i.Block).2 hn]
  grind
 simp_all[ze,yV]
theorem I8(f:Lt.Func)(hp:Nf f)(KK:Bool->Prop)(h:KK (jG f)):Cl f KK:=by
 unfold Cl;obtain⟨hp,j⟩:=hp;have n:Gd f.Blocks:=hp.2.1
 have o:(¬ ((∀k,k<f.Blocks.length->sW (fun v=>¬ Bare f v k\/v∈phB f k) (bkB f k))/\yV f))->KK false:=fun n=>by grind [jG,Ad]
 have kT:((∀k,k<f.Blocks.length->sW (fun v=>¬ Bare f v k\/v∈phB f k) (bkB f k))/\yV f)->KK true:=fun n=>by grind [jG,vP]
 dsimp only;refine⟨hp,fun y hy q=>?_⟩;obtain⟨p,hy⟩:=hy;have a:∀k,k<f.Blocks.length->(na (y.getD k default) (bkB f k)=true ↔ sW (fun v=>¬ Bare f v k\/v∈phB f k) (bkB f k)):=fun k hk=>by
  grind [na,EF]
 refine aO _ y.length (fun i v=>v.1=(i:Int)/\(∀k,k<i->sW (fun v=>¬ Bare f v k\/v∈phB f k) (bkB f k))/\ad0 f i v.2) (fun R i v hi⟨e,h1,g⟩ih=>?_) (fun R v⟨e,h1,g⟩=>?_) _ ⟨rfl,fun k hk=>by omega,fun s=>⟨fun k hk=>absurd hk (Nat.not_lt_zero _),fun _=>rfl⟩⟩
 ·obtain⟨t,m⟩:=v;dsimp only at e h1 g⊢;subst e;rw[if_pos (bP hi)];have hk:i<f.Blocks.length:=by omega
  have a:=a i hk
  have b:=(hy i hk).1
  intro r d;dsimp +instances only [Int.toNat_natCast]at d⊢
  refine⟨ob hi,ob hk,⟨b,j _ (bd _ hk)⟩,?_⟩;refine ifk (fun hc=>o fun l=>?_) (fun hc=>?_)
  ·simp_all
  have hc:¬ (!na (y.getD i default) (bkB f i))=true:=hc
  have hb:=a.1 (by grind)
  have on:r (cT .s m (nmB f.Blocks i) (iB (y.getD i default) (bkB f i))):=d _ (ih _ ⟨au kQ1,fun k c=>by
   grind,fun s=>by
   dsimp only;rw[Dl];refine⟨fun k c hn=>?_,fun hno=>?_⟩
   ·rcases ahN k i with h'|h'
    ·rw[if_neg (fun e=>by grind [Gd.nd])];exact(g s).1 k h' hn
    grind [iB,yi,OK]
   rw[if_neg (hno i (aiC _))];exact(g s).2 fun k c=>hno k (Nat.lt_succ_of_lt c)⟩)
  exact⟨ob hk,⟨ob hk,b,on⟩,b,ob hk,on⟩
 grind [WA]
end Go.Am
end

section
namespace Go.Am
open Go
theorem Mn(f:Lt.Func)(hp:yh f)(KK:Int->Prop)(h:KK (yj f)):F8 f KK:=by
 unfold F8;intro hl;refine iL f.Blocks (fun n i=>(n,i)) (fun r n=>KK (Lt.rsz r n)) (fun R n i x r hi hx _ ih h=>?_) (fun R n h=>?_) 0 h
 ·dsimp only;simp only[bP hi,Int.toNat_natCast,hx,hi,af9,and_self,true_and,if_true];exact fun _=>ih hl _ h
 dsimp only;rw[if_neg (by simp)];exact h
theorem Ja(p:Lt.Program)(KK:Bool->Prop)(h:KK (jJ p)):Cn p KK:=by
 unfold Cn;intro hl;refine bN p.Funcs (fun r=>KK (r.all sG&&!p.SSA)) (fun R i f r hi hx _ ih h=>?_) (fun R h=>?_) h
 ·try dsimp only
  simp only[bP hi,Int.toNat_natCast,hx,hi,af9,and_self,true_and,if_true];rw[agF,Bool.and_assoc]at h;intro n;refine bN f.Blocks (fun r2=>KK (r2.all AP&&(r.all sG&&!p.SSA))) (fun l v b r2 a e _ t h=>?_) (fun l h=>?_) h
  ·try dsimp only
   simp only[bP a,Int.toNat_natCast,e,a,af9,and_self,true_and,if_true];rw[agF,Bool.and_assoc]at h;unfold AP at h;intro q;refine ifk (fun hc=>?_) (fun hc d=>?_)
   ·grind [decide_eq_false]
   have o:¬ (0:Int) < (b.Phis.length:Int):=fun h0=>hc (decide_eq_true h0)
   rw[show decide (b.Phis.length=0)=true from decide_eq_true kQ1,ag1]at h;refine bN b.Code (fun r3=>KK (r3.all Na&&(r2.all AP&&(r.all sG&&!p.SSA)))) (fun m u x r3 c g _ k h=>?_) (fun m h=>?_) h
   ·try dsimp only
    simp only[bP c,Int.toNat_natCast,g,c,af9,and_self,true_and,if_true];rw[agF,Bool.and_assoc]at h;unfold Na at h;intro J s _;have j:=s (!(decide (x.Frames.length=0)&&decide (x.Objs.length=0))) (by
     dsimp only;refine ifk (fun hc=>?_) (fun hc=>k d ?_)
     ·grind
     rw[show(decide (x.Frames.length=0)&&decide (x.Objs.length=0))=true from by grind,ag1]at h;exact h)
    grind [decide]
   grind
  grind
 grind
theorem EK(p:Lt.Program)(hp:Dw p)(KK:Bool->Prop)(h:KK (ki p)):yH p KK:=by
 unfold yH;intro hl;refine l5 p.Funcs uX true KK (fun R i f hi hx _ ih hf=>?_) (fun R h=>?_) (by rw[ahU];exact h)
 ·simp only[bP hi,Int.toNat_natCast,hx,hi,af9,and_self,true_and,if_true];intro J a _
  grind [uX,yh]
 grind
theorem Jb(p:Lt.Program)(f:Lt.Func)(hp:mK p f)(KK:Bool->Prop)(h:KK (qi p f)):Co p f KK:=by
 unfold Co;intro hl;refine bN f.Blocks (fun r=>KK (r.all (Bt p f))) (fun R i b r hi hx k ih h=>?_) (fun R h=>?_) h
 ·simp only[bP hi,Int.toNat_natCast,hx,hi,af9,and_self,true_and,if_true];intro c;rw[agF]at h;unfold Bt at h;rw[Bool.and_assoc]at h;refine bN b.Code (fun r2=>KK ((r2.all fun i=>wC p f i)&&(A4 f b.End&&r.all (Bt p f)))) (fun j l x r2 a e d g h=>?_) (fun j h=>?_) h
  ·simp only[bP a,Int.toNat_natCast,e,a,af9,and_self,true_and,if_true];rw[agF,Bool.and_assoc]at h;refine⟨hp b k x d,ifk (fun hc=>?_) (fun hc=>g c ?_)⟩
   all_goals grind
  grind [A4]
 grind
theorem EJ(p:Lt.Program)(hp:cO p)(KK:Int->Prop)(h:KK (di p)):yG p KK:=by
 unfold yG;unfold di at h;obtain⟨g,hf⟩:=hp;dsimp only;intro _;refine⟨⟨by simp,by simp only[af4,agB];omega⟩,?_⟩;refine ifk (fun hc=>?_) (fun hc=>by rw[if_pos (.inl (by simpa using hc))]at h;exact h);refine ifk (fun b=>by rw[if_pos (.inr (by simpa using b))]at h;exact h) (fun b=>?_);have b:jJ p=true:=by simpa using b
 rw[if_neg (by rw[hc,b];simp)]at h;refine⟨⟨by simp,by simp only[af4,agB];omega⟩,trivial,?_⟩;refine ifk (fun d=>by rw[if_pos (by simpa using d)]at h;exact h) (fun d=>?_);rw[if_neg (by simpa using d)]at h;refine⟨⟨by simp,by simp only[af4,agB];omega⟩,g,?_⟩;refine ifk (fun c=>by rw[if_pos (by simpa using c)]at h;exact h) (fun c=>?_);rw[if_neg (by simpa using c)]at h;intro _;refine bN p.Funcs (fun l=>KK (B7 p l)) (fun R i x r hi hx j ih h=>?_) (fun R h=>?_) h
 ·rw[if_pos (bP hi)];refine⟨ob hi,fun _=>?_⟩;dsimp +instances only [Int.toNat_natCast]
  rw[hx];obtain⟨h1,h2,h3,h4,h5⟩:=hf x j;unfold B7 at h;refine⟨⟨by simp,by simp only[af4,agB];omega⟩,h2,?_⟩;refine ifk (fun a=>by rw[if_pos (by simpa using a)]at h;exact h) (fun a=>?_);have a:gi x=true:=by simpa using a
  rw[if_neg (by rw[a];simp)]at h;refine⟨⟨by simp,by simp only[af4,agB];omega⟩,h1,?_⟩;refine ifk (fun f=>by rw[if_pos (by simpa using f)]at h;exact h) (fun f=>?_);rw[if_neg (by simpa using f)]at h;refine⟨⟨by simp,by simp only[af4,agB];omega⟩,⟨⟨h2,?_,h3,h4⟩,h5⟩,?_⟩
  ·unfold gi at a;exact EF.1 a
  ·refine ifk (fun e=>by rw[if_pos (by simpa using e)]at h;exact h) (fun e=>?_);rw[if_neg (by simpa using e)]at h;exact ih (by assumption) h
 ·rw[if_neg (by simp)];exact h
theorem Fw(p:Lt.Program):∀l:List Lt.Func,B7 p l=0 ↔ ∀f∈l,gi f=true/\qi p f=true/\jG f=true
 |[]=>by simp[B7]
 |f::r=>by
  have ih:=Fw p r
  unfold B7;simp only[agC,forall_eq_or_imp];rw[<- ih];by_cases h1:gi f=false
  ·rw[if_pos h1];simp[h1]
  ·rw[if_neg h1];by_cases h2:qi p f=false
   ·rw[if_pos h2];simp[h2]
   ·rw[if_neg h2];by_cases h3:jG f=false
    ·rw[if_pos h3];simp[h3]
    ·rw[if_neg h3];simp only[agP]at h1 h2 h3;simp[h1,h2,h3]
theorem U7(p:Lt.Program):di p=0 ↔ bB p=true/\jJ p=true/\ki p=true/\iW p=true/\B7 p p.Funcs=0:=by
 unfold di;cases h1:bB p with
 |false=>simp
 |true=>
  cases h2:jJ p with
  |false=>simp
  |true=>
   cases h3:ki p with
   |false=>simp
   |true=>
    cases h4:iW p with
    |false=>simp
    |true=>simp
variable{α:Type}
theorem kk{KK:α->Prop}{a b:α}(h:KK a)(e:a=b):KK b:=e ▸ h
theorem VV(s:List UInt8)(KK:Bool->Prop)(h:KK (Lt.kept s)):TF s KK:=by
 simp_all[TF,aq,jval,Lt.kept,Bool.or_assoc]
theorem VW(s:List UInt8)(KK:Bool->Prop)(h:KK (Lt.kind s)):TG s KK:=by
 simp_all[TG,aq,jval,Lt.kind,Bool.or_assoc]
theorem Mv(c:UInt8)(KK:Bool->Prop)(h:KK (Lt.letter c)):Gc c KK:=by
 unfold Gc;(try simp only[aq,az,aC,jval,bor,band,bnand,bimp,and_self])
 grind [Lt.letter,ue]
theorem BV(c:UInt8)(KK:Bool->Prop)(h:KK (j0 c)):wR c KK:=by
 unfold wR;(try simp only[aq,az,aC,jval,bor,band,bnand,bimp,and_self]);exact h
theorem Ry(n:Int)(KK:Int->Prop)(h:KK (Lt.Plain n)):N6 n KK:=by
 simp_all[N6,aq,jval,Lt.Plain]
theorem VS(s:List UInt8)(KK:Bool->Prop)(h:KK (Lt.Name s)):Tx s KK:=by
 unfold Tx;(try simp only[aq,az,aC,jval,bor,band,bnand,bimp,and_self,afE,afW,afX]);have hn:¬ s=[]->0<s.length:=by grind
 refine⟨fun h1 h2=>⟨Int.le_refl _,by grind⟩,?_⟩;split
 ·grind [Lt.Name]
 intro hl;refine dM (α:=UInt8) s hl ic true KK _ (fun R i hi ih a=>?_) (fun R h=>?_) (kk h ?_)
 all_goals grind [ic,Lt.Name]
theorem RN(l:List Lt.Var)(most:Int)(KK:Bool->Prop)(h:KK (Lt.typed l most)):Ol l most KK:=by
 unfold Ol;(try simp only[aq,az,aC,jval,bor,band,bnand,bimp,and_self]);unfold Lt.typed at h;intro hl;split
 ·grind
 intro _;refine dM l hl (fun v=>Lt.Name v.Name&&Lt.kind v.Type_) true KK _ (fun R i hi ih a=>?_) (fun R h=>?_) (kk h ?_)
 all_goals grind
theorem BW(a:Lt.Arg)(KK:Bool->Prop)(h:KK (aU a)):wT a KK:=by
 unfold wT;(try simp only[aq,az,aC,jval,bor,band,bnand,bimp,and_self])
 grind [aU]
theorem EO(l:List Lt.Arg)(objs:Bool)(KK:Bool->Prop)(h:KK (bE l objs)):yL l objs KK:=by
 unfold yL;(try simp only[aq,az,aC,jval,bor,band,bnand,bimp,and_self]);intro hl;refine dM l hl (bb objs) true KK _ (fun R i hi ih a=>?_) (fun R h=>?_) (kk h ?_)
 all_goals grind [bb,bE]
theorem Uq(a:Lt.Arg)(o:Bool):bE [a] o=bb o a:=by simp[bE]
theorem RD(f:Lt.Frame)(KK:Bool->Prop)(h:KK (Lt.frame f)):Oa f KK:=by
 unfold Oa;(try simp only[aq,az,aC,jval,bor,band,bnand,bimp,and_self]);unfold Lt.frame at h;split
 ·grind
 intro hl;refine dM f.Vars hl gF true KK _ (fun R i hi ih a=>?_) (fun R h=>?_) (kk h ?_)
 all_goals grind [Int.toNat_natCast,Uq,gF]
theorem Y5(l:List UInt8)(n:Int)(KK:List UInt8->Prop)(h:KK (Lt.nth l n)):Z9 l n KK:=by
 unfold Z9;(try simp only[aq,az,aC,aZ,cc,jval,bor,band,bnand,bimp,and_self]);unfold Lt.nth at h;by_cases hl:l.length<=LEN
 ·refine aO _ (l.length+1) (fun k x=>∃(n:Int)(f i:Nat),x=(n,(f:Int),(i:Int))/\i=k+1/\f<i/\f<=l.length/\KK (E2 l (l.length+1-k) n f i)) (fun R k x hk a d=>?_) (fun R x a=>?_) _ ⟨n,0,1,rfl,by omega,by omega,by omega,h⟩
  ·obtain⟨n,f,i,rfl,c,hf,b,h⟩:=a;intro _;by_cases hi:i<l.length
   ·simp only[bP hi,if_true,Int.toNat_natCast];refine⟨⟨af9 i,hi⟩,?_⟩;rw[show l.length+1-k=(l.length+1 - (k+1))+1 by omega]at h;simp only[E2,hi,if_true]at h
    grind [au]
   have hf:decide ((i:Int) < (l.length:Int))=false:=by grind
   simp only[hf,agA,if_false];rw[show l.length+1-k=(l.length+1 - (k+1))+1 by omega]at h
   grind [E2]
  obtain⟨n,f,i,rfl,c,hf,b,h⟩:=a;intro _;have hf:decide ((i:Int) < (l.length:Int))=false:=by grind
  simp only[hf,agA,if_false];rw[show l.length+1 - (l.length+1)=0 by omega]at h;exact h
 exact⟨1,fun h=>absurd h hl⟩
theorem acY(op:Int)(KK:Lt.Form×Bool->Prop)(h:KK (Lt.Of op)):adZ op KK:=by
 unfold adZ;(try simp only[aq,az,aC,jval,bor,band,bnand,bimp,and_self])
 grind [Lt.Of,Lt.two]
theorem Y9(l:List α):((l.length:Int)=0)=(l=[]):=by
 simp_all
theorem Y6(x:Lt.Phi)(KK:Bool->Prop)(h:KK (Lt.phi x)):aaA x KK:=by
 unfold aaA;(try simp only[aq,az,aC,aZ,cc,jval,bor,band,bnand,bimp,and_self]);have e0:=Y9 x.Ins
 unfold Lt.phi at h;split
 ·grind
 intro hl;refine dM x.Ins hl ll true KK _ (fun R i hi ih a=>?_) (fun R h=>?_) (kk h ?_)
 all_goals grind [Int.toNat_natCast,Uq,ll]
theorem Wp(a:Lt.Arg):(decide (a.Kind=0)&&(decide (a.S=([]:List UInt8))&&decide (a.N=0)))=Dn a:=by
 obtain⟨k,s,n⟩:=a
 grind [Dn]
theorem Jf(t:Lt.Term)(KK:Bool->Prop)(h:KK (dp t)):Ct t KK:=by
 unfold Ct;(try simp only[aq,az,aC,aZ,cc,jval,bor,band,bnand,bimp,and_self]);intro hl;unfold dp at h;refine dM t.To hl Lt.Name _ KK _ (fun R i hi ih a=>?_) (fun R h=>?_) h
 ·grind
 simp only[ji,agA,if_false,Wp,Uq];have e0:((t.To.length:Int)=0)=(t.To.length=0):=propext kQ1
 have b:((t.To.length:Int)=1)=(t.To.length=1):=propext kQ1
 have c:((t.To.length:Int)=2)=(t.To.length=2):=propext kQ1
 grind
theorem RE(x:Lt.Instr)(KK:Bool->Prop)(h:KK (Lt.instr x)):Ob x KK:=by
 unfold Ob;dsimp only;(try simp only[aq,az,aC,jval,bor,band,bnand,bimp,and_self]);have e0:=Y9 x.Frames
 have d:=Y9 x.Objs
 unfold Lt.instr at h;refine ifk (fun hc=>kk h (by grind)) (fun f hl=>?_);refine ifk (fun hc=>kk h (by grind)) (fun c=>?_);refine ifk (fun hc hl=>kk h (by grind)) (fun e hl=>?_);refine dM x.Frames hl Lt.frame (x.Objs.all Lt.virt) KK _ (fun R i hi ih b=>?_) (fun R h=>?_) (kk h ?_)
 ·grind [Int.toNat_natCast]
 ·simp only[ji,agA,if_false];intro a;refine dM x.Objs a Lt.virt true KK _ (fun R i hi ih b=>?_) (fun R h=>?_) (kk h ?_)
  all_goals grind [Int.toNat_natCast,Lt.virt]
 grind
theorem RB(b:Lt.Block)(KK:Bool->Prop)(h:KK (Lt.block b)):N9 b KK:=by
 unfold N9;(try simp only[aq,az,aC,jval,bor,band,bnand,bimp,and_self]);unfold Lt.block at h;split
 ·grind
 intro hl;refine dM b.Phis hl Lt.phi (b.Code.all Lt.instr) KK _ (fun R i hi ih c=>?_) (fun R h=>?_) (kk h ?_)
 ·grind [Int.toNat_natCast]
 ·simp only[ji,agA,if_false];intro a;refine dM b.Code a Lt.instr true KK _ (fun R i hi ih c=>?_) (fun R h=>?_) (kk h ?_)
  all_goals grind [Int.toNat_natCast]
 grind
theorem vR(f:Lt.Func)(KK:Bool->Prop)(h:KK (ay f)):oK f KK:=by
 unfold oK;dsimp only;(try simp only[aq,az,aC,jval,bor,band,bnand,bimp,and_self]);have e0:=Y9 f.Blocks
 unfold ay at h;refine ifk (fun hc=>kk h (by grind)) (fun j hl=>?_);refine nu f.Blocks hl (fun(b:{b:Nat // b<=1024}) i=>((b.1:Int),i)) (fun t b=>Lt.blocks t b.1) KK _ (fun R b i hi ih h=>?_) (fun R b h=>?_) ⟨0,by omega⟩ (kk h (by grind))
 ·obtain⟨b,hb⟩:=b;simp only[bP hi,if_true,Int.toNat_natCast]
  try dsimp +instances only [Int.toNat_natCast]
  refine⟨⟨af9 i,hi⟩,?_⟩;generalize f.Blocks.getD i default=x at h;obtain⟨g,d,c,⟨k,a,t,n⟩⟩:=x;dsimp only at h ih⊢;simp only[Lt.blocks]at h;intro _;refine ifk (fun hc=>kk h (by grind)) (fun hc _ _=>?_);simp only[ag2,decide_eq_true_eq,not_or]at hc;have w1:i64.wrap ((d.length:Int)+(c.length:Int))=((d.length+c.length:Nat):Int):=by grind [dk]
  have w2:i64.wrap ((b:Int)+((d.length+c.length:Nat):Int))=((b+(d.length+c.length):Nat):Int):=by grind [dk]
  rw[w1,w2];refine ifk (fun hc=>kk h (by grind)) (fun hc=>?_);have e:b+(d.length+c.length)<=1024:=by grind
  exact ih ⟨_,e⟩ (kk h (by grind))
 grind [Lt.blocks]
theorem BS(p:Lt.Program)(KK:Bool->Prop)(h:KK (bB p)):wO p KK:=by
 unfold wO;dsimp only;(try simp only[aq,az,aC,jval,bor,band,bnand,bimp,and_self]);unfold bB at h;intro _;refine ifk (fun hc=>kk h (by grind)) (fun d hl=>?_);refine dM p.Classes hl bF (p.Externs.all bW&&p.Funcs.all ay) KK _ (fun R i hi ih c=>?_) (fun R h=>?_) (kk h (by grind))
 ·grind [Int.toNat_natCast,bF]
 simp only[ji,agA,if_false];intro a;refine dM p.Externs a bW (p.Funcs.all ay) KK _ (fun R i hi ih c=>?_) (fun R h=>?_) h
 ·grind [Int.toNat_natCast,bW]
 simp only[ji,agA,if_false];intro b;refine dM p.Funcs b ay true KK _ (fun R i hi ih c=>?_) (fun R h=>?_) (kk h (by simp))
 all_goals grind [Int.toNat_natCast]
theorem bL[Inhabited α]{l:List α}{P:α->Prop}(h:∀x∈l,P x){i:Nat}(hi:i<l.length):P (l.getD i default):=h _ (bd l hi)
theorem dP[Inhabited α](l:List α)(most:Int)(a:List α->Int->Int)(h0:∀b,a [] b=b)(h1:∀x r b,¬ b<=most->a (x::r) b=b)(KK:Int->Prop)(A B:(Int×Int->Prop)->Int×Int->Prop)
  (hs:∀R b i,l.length<=LEN->i<l.length->b<=most->(∀b',KK (a (l.drop (i+1)) b')->R (b',i64.wrap ((i:Int)+1)))->KK (a (l.getD i default::l.drop (i+1)) b)->A R (b,(i:Int)))
  (he:∀R b i,KK b->B R (b,i)) (b:Int) (h:KK (a l b)):ab (fun R v=>l.length<=4611686018427387904->if(decide (v.2 < (l.length:Int))&&decide (v.1<=most))=true then A R v else B R v) (b,0):=by
 by_cases hl:l.length<=LEN
 ·refine Q4 l hl a KK _ (fun R b i hi ih h _=>?_) (fun R b h _=>?_) b h
  all_goals grind
 exact⟨1,fun h=>absurd h hl⟩
theorem BN(l:List Lt.Var)(most:Int)(KK:Int->Prop)(h:KK (db l most)):wJ l most KK:=by
 unfold wJ;(try simp only[aq,az,aC,aZ,cc,jval,bor,band,bnand,bimp,and_self]);unfold db at h;intro _;refine ifk (fun hc=>kk h (by grind)) (fun hc _=>?_);refine dP l most (zo most) (fun _=>rfl) (fun x r b hb=>by simp[zo,hb]) KK _ _ (fun R b i hl hi hb ih h=>?_) (fun R b i h=>h) _ (kk h (by grind))
 grind [zo]
theorem BM(l:List Lt.Arg)(most:Int)(KK:Int->Prop)(h:KK (fA l most)):wI l most KK:=by
 unfold wI;(try simp only[aq,az,aC,aZ,cc,jval,bor,band,bnand,bimp,and_self]);unfold fA at h;intro _;refine ifk (fun hc=>kk h (by grind)) (fun hc _=>?_);refine dP l most (zn most) (fun _=>rfl) (fun x r b hb=>by simp[zn,hb]) KK _ _ (fun R b i hl hi hb ih h=>?_) (fun R b i h=>h) _ (kk h (by grind))
 grind [zn]
theorem Ak(x:Lt.Instr)(most:Int)(hp:aa1 x most)(KK:Int->Prop)(h:KK (gn x most)):s8 x most KK:=by
 obtain⟨⟨_,okF,_⟩,q⟩:=hp;unfold s8;dsimp only;(try simp only[aq,az,aC,jval,bor,band,bnand,bimp,and_self]);unfold gn at h;intro _;refine ifk (fun hc=>kk h (by grind)) (fun hc _ _ _=>?_);rw[if_neg hc]at h;intro J m;have hj:J (Lt.upto most (Lt.plus (Lt.plus (Lt.plus 1 x.Dst.length) x.Frames.length) x.Objs.length) (x.Name.length:Int)):=by
  refine m _ ?_;dsimp only;refine dP x.Frames most (kZ most) (fun _=>rfl) (fun x r b hb=>by simp[kZ,hb]) (fun n=>KK (tE most x.Objs n)) _ _ (fun R b i hl hi hb ih h=>?_) (fun R b i h=>?_) _ (kk h (by grind [Lt.upto]))
  ·simp only[Int.toNat_natCast]
   try dsimp +instances only [Int.toNat_natCast]
   have o:(0:Int)<=(i:Int)/\i<x.Frames.length:=⟨af9 i,hi⟩
   simp only[o,and_self,true_and];intro _;simp only[kZ,Lt.plus,hb,if_true]at h;have a:=bL okF hi
   generalize x.Frames.getD i default=f at h a⊢;intro l c;have e:l (if i64.wrap (b+(f.Func.length:Int))<=most then i64.wrap (i64.wrap (b+(f.Func.length:Int))+(f.Block.length:Int))else i64.wrap (b+(f.Func.length:Int))):=by
    refine c _ ?_;refine dP f.Vars most (oW most) (fun _=>rfl) (fun x r b hb=>by simp[oW,hb]) (fun n=>KK (tE most x.Objs (kZ most (x.Frames.drop (i+1)) n))) _ _ (fun d b2 j g hj k p h=>?_) (fun d b2 j h=>?_) _ (kk h (by grind))
    ·simp only[Int.toNat_natCast]
     try dsimp +instances only [Int.toNat_natCast]
     have o2:(0:Int)<=(j:Int)/\j<f.Vars.length:=⟨af9 j,hj⟩
     simp only[o2,and_self,true_and];(try simp only[aq,az,aC,aZ,cc,jval,bor,band,bnand,bimp,and_self])
     grind [oW]
    grind
   grind
  refine dP x.Objs most (tE most) (fun _=>rfl) (fun x r b hb=>by simp[tE,hb]) KK _ _ (fun R b i hl hi hb ih h=>?_) (fun R b i h=>h) _ h;simp only[Int.toNat_natCast]
  try dsimp +instances only [Int.toNat_natCast]
  have o:(0:Int)<=(i:Int)/\i<x.Objs.length:=⟨af9 i,hi⟩
  simp only[o,and_self,true_and];(try simp only[aq,az,aC,aZ,cc,jval,bor,band,bnand,bimp,and_self])
  grind [tE]
 grind [Lt.upto]
theorem Aj(b:Lt.Block)(most:Int)(hp:aa0 b most)(KK:Int->Prop)(h:KK (gm b most)):s7 b most KK:=by
 obtain⟨⟨okP,okC,f⟩,e⟩:=hp;unfold s7;dsimp only;(try simp only[aq,az,aC,jval,bor,band,bnand,bimp,and_self]);unfold gm at h;intro _;refine ifk (fun hc=>kk h (by grind)) (fun hc _=>?_);rw[if_neg (by grind)]at h;intro J g;have hj:J (Lt.upto most (Lt.plus 1 b.Name.length) (b.End.A.S.length:Int)):=by
  refine g _ ?_;refine dP b.End.To most (Lt.cTo most) (fun _=>rfl) (fun x r b hb=>by simp[Lt.cTo,hb]) (fun n=>KK (rk most b.Code (tF most b.Phis n))) _ _ (fun R n i hl hi hb ih h=>?_) (fun R n i h=>?_) _ h
  ·grind [Lt.cTo]
  refine dP b.Phis most (tF most) (fun _=>rfl) (fun x r b hb=>by simp[tF,hb]) (fun n=>KK (rk most b.Code n)) _ _ (fun R n i hl hi hb ih h=>?_) (fun R n i h=>?_) _ h
  ·simp only[Int.toNat_natCast]
   try dsimp +instances only [Int.toNat_natCast]
   have o:(0:Int)<=(i:Int)/\i<b.Phis.length:=⟨af9 i,hi⟩
   simp only[o,and_self,true_and];intro _;simp only[tF,Lt.plus,hb,if_true]at h;generalize b.Phis.getD i default=x at h⊢;refine dP x.Ins most (G2 most) (fun _=>rfl) (fun x r b hb=>by simp[G2,hb]) (fun n=>KK (rk most b.Code (tF most (b.Phis.drop (i+1)) n))) _ _ (fun a b2 j c hj d k h=>?_) (fun a b2 j h=>?_) _ h
   ·simp only[Int.toNat_natCast]
    try dsimp +instances only [Int.toNat_natCast]
    have o2:(0:Int)<=(j:Int)/\j<x.Ins.length:=⟨af9 j,hj⟩
    simp only[o2,and_self,true_and];(try simp only[aq,az,aC,aZ,cc,jval,bor,band,bnand,bimp,and_self])
    grind [G2]
   grind
  refine dP b.Code most (rk most) (fun _=>rfl) (fun x r b hb=>by simp[rk,hb]) KK _ _ (fun R n i hl hi hb ih h=>?_) (fun R n i h=>h) _ h;simp only[Int.toNat_natCast]
  try dsimp +instances only [Int.toNat_natCast]
  refine⟨⟨af9 i,hi⟩,⟨bL okC hi,e⟩,?_⟩
  grind [rk]
 grind [Lt.upto]
theorem I5(f:Lt.Func)(most:Int)(hp:aa2 f most)(KK:Int->Prop)(h:KK (m6 f most)):Ci f most KK:=by
 obtain⟨okB,c⟩:=hp;unfold Ci;dsimp only;(try simp only[aq,az,aC,jval,bor,band,bnand,bimp,and_self]);unfold m6 at h;intro _;refine ifk (fun hc=>kk h (by grind)) (fun hc _=>?_);rw[if_neg (by grind)]at h;intro J a;have hj:J (Lt.upto most (Lt.plus 1 f.Name.length) (f.Result.length:Int)):=by
  refine a _ ?_;refine dP f.Blocks most (nh most) (fun _=>rfl) (fun x r b hb=>by simp[nh,hb]) KK _ _ (fun R n i hl hi hb ih h=>?_) (fun R n i h=>h) _ (kk h (by grind [Lt.upto]));simp only[Int.toNat_natCast]
  try dsimp +instances only [Int.toNat_natCast]
  refine⟨⟨af9 i,hi⟩,⟨bL okB hi,c⟩,?_⟩
  simp_all[nh]
 grind [Lt.upto]
theorem Y4(p:Lt.Program)(most:Int)(hp:WG p most)(KK:Bool->Prop)(h:KK (Lt.Few p most)):Z8 p most KK:=by
 obtain⟨okF,a⟩:=hp;unfold Z8;dsimp only;(try simp only[aq,az,aC,aZ,cc,jval,bor,band,bnand,bimp,and_self]);unfold Lt.Few at h;intro _;refine ifk (fun hc=>kk h (by grind)) (fun hc=>?_);rw[if_neg (by grind)]at h;refine dP p.Classes most (kf most) (fun _=>rfl) (fun x r b hb=>by simp[kf,hb]) (fun n=>KK (decide (ni most p.Funcs (jd most p.Externs n)<=most))) _ _ (fun R n i hl hi hb ih h=>?_) (fun R n i h=>?_) _ h
 ·grind [kf]
 refine dP p.Externs most (jd most) (fun _=>rfl) (fun x r b hb=>by simp[jd,hb]) (fun n=>KK (decide (ni most p.Funcs n<=most))) _ _ (fun R n i hl hi hb ih h=>?_) (fun R n i h=>?_) _ h
 ·grind [jd]
 refine dP p.Funcs most (ni most) (fun _=>rfl) (fun x r b hb=>by simp[ni,hb]) (fun n=>KK (decide (n<=most))) _ _ (fun R n i hl hi hb ih h=>?_) (fun R n i h=>h) _ h;simp only[Int.toNat_natCast]
 try dsimp +instances only [Int.toNat_natCast]
 refine⟨⟨af9 i,hi⟩,⟨bL okF hi,a⟩,?_⟩
 grind [ni]
end Go.Am
end
