/-
  Part 12: AmL28 · AmL20c · AmL29 · AmL30 · AmPkS.
-/
import Derived.Test.YthhkhcolidkemaaGreatDoorCs11
set_option linter.unusedSimpArgs false
set_option linter.unusedVariables false
set_option linter.unusedSectionVars false
set_option linter.unnecessarySimpa false
open Lt
open Go.IntKind (i64)
section
namespace Go.Am
open Go
open Lt (nmB toB Gd Rc bkB phB cR Bare bj pm mM)
theorem abM(m:VM)(k v:a8):v∈(cQ .s m k true).map (·.1) ↔ v∈m.map (·.1)\/v=k:=by
 grind [m7]
theorem abG(m:VM)(k:a8):(cQ .s m k true).length<=m.length+1:=by
 grind [m7,ajH]
theorem ze{α:Type}[Inhabited α]{body:(Int×VM->Prop)->Int×VM->Prop}(l:List α)(ar:α->Lt.Arg)(m:VM)(Q:VM->Prop)
  (hs:∀R(i:Nat)m,i<l.length->l.length<=4611686018427387904->((ar (l.getD i default)).Kind=1->R (i64.wrap ((i:Int)+1),cQ .s m (ar (l.getD i default)).S true))->(¬ (ar (l.getD i default)).Kind=1->R (i64.wrap ((i:Int)+1),m))->body R ((i:Int),m))
  (b:∀R m,Q m->body R ((l.length:Int),m)) (hl:l.length<=4611686018427387904)
  (h:∀m',(∀v,v∈m'.map (·.1) ↔ v∈m.map (·.1)\/∃a∈l,(ar a).Kind=1/\(ar a).S=v)->m'.length<=m.length+l.length->Q m'):ab body (0,m):=by
 refine dl l (fun m i=>(i,m)) (fun r m=>∀m',(∀v,v∈m'.map (·.1) ↔ v∈m.map (·.1)\/∃a∈r,(ar a).Kind=1/\(ar a).S=v)->m'.length<=m.length+r.length->Q m') (fun R m i x r hi hx _ ih h=>hs R i m hi hl (fun hc=>ih hl _ fun m' hm hn=>h m' (fun v=>?_) ?_) (fun hc=>ih hl _ fun m' hm hn=>h m' (fun v=>?_) ?_)) (fun R m h=>b R m (h m (fun v=>by simp) (by simp))) m h
 all_goals grind [abM,abG]
theorem MY(x:Lt.Instr)(hp:io x)(KK:List a8->Prop)(h:∀y,uL x y->KK y):Gm x KK:=by
 unfold Gm;unfold io D1 at hp;dsimp only;intro l;refine ze x.Args id [] (fun m=>∀m',(∀v,v∈m'.map (·.1) ↔ v∈m.map (·.1)\/(∃f∈x.Frames,∃b∈f.Vars,b.A.Kind=1/\b.A.S=v)\/∃o∈x.Objs,∃a∈o.Vals,a.Kind=1/\a.S=v)->m'.length<=m.length+(x.Frames.map fun f=>f.Vars.length).sum+(x.Objs.map fun o=>o.Vals.length).sum->ld (some m')/\∀y,iS (some m') y->KK y) (fun R i m hi hl k1 k2=>?_) (fun R m d=>?_) l (fun m hm hn m' s hn'=>⟨⟨rfl,?_⟩,fun y hy=>h y fun v=>by rw[hy v];simp only[akP];rw[s,hm];simp only[List.map_nil,List.not_mem_nil,false_or,id];rfl⟩)
 ·rw[if_pos (aP hi)];intro J t
  grind
 rotate_left
 ·grind
 rw[if_neg (by simp)];intro j;refine dl x.Frames (fun m i=>(i,m)) (fun r m=>∀m',(∀v,v∈m'.map (·.1) ↔ v∈m.map (·.1)\/(∃f∈r,∃b∈f.Vars,b.A.Kind=1/\b.A.S=v)\/∃o∈x.Objs,∃a∈o.Vals,a.Kind=1/\a.S=v)->m'.length<=m.length+(r.map fun f=>f.Vars.length).sum+(x.Objs.map fun o=>o.Vals.length).sum->ld (some m')/\∀y,iS (some m') y->KK y) (fun R m i x' r hi hx _ ih h=>?_) (fun R m d=>?_) m d
 ·rw[if_pos (aP hi)];refine⟨ob hi,fun hl=>?_⟩;dsimp +instances only [Int.toNat_natCast]
  rw[hx];refine ze x'.Vars (·.A) m (fun m'=>∀c,(∀v,v∈c.map (·.1) ↔ v∈m'.map (·.1)\/(∃f∈r,∃b∈f.Vars,b.A.Kind=1/\b.A.S=v)\/∃o∈x.Objs,∃a∈o.Vals,a.Kind=1/\a.S=v)->c.length<=m'.length+(r.map fun f=>f.Vars.length).sum+(x.Objs.map fun o=>o.Vals.length).sum->ld (some c)/\∀y,iS (some c) y->KK y) (fun R i m hi hl k1 k2=>?_) (fun R m d=>?_) (by rw[<- hx];exact hl) (fun u e n q g p=>h q (fun v=>?_) ?_)
  ·rw[if_pos (aP hi)];intro J t
   grind [Int.toNat_natCast]
  ·rw[if_neg (by simp)];exact ih j _ d
  ·rw[g,e]
   grind
  grind
 rw[if_neg (by simp)];intro k;refine dl x.Objs (fun m i=>(i,m)) (fun r m=>∀m',(∀v,v∈m'.map (·.1) ↔ v∈m.map (·.1)\/∃o∈r,∃a∈o.Vals,a.Kind=1/\a.S=v)->m'.length<=m.length+(r.map fun o=>o.Vals.length).sum->ld (some m')/\∀y,iS (some m') y->KK y) (fun R m i x' r hi hx _ ih h=>?_) (fun R m d=>?_) m (fun m' hm hn=>d m' (fun v=>by grind) kQ1)
 ·rw[if_pos (aP hi)];refine⟨ob hi,fun hl=>?_⟩;dsimp +instances only [Int.toNat_natCast]
  rw[hx];refine ze x'.Vals id m (fun m'=>∀c,(∀v,v∈c.map (·.1) ↔ v∈m'.map (·.1)\/∃o∈r,∃a∈o.Vals,a.Kind=1/\a.S=v)->c.length<=m'.length+(r.map fun o=>o.Vals.length).sum->ld (some c)/\∀y,iS (some c) y->KK y) (fun R i m hi hl k1 k2=>?_) (fun R m d=>?_) (by rw[<- hx];exact hl) (fun u e n q g p=>h q (fun v=>?_) ?_)
  ·rw[if_pos (aP hi)];intro J t
   grind [Int.toNat_natCast]
  ·rw[if_neg (by simp)];exact ih k _ d
  ·rw[g,e]
   grind
  grind
 grind
theorem Jv(s:Lt.Vs)(b:Lt.Block)(hp:XY s b)(KK:Bool->Prop)(h:KK (nS s b)):Cp s b KK:=by
 unfold Cp;have o:¬ mM (fun v=>bj s v=true) b->KK false:=fun K=>by grind [nS,sH]
 have kT:mM (fun v=>bj s v=true) b->KK true:=fun K=>by grind [nS,pQ]
 dsimp only;obtain⟨hp,u⟩:=hp;refine⟨hp,fun hl=>?_⟩;have es:some (s.getD [])=s:=by cases s<;>grind
 have g:∀i,i<b.Code.length->io (b.Code.getD i default):=fun i hi=>u _ (aC _ hi)
 let D:Nat->List a8:=fun i=>((b.Code.take i).map (·.Dst)).filter fun d=>!decide (d=[])
 have F:∀i v,i<b.Code.length->(v∈D (i+1) ↔ v∈D i\/(v=(b.Code.getD i default).Dst/\v≠[])):=fun i v hi=>by
  grind [ba]
 have M:∀v,v ∉ D 0:=fun v hv=>by grind
 have t:D b.Code.length=cR b:=by
  show List.filter _ _=_
  rw[alG];rfl
 refine au _ b.Code.length (fun i v=>v.1=(i:Int)/\(∀w,bj (some v.2) w=true ↔ bj s w=true\/w∈D i)/\∀j,j<i->∀w,pm (b.Code.getD j default) w->bj s w=true\/w∈D j) (fun R i v hi⟨e,h1,h2⟩ih=>?_) (fun R v⟨e,h1,h2⟩=>?_) _ ⟨rfl,fun w=>by grind,fun j hj=>by omega⟩
 ·obtain⟨L,m⟩:=v;dsimp only at e h1 h2⊢;subst e;rw[if_pos (aP hi)];intro E a;dsimp +instances only [Int.toNat_natCast]at a⊢
  have hd:=F i
  have l:=g i hi
  have o:(¬ ∀w,pm (b.Code.getD i default) w->bj s w=true\/w∈D i)->KK false:=fun hn=>o fun hb=>hn (hb.1 i hi)
  have on:(∀w,pm (b.Code.getD i default) w->bj s w=true\/w∈D i)->∀m',(∀w,bj (some m') w=true ↔ bj s w=true\/w∈D (i+1))->E m':=fun k m' z=>a _ (ih _ ⟨ae kQ1,z,fun j hj w hw=>by
   grind⟩)
  generalize b.Code.getD i default=x at hd o on l⊢;refine⟨ob hi,fun J f=>⟨l,fun y hy C=>?_⟩⟩;have B:(¬ ∀w,pm x w->bj s w=true\/w∈D i)->J true:=fun hn=>f _ (by grind)
  refine au _ y.length (fun j v=>v=(j:Int)/\∀q,q<j->bj (some m) (y.getD q default)=true) (fun I j v hj⟨e,hq⟩p=>?_) (fun I v⟨e,hq⟩=>?_) _ ⟨rfl,fun q hq=>by omega⟩
  ·subst e;rw[if_pos (aP hj)];refine⟨ob hj,?_⟩;rw[Int.toNat_natCast];refine ifk (fun hc=>B fun k=>?_) (fun hc=>p _ ⟨ae kQ1,fun q H=>?_⟩)
   ·have:=(h1 _).2 (k _ ((hy _).1 (aC _ hj)))
    have hc:(!bj (some m) (y.getD j default))=true:=hc
    grind
   rcases akM q j with h'|h'
   ·grind
   obtain rfl:q=j:=by omega
   have hc:¬ (!bj (some m) (y.getD q default))=true:=hc
   grind
  subst e;rw[if_neg (by simp)];have k:∀w,pm x w->bj s w=true\/w∈D i:=fun w hw=>by
   obtain⟨q,G,e⟩:=ajU.1 ((hy w).2 hw)
   grind
  refine f _ ?_;show if false then KK false else _
  rw[if_neg (by simp)];refine ifk (fun hc=>on k _ fun w=>?_) (fun hc=>on k _ fun w=>?_)
  ·grind [Je]
  grind
 obtain⟨L,m⟩:=v;dsimp only at e h1 h2⊢;subst e;rw[if_neg (by simp)];rw[t]at h1;intro r n;have fin:∀c:Bool,(c=true ↔ ((b.End.Kind=2\/b.End.Kind=3)->b.End.A.Kind=1->bj s b.End.A.S=true\/b.End.A.S∈cR b))->r c:=fun c hc=>by
  refine n _ ?_;show KK c
  cases c with
  |true=>exact kT ⟨h2,hc.1 rfl⟩
  |false=>exact o fun hb=>by have:=hc.2 hb.2;grind
 have hm:∀w,(aL (β:=Bool) .s m w).getD (dflt .bo)=bj (some m) w:=fun w=>rfl
 grind
theorem Jw(f:Lt.Func)(s a:a8)(KK:Bool->Prop)(h:KK (xV f s a)):Cq f s a KK:=by
 unfold Cq;intro hl;refine bO f.Blocks (fun l=>KK (sK a s l)) (fun R i x r hi hx _ ih h=>?_) (fun R h=>?_) h
 ·grind [sK]
 rw[if_neg (by simp)];exact h
theorem MS(f:Lt.Func)(o:Option (List (a8×Lt.Vs)))(KK:Bool->Prop)(h:KK (zg f o)):Gi f o KK:=by
 unfold Gi;dsimp only;unfold zg at h;intro _;refine bO f.Blocks (fun l=>KK (l.all fun b=>b.Phis.all fun x=>x.Ins.all (p6 f o b))) (fun R i b r hi hx _ ih h=>?_) (fun R h=>?_) h
 ·rw[if_pos (aP hi)];refine⟨ob hi,?_⟩;dsimp +instances only [Int.toNat_natCast]
  rw[hx];intro _;rw[ajJ]at h;refine bO b.Phis (fun l=>KK ((l.all fun x=>x.Ins.all (p6 f o b))&&r.all fun b=>b.Phis.all fun x=>x.Ins.all (p6 f o b))) (fun k t x r3 d g _ p h=>?_) (fun k h=>?_) h
  ·rw[if_pos (aP d)];refine⟨ob d,?_⟩;dsimp +instances only [Int.toNat_natCast]
   rw[g];intro _;rw[ajJ]at h;refine bO x.Ins (fun l=>KK ((l.all (p6 f o b)&&r3.all fun x=>x.Ins.all (p6 f o b))&&r.all fun b=>b.Phis.all fun x=>x.Ins.all (p6 f o b))) (fun m q y r5 a j _ n h=>?_) (fun m h=>?_) h
   ·rw[if_pos (aP a)];refine⟨ob a,?_⟩;dsimp +instances only [Int.toNat_natCast]
    rw[j];rw[ajJ]at h;intro J s;have fin:∀c:Bool,c=!p6 f o b y->J c:=fun c e=>by
     grind
    unfold p6 at fin;refine ifk (fun h1=>?_) (fun h1=>fin _ (by grind));rw[h1]at fin;refine ifk (fun h2=>?_) (fun h2=>fin _ (by grind));rw[h2]at fin;refine ifk (fun h3=>fin _ (by grind)) (fun h3=>fin _ ?_);rw[show(!decide (y.A.Kind=1))=false from by grind];rfl
   grind
  grind
 grind
theorem Do(a s:a8):∀(l:List Lt.Block)(k:Nat),k<l.length->(l.getD k default).Name=s->(∀j,j<k->(l.getD j default).Name≠s)->sK a s l=vW (l.getD k default).End.To a
 |[],k,h,_,_=>absurd h (Nat.not_lt_zero _)
 |b::r,0,_,hn,_=>by
  grind [sK]
 |b::r,k+1,h,hn,hj=>by
  have h0:¬ b.Name=s:=hj 0 (Nat.succ_pos _)
  unfold sK;rw[if_neg h0];exact Do a s r k (Nat.lt_of_succ_lt_succ h) hn fun j h'=>hj (j+1) (Nat.succ_lt_succ h')
theorem Du{β:Type}(v:β):∀(m:List (a8×β))(k0 k:a8),aL .s (cQ .s m k0 v) k=if k0=k then some v else aL .s m k
 |[],k0,k=>by
  grind [cQ,aL,uq]
 |x::l,k0,k=>by
  have ih:=Du v l k0 k
  grind [cQ,aL,uq]
def agQ(f:Lt.Func)(i:Nat)(m:List (a8×Lt.Vs)):Prop:=
 ∀s,(∀k,k<i->nmB f.Blocks k=s->∃V,aL .s m s=some V/\∀w,bj V w=true ↔ yZ f k w)/\((∀k,k<i->nmB f.Blocks k≠s)->aL .s m s=none)
theorem XT{f:Lt.Func}{m:List (a8×Lt.Vs)}(c:Gd f.Blocks)(h:agQ f f.Blocks.length m):zg f (some m)=true ↔ sm f:=by
 have key:∀(b:Lt.Block)(i:Lt.In),p6 f (some m) b i=true ↔ ∀k,k<f.Blocks.length->nmB f.Blocks k=i.Block->b.Name∈toB f.Blocks k->i.A.Kind=1->yZ f k i.A.S:=by
  intro b i;unfold p6;rw[akP];by_cases a:∃k,k<f.Blocks.length/\nmB f.Blocks k=i.Block
  ·obtain⟨k,hk,hn⟩:=a;obtain⟨V,d,hw⟩:=(h i.Block).1 k hk hn
   grind [xV,Do,Gd.nd,Sz]
  have hn:∀k,k<f.Blocks.length->nmB f.Blocks k≠i.Block:=fun k hk e=>a ⟨k,hk,e⟩
  rw[(h i.Block).2 hn]
  grind
 simp_all[zg,sm]
theorem Jx(f:Lt.Func)(hp:NY f)(KK:Bool->Prop)(h:KK (gk f)):Cr f KK:=by
 unfold Cr;obtain⟨hp,j⟩:=hp;have l:Gd f.Blocks:=hp.2.1
 have r:(¬ ((∀k,k<f.Blocks.length->mM (fun v=>¬ Bare f v k\/v∈phB f k) (bkB f k))/\sm f))->KK false:=fun l=>by grind [gk,sH]
 have kT:((∀k,k<f.Blocks.length->mM (fun v=>¬ Bare f v k\/v∈phB f k) (bkB f k))/\sm f)->KK true:=fun l=>by grind [gk,pQ]
 dsimp only;refine⟨hp,fun y hy o=>?_⟩;obtain⟨p,hy⟩:=hy;have c:∀k,k<f.Blocks.length->(nS (y.getD k default) (bkB f k)=true ↔ mM (fun v=>¬ Bare f v k\/v∈phB f k) (bkB f k)):=fun k hk=>by
  grind [nS,qQ]
 refine au _ y.length (fun i v=>v.1=(i:Int)/\(∀k,k<i->mM (fun v=>¬ Bare f v k\/v∈phB f k) (bkB f k))/\agQ f i v.2) (fun R i v hi⟨e,h1,g⟩ih=>?_) (fun R v⟨e,h1,g⟩=>?_) _ ⟨rfl,fun k hk=>by omega,fun s=>⟨fun k hk=>absurd hk (Nat.not_lt_zero _),fun _=>rfl⟩⟩
 ·obtain⟨t,m⟩:=v;dsimp only at e h1 g⊢;subst e;rw[if_pos (aP hi)];have hk:i<f.Blocks.length:=by omega
  have c:=c i hk
  have b:=(hy i hk).1
  intro q d;dsimp +instances only [Int.toNat_natCast]at d⊢
  refine⟨ob hi,ob hk,⟨b,j _ (aC _ hk)⟩,?_⟩;refine ifk (fun hc=>r fun n=>?_) (fun hc=>?_)
  ·simp_all
  have hc:¬ (!nS (y.getD i default) (bkB f i))=true:=hc
  have hb:=c.1 (by grind)
  have on:q (cQ .s m (nmB f.Blocks i) (iH (y.getD i default) (bkB f i))):=d _ (ih _ ⟨ae kQ1,fun k a=>by
   grind,fun s=>by
   dsimp only;rw[Du];refine⟨fun k a hn=>?_,fun hno=>?_⟩
   ·rcases akM k i with h'|h'
    ·rw[if_neg (fun e=>by grind [Gd.nd])];exact(g s).1 k h' hn
    grind [iH,yi,yZ]
   rw[if_neg (hno i (Nat.lt_succ_self _))];exact(g s).2 fun k a=>hno k (Nat.lt_succ_of_lt a)⟩)
  exact⟨ob hk,⟨ob hk,b,on⟩,b,ob hk,on⟩
 grind [XT]
end Go.Am
end

section
namespace Go.Am
open Go
theorem MT(f:Lt.Func)(hp:ka f)(KK:Int->Prop)(h:KK (ip f)):Gj f KK:=by
 unfold Gj;intro hl;refine dl f.Blocks (fun n i=>(n,i)) (fun r n=>KK (Lt.rsz r n)) (fun R n i x r hi hx _ ih h=>?_) (fun R n h=>?_) 0 h
 ·dsimp only;simp only[aP hi,Int.toNat_natCast,hx,hi,ajE,and_self,true_and,if_true];exact fun _=>ih hl _ h
 dsimp only;rw[if_neg (by simp)];exact h
theorem Jy(p:Lt.Program)(KK:Bool->Prop)(h:KK (iW p)):Ct p KK:=by
 unfold Ct;intro hl;refine bO p.Funcs (fun r=>KK (r.all mG&&!p.SSA)) (fun R i f r hi hx _ ih h=>?_) (fun R h=>?_) h
 ·try dsimp only
  simp only[aP hi,Int.toNat_natCast,hx,hi,ajE,and_self,true_and,if_true];rw[ajJ,Bool.and_assoc]at h;intro n;refine bO f.Blocks (fun r2=>KK (r2.all sV&&(r.all mG&&!p.SSA))) (fun m u b r2 a e _ t h=>?_) (fun m h=>?_) h
  ·try dsimp only
   simp only[aP a,Int.toNat_natCast,e,a,ajE,and_self,true_and,if_true];rw[ajJ,Bool.and_assoc]at h;unfold sV at h;intro o;refine ifk (fun hc=>?_) (fun hc k=>?_)
   ·grind [decide_eq_false]
   have q:¬ (0:Int) < (b.Phis.length:Int):=fun h0=>hc (decide_eq_true h0)
   rw[show decide (b.Phis.length=0)=true from decide_eq_true kQ1,aj3]at h;refine bO b.Code (fun r3=>KK (r3.all AQ&&(r2.all sV&&(r.all mG&&!p.SSA)))) (fun l v x r3 c d _ g h=>?_) (fun l h=>?_) h
   ·try dsimp only
    simp only[aP c,Int.toNat_natCast,d,c,ajE,and_self,true_and,if_true];rw[ajJ,Bool.and_assoc]at h;unfold AQ at h;intro J s _;have j:=s (!(decide (x.Frames.length=0)&&decide (x.Objs.length=0))) (by
     dsimp only;refine ifk (fun hc=>?_) (fun hc=>g k ?_)
     ·grind
     rw[show(decide (x.Frames.length=0)&&decide (x.Objs.length=0))=true from by grind,aj3]at h;exact h)
    grind [decide]
   grind
  grind
 grind
theorem ES(p:Lt.Program)(hp:DE p)(KK:Bool->Prop)(h:KK (ia p)):yF p KK:=by
 unfold yF;intro hl;refine kh p.Funcs rE true KK (fun R i f hi hx _ ih hf=>?_) (fun R h=>?_) (by rw[alJ];exact h)
 ·simp only[aP hi,Int.toNat_natCast,hx,hi,ajE,and_self,true_and,if_true];intro J a _
  grind [rE,ka]
 grind
theorem Jz(p:Lt.Program)(f:Lt.Func)(hp:lf p f)(KK:Bool->Prop)(h:KK (jW p f)):Cu p f KK:=by
 unfold Cu;intro hl;refine bO f.Blocks (fun r=>KK (r.all (tc p f))) (fun R i b r hi hx hm ih h=>?_) (fun R h=>?_) h
 ·simp only[aP hi,Int.toNat_natCast,hx,hi,ajE,and_self,true_and,if_true];intro d;rw[ajJ]at h;unfold tc at h;rw[Bool.and_assoc]at h;refine bO b.Code (fun r2=>KK ((r2.all fun i=>lx p f i)&&(uR f b.End&&r.all (tc p f)))) (fun j k x r2 a e c g h=>?_) (fun j h=>?_) h
  ·simp only[aP a,Int.toNat_natCast,e,a,ajE,and_self,true_and,if_true];rw[ajJ,Bool.and_assoc]at h;refine⟨hp b hm x c,ifk (fun hc=>?_) (fun hc=>g d ?_)⟩
   all_goals grind
  grind [uR]
 grind
theorem ER(p:Lt.Program)(hp:cZ p)(KK:Int->Prop)(h:KK (cu p)):yE p KK:=by
 unfold yE;unfold cu at h;obtain⟨g,hf⟩:=hp;dsimp only;intro _;refine⟨⟨by simp,by simp only[ajK,ajS];omega⟩,?_⟩;refine ifk (fun hc=>?_) (fun hc=>by rw[if_pos (.inl (by simpa using hc))]at h;exact h);refine ifk (fun b=>by rw[if_pos (.inr (by simpa using b))]at h;exact h) (fun b=>?_);have b:iW p=true:=by simpa using b
 rw[if_neg (by rw[hc,b];simp)]at h;refine⟨⟨by simp,by simp only[ajK,ajS];omega⟩,trivial,?_⟩;refine ifk (fun c=>by rw[if_pos (by simpa using c)]at h;exact h) (fun c=>?_);rw[if_neg (by simpa using c)]at h;refine⟨⟨by simp,by simp only[ajK,ajS];omega⟩,g,?_⟩;refine ifk (fun e=>by rw[if_pos (by simpa using e)]at h;exact h) (fun e=>?_);rw[if_neg (by simpa using e)]at h;intro _;refine bO p.Funcs (fun l=>KK (xP p l)) (fun R i x r hi hx hm ih h=>?_) (fun R h=>?_) h
 ·rw[if_pos (aP hi)];refine⟨ob hi,fun _=>?_⟩;dsimp +instances only [Int.toNat_natCast]
  rw[hx];obtain⟨h1,h2,h3,h4,h5⟩:=hf x hm;unfold xP at h;refine⟨⟨by simp,by simp only[ajK,ajS];omega⟩,h2,?_⟩;refine ifk (fun a=>by rw[if_pos (by simpa using a)]at h;exact h) (fun a=>?_);have a:di x=true:=by simpa using a
  rw[if_neg (by rw[a];simp)]at h;refine⟨⟨by simp,by simp only[ajK,ajS];omega⟩,h1,?_⟩;refine ifk (fun d=>by rw[if_pos (by simpa using d)]at h;exact h) (fun d=>?_);rw[if_neg (by simpa using d)]at h;refine⟨⟨by simp,by simp only[ajK,ajS];omega⟩,⟨⟨h2,?_,h3,h4⟩,h5⟩,?_⟩
  ·unfold di at a;exact qQ.1 a
  refine ifk (fun f=>by rw[if_pos (by simpa using f)]at h;exact h) (fun f=>?_);rw[if_neg (by simpa using f)]at h;exact ih (by assumption) h
 rw[if_neg (by simp)];exact h
theorem Qv(p:Lt.Program):∀l:List Lt.Func,xP p l=0 ↔ ∀f∈l,di f=true/\jW p f=true/\gk f=true
 |[]=>by simp[xP]
 |f::r=>by
  have ih:=Qv p r
  unfold xP;simp only[ajI,forall_eq_or_imp];rw[<- ih];by_cases h1:di f=false
  ·rw[if_pos h1];simp[h1]
  rw[if_neg h1];by_cases h2:jW p f=false
  ·rw[if_pos h2];simp[h2]
  rw[if_neg h2];by_cases h3:gk f=false
  ·rw[if_pos h3];simp[h3]
  rw[if_neg h3];simp only[ajV]at h1 h2 h3;simp[h1,h2,h3]
theorem afD(p:Lt.Program):cu p=0 ↔ aX p=true/\iW p=true/\ia p=true/\fI p=true/\xP p p.Funcs=0:=by
 unfold cu;cases h1:aX p with
 |false=>simp
 |true=>
  cases h2:iW p with
  |false=>simp
  |true=>
   cases h3:ia p with
   |false=>simp
   |true=>
    cases h4:fI p with
    |false=>simp
    |true=>simp
variable{α:Type}
theorem kk{KK:α->Prop}{a b:α}(h:KK a)(e:a=b):KK b:=e ▸ h
theorem W7(s:a8)(KK:Bool->Prop)(h:KK (Lt.kept s)):UO s KK:=by
 simp_all[UO,ac,jval,Lt.kept,Bool.or_assoc]
theorem W8(s:a8)(KK:Bool->Prop)(h:KK (Lt.kind s)):UP s KK:=by
 simp_all[UP,ac,jval,Lt.kind,Bool.or_assoc]
theorem MX(c:UInt8)(KK:Bool->Prop)(h:KK (Lt.letter c)):Gl c KK:=by
 unfold Gl;(try simp only[ac,am,aq,jval,bor,band,bnand,bimp,and_self])
 grind [Lt.letter,ut]
theorem BZ(c:UInt8)(KK:Bool->Prop)(h:KK (kq c)):wU c KK:=by
 unfold wU;(try simp only[ac,am,aq,jval,bor,band,bnand,bimp,and_self]);exact h
theorem SO(n:Int)(KK:Int->Prop)(h:KK (Lt.Plain n)):OT n KK:=by
 simp_all[OT,ac,jval,Lt.Plain]
theorem W4(s:a8)(KK:Bool->Prop)(h:KK (Lt.Name s)):UJ s KK:=by
 unfold UJ;(try simp only[ac,am,aq,jval,bor,band,bnand,bimp,and_self,ix,oO,oP]);have hn:¬ s=[]->0<s.length:=by grind
 refine⟨fun h1 h2=>⟨Int.le_refl _,by grind⟩,?_⟩;split
 ·grind [Lt.Name]
 intro hl;refine dv (α:=UInt8) s hl ik true KK _ (fun R i hi ih a=>?_) (fun R h=>?_) (kk h ?_)
 all_goals grind [ik,Lt.Name]
theorem Tf(l:List Lt.Var)(most:Int)(KK:Bool->Prop)(h:KK (Lt.typed l most)):Pj l most KK:=by
 unfold Pj;(try simp only[ac,am,aq,jval,bor,band,bnand,bimp,and_self]);unfold Lt.typed at h;intro hl;split
 ·grind
 intro _;refine dv l hl (fun v=>Lt.Name v.Name&&Lt.kind v.Type_) true KK _ (fun R i hi ih a=>?_) (fun R h=>?_) (kk h ?_)
 all_goals grind
theorem B0(a:Lt.Arg)(KK:Bool->Prop)(h:KK (bD a)):wV a KK:=by
 unfold wV;(try simp only[ac,am,aq,jval,bor,band,bnand,bimp,and_self])
 grind [bD]
theorem E1(l:List Lt.Arg)(objs:Bool)(KK:Bool->Prop)(h:KK (bG l objs)):yM l objs KK:=by
 unfold yM;(try simp only[ac,am,aq,jval,bor,band,bnand,bimp,and_self]);intro hl;refine dv l hl (bd objs) true KK _ (fun R i hi ih a=>?_) (fun R h=>?_) (kk h ?_)
 all_goals grind [bd,bG]
theorem VE(a:Lt.Arg)(o:Bool):bG [a] o=bd o a:=by simp[bG]
theorem SS(f:Lt.Frame)(KK:Bool->Prop)(h:KK (Lt.frame f)):OX f KK:=by
 unfold OX;(try simp only[ac,am,aq,jval,bor,band,bnand,bimp,and_self]);unfold Lt.frame at h;split
 ·grind
 intro hl;refine dv f.Vars hl iJ true KK _ (fun R i hi ih a=>?_) (fun R h=>?_) (kk h ?_)
 all_goals grind [Int.toNat_natCast,VE,iJ]
theorem aa7(l:a8)(n:Int)(KK:a8->Prop)(h:KK (Lt.nth l n)):ac5 l n KK:=by
 unfold ac5;(try simp only[ac,am,aq,be,bL,jval,bor,band,bnand,bimp,and_self]);unfold Lt.nth at h;by_cases hl:l.length<=LEN
 ·refine au _ (l.length+1) (fun k x=>∃(n:Int)(f i:Nat),x=(n,(f:Int),(i:Int))/\i=k+1/\f<i/\f<=l.length/\KK (Tm l (l.length+1-k) n f i)) (fun R k x hk c d=>?_) (fun R x c=>?_) _ ⟨n,0,1,rfl,by omega,by omega,by omega,h⟩
  ·obtain⟨n,f,i,rfl,b,hf,a,h⟩:=c;intro _;by_cases hi:i<l.length
   ·simp only[aP hi,if_true,Int.toNat_natCast];refine⟨⟨ajE i,hi⟩,?_⟩;rw[show l.length+1-k=(l.length+1 - (k+1))+1 by omega]at h;simp only[Tm,hi,if_true]at h
    grind [ae]
   have hf:decide ((i:Int) < (l.length:Int))=false:=by grind
   simp only[hf,ajC,if_false];rw[show l.length+1-k=(l.length+1 - (k+1))+1 by omega]at h
   grind [Tm]
  obtain⟨n,f,i,rfl,b,hf,a,h⟩:=c;intro _;have hf:decide ((i:Int) < (l.length:Int))=false:=by grind
  simp only[hf,ajC,if_false];rw[show l.length+1 - (l.length+1)=0 by omega]at h;exact h
 exact⟨1,fun h=>absurd h hl⟩
theorem afT(op:Int)(KK:Lt.Form×Bool->Prop)(h:KK (Lt.Of op)):agP op KK:=by
 unfold agP;(try simp only[ac,am,aq,jval,bor,band,bnand,bimp,and_self])
 grind [Lt.Of,Lt.two]
theorem abC(l:List α):((l.length:Int)=0)=(l=[]):=by
 simp_all
theorem aa8(x:Lt.Phi)(KK:Bool->Prop)(h:KK (Lt.phi x)):ac6 x KK:=by
 unfold ac6;(try simp only[ac,am,aq,be,bL,jval,bor,band,bnand,bimp,and_self]);have e0:=abC x.Ins
 unfold Lt.phi at h;split
 ·grind
 intro hl;refine dv x.Ins hl ox true KK _ (fun R i hi ih a=>?_) (fun R h=>?_) (kk h ?_)
 all_goals grind [Int.toNat_natCast,VE,ox]
theorem XE(a:Lt.Arg):(decide (a.Kind=0)&&(decide (a.S=([]:List UInt8))&&decide (a.N=0)))=Dw a:=by
 obtain⟨k,s,n⟩:=a
 grind [Dw]
theorem JN(t:Lt.Term)(KK:Bool->Prop)(h:KK (eY t)):CG t KK:=by
 unfold CG;(try simp only[ac,am,aq,be,bL,jval,bor,band,bnand,bimp,and_self]);intro hl;unfold eY at h;refine dv t.To hl Lt.Name _ KK _ (fun R i hi ih b=>?_) (fun R h=>?_) h
 ·grind
 simp only[kZ,ajC,if_false,XE,VE];have e0:((t.To.length:Int)=0)=(t.To.length=0):=propext kQ1
 have a:((t.To.length:Int)=1)=(t.To.length=1):=propext kQ1
 have c:((t.To.length:Int)=2)=(t.To.length=2):=propext kQ1
 grind
theorem SU(x:Lt.Instr)(KK:Bool->Prop)(h:KK (Lt.instr x)):OY x KK:=by
 unfold OY;dsimp only;(try simp only[ac,am,aq,jval,bor,band,bnand,bimp,and_self]);have e0:=abC x.Frames
 have f:=abC x.Objs
 unfold Lt.instr at h;refine ifk (fun hc=>kk h (by grind)) (fun e hl=>?_);refine ifk (fun hc=>kk h (by grind)) (fun d=>?_);refine ifk (fun hc hl=>kk h (by grind)) (fun c hl=>?_);refine dv x.Frames hl Lt.frame (x.Objs.all Lt.virt) KK _ (fun R i hi ih b=>?_) (fun R h=>?_) (kk h ?_)
 ·grind [Int.toNat_natCast]
 ·simp only[kZ,ajC,if_false];intro a;refine dv x.Objs a Lt.virt true KK _ (fun R i hi ih b=>?_) (fun R h=>?_) (kk h ?_)
  all_goals grind [Int.toNat_natCast,Lt.virt]
 grind
theorem SQ(b:Lt.Block)(KK:Bool->Prop)(h:KK (Lt.block b)):OV b KK:=by
 unfold OV;(try simp only[ac,am,aq,jval,bor,band,bnand,bimp,and_self]);unfold Lt.block at h;split
 ·grind
 intro hl;refine dv b.Phis hl Lt.phi (b.Code.all Lt.instr) KK _ (fun R i hi ih c=>?_) (fun R h=>?_) (kk h ?_)
 ·grind [Int.toNat_natCast]
 ·simp only[kZ,ajC,if_false];intro a;refine dv b.Code a Lt.instr true KK _ (fun R i hi ih c=>?_) (fun R h=>?_) (kk h ?_)
  all_goals grind [Int.toNat_natCast]
 grind
theorem wa(f:Lt.Func)(KK:Bool->Prop)(h:KK (aG f)):o9 f KK:=by
 unfold o9;dsimp only;(try simp only[ac,am,aq,jval,bor,band,bnand,bimp,and_self]);have e0:=abC f.Blocks
 unfold aG at h;refine ifk (fun hc=>kk h (by grind)) (fun j hl=>?_);refine sC f.Blocks hl (fun(b:{b:Nat // b<=1024}) i=>((b.1:Int),i)) (fun t b=>Lt.blocks t b.1) KK _ (fun R b i hi ih h=>?_) (fun R b h=>?_) ⟨0,by omega⟩ (kk h (by grind))
 ·obtain⟨b,hb⟩:=b;simp only[aP hi,if_true,Int.toNat_natCast]
  try dsimp +instances only [Int.toNat_natCast]
  refine⟨⟨ajE i,hi⟩,?_⟩;generalize f.Blocks.getD i default=x at h;obtain⟨g,c,d,⟨k,a,t,n⟩⟩:=x;dsimp only at h ih⊢;simp only[Lt.blocks]at h;intro _;refine ifk (fun hc=>kk h (by grind)) (fun hc _ _=>?_);simp only[akD,decide_eq_true_eq,not_or]at hc;have w1:i64.wrap ((c.length:Int)+(d.length:Int))=((c.length+d.length:Nat):Int):=by grind [cz]
  have w2:i64.wrap ((b:Int)+((c.length+d.length:Nat):Int))=((b+(c.length+d.length):Nat):Int):=by grind [cz]
  rw[w1,w2];refine ifk (fun hc=>kk h (by grind)) (fun hc=>?_);have e:b+(c.length+d.length)<=1024:=by grind
  exact ih ⟨_,e⟩ (kk h (by grind))
 grind [Lt.blocks]
theorem BW(p:Lt.Program)(KK:Bool->Prop)(h:KK (aX p)):wR p KK:=by
 unfold wR;dsimp only;(try simp only[ac,am,aq,jval,bor,band,bnand,bimp,and_self]);unfold aX at h;intro _;refine ifk (fun hc=>kk h (by grind)) (fun d hl=>?_);refine dv p.Classes hl cO (p.Externs.all cK&&p.Funcs.all aG) KK _ (fun R i hi ih c=>?_) (fun R h=>?_) (kk h (by grind))
 ·grind [Int.toNat_natCast,cO]
 simp only[kZ,ajC,if_false];intro a;refine dv p.Externs a cK (p.Funcs.all aG) KK _ (fun R i hi ih c=>?_) (fun R h=>?_) h
 ·grind [Int.toNat_natCast,cK]
 simp only[kZ,ajC,if_false];intro b;refine dv p.Funcs b aG true KK _ (fun R i hi ih c=>?_) (fun R h=>?_) (kk h (by simp))
 all_goals grind [Int.toNat_natCast]
theorem cw[Inhabited α]{l:List α}{P:α->Prop}(h:∀x∈l,P x){i:Nat}(hi:i<l.length):P (l.getD i default):=h _ (aC l hi)
theorem dO[Inhabited α](l:List α)(most:Int)(a:List α->Int->Int)(h0:∀b,a [] b=b)(h1:∀x r b,¬ b<=most->a (x::r) b=b)(KK:Int->Prop)(A B:(Int×Int->Prop)->Int×Int->Prop)
  (hs:∀R b i,l.length<=LEN->i<l.length->b<=most->(∀b',KK (a (l.drop (i+1)) b')->R (b',i64.wrap ((i:Int)+1)))->KK (a (l.getD i default::l.drop (i+1)) b)->A R (b,(i:Int)))
  (c:∀R b i,KK b->B R (b,i)) (b:Int) (h:KK (a l b)):ab (fun R v=>l.length<=4611686018427387904->if decide (v.2 < (l.length:Int))&&decide (v.1<=most)then A R v else B R v) (b,0):=by
 by_cases hl:l.length<=LEN
 ·refine Si l hl a KK _ (fun R b i hi ih h _=>?_) (fun R b h _=>?_) b h
  all_goals grind
 exact⟨1,fun h=>absurd h hl⟩
theorem BT(l:List Lt.Var)(most:Int)(KK:Int->Prop)(h:KK (cX l most)):wO l most KK:=by
 unfold wO;(try simp only[ac,am,aq,be,bL,jval,bor,band,bnand,bimp,and_self]);unfold cX at h;intro _;refine ifk (fun hc=>kk h (by grind)) (fun hc _=>?_);refine dO l most (zt most) (fun _=>rfl) (fun x r b hb=>by simp[zt,hb]) KK _ _ (fun R b i hl hi hb ih h=>?_) (fun R b i h=>h) _ (kk h (by grind))
 grind [zt]
theorem BS(l:List Lt.Arg)(most:Int)(KK:Int->Prop)(h:KK (fE l most)):wN l most KK:=by
 unfold wN;(try simp only[ac,am,aq,be,bL,jval,bor,band,bnand,bimp,and_self]);unfold fE at h;intro _;refine ifk (fun hc=>kk h (by grind)) (fun hc _=>?_);refine dO l most (zq most) (fun _=>rfl) (fun x r b hb=>by simp[zq,hb]) KK _ _ (fun R b i hl hi hb ih h=>?_) (fun R b i h=>h) _ (kk h (by grind))
 grind [zq]
theorem Al(x:Lt.Instr)(most:Int)(hp:adY x most)(KK:Int->Prop)(h:KK (gu x most)):tH x most KK:=by
 obtain⟨⟨_,okF,_⟩,hm⟩:=hp;unfold tH;dsimp only;(try simp only[ac,am,aq,jval,bor,band,bnand,bimp,and_self]);unfold gu at h;intro _;refine ifk (fun hc=>kk h (by grind)) (fun hc _ _ _=>?_);rw[if_neg hc]at h;intro J m;have hj:J (Lt.upto most (Lt.plus (Lt.plus (Lt.plus 1 x.Dst.length) x.Frames.length) x.Objs.length) (x.Name.length:Int)):=by
  refine m _ ?_;dsimp only;refine dO x.Frames most (lN most) (fun _=>rfl) (fun x r b hb=>by simp[lN,hb]) (fun n=>KK (t6 most x.Objs n)) _ _ (fun R b i hl hi hb ih h=>?_) (fun R b i h=>?_) _ (kk h (by grind [Lt.upto]))
  ·simp only[Int.toNat_natCast]
   try dsimp +instances only [Int.toNat_natCast]
   have o:(0:Int)<=(i:Int)/\i<x.Frames.length:=⟨ajE i,hi⟩
   simp only[o,and_self,true_and];intro _;simp only[lN,Lt.plus,hb,if_true]at h;have c:=cw okF hi
   generalize x.Frames.getD i default=f at h c⊢;intro d a;have e:d (if i64.wrap (b+(f.Func.length:Int))<=most then i64.wrap (i64.wrap (b+(f.Func.length:Int))+(f.Block.length:Int))else i64.wrap (b+(f.Func.length:Int))):=by
    refine a _ ?_;refine dO f.Vars most (py most) (fun _=>rfl) (fun x r b hb=>by simp[py,hb]) (fun n=>KK (t6 most x.Objs (lN most (x.Frames.drop (i+1)) n))) _ _ (fun g b2 j k hj l p h=>?_) (fun g b2 j h=>?_) _ (kk h (by grind))
    ·simp only[Int.toNat_natCast]
     try dsimp +instances only [Int.toNat_natCast]
     have o2:(0:Int)<=(j:Int)/\j<f.Vars.length:=⟨ajE j,hj⟩
     simp only[o2,and_self,true_and];(try simp only[ac,am,aq,be,bL,jval,bor,band,bnand,bimp,and_self])
     grind [py]
    grind
   grind
  refine dO x.Objs most (t6 most) (fun _=>rfl) (fun x r b hb=>by simp[t6,hb]) KK _ _ (fun R b i hl hi hb ih h=>?_) (fun R b i h=>h) _ h;simp only[Int.toNat_natCast]
  try dsimp +instances only [Int.toNat_natCast]
  have o:(0:Int)<=(i:Int)/\i<x.Objs.length:=⟨ajE i,hi⟩
  simp only[o,and_self,true_and];(try simp only[ac,am,aq,be,bL,jval,bor,band,bnand,bimp,and_self])
  grind [t6]
 grind [Lt.upto]
theorem Ak(b:Lt.Block)(most:Int)(hp:adX b most)(KK:Int->Prop)(h:KK (gr b most)):tG b most KK:=by
 obtain⟨⟨okP,okC,f⟩,hm⟩:=hp;unfold tG;dsimp only;(try simp only[ac,am,aq,jval,bor,band,bnand,bimp,and_self]);unfold gr at h;intro _;refine ifk (fun hc=>kk h (by grind)) (fun hc _=>?_);rw[if_neg (by grind)]at h;intro J e;have hj:J (Lt.upto most (Lt.plus 1 b.Name.length) (b.End.A.S.length:Int)):=by
  refine e _ ?_;refine dO b.End.To most (Lt.cTo most) (fun _=>rfl) (fun x r b hb=>by simp[Lt.cTo,hb]) (fun n=>KK (rP most b.Code (t7 most b.Phis n))) _ _ (fun R n i hl hi hb ih h=>?_) (fun R n i h=>?_) _ h
  ·grind [Lt.cTo]
  refine dO b.Phis most (t7 most) (fun _=>rfl) (fun x r b hb=>by simp[t7,hb]) (fun n=>KK (rP most b.Code n)) _ _ (fun R n i hl hi hb ih h=>?_) (fun R n i h=>?_) _ h
  ·simp only[Int.toNat_natCast]
   try dsimp +instances only [Int.toNat_natCast]
   have o:(0:Int)<=(i:Int)/\i<b.Phis.length:=⟨ajE i,hi⟩
   simp only[o,and_self,true_and];intro _;simp only[t7,Lt.plus,hb,if_true]at h;generalize b.Phis.getD i default=x at h⊢;refine dO x.Ins most (Iq most) (fun _=>rfl) (fun x r b hb=>by simp[Iq,hb]) (fun n=>KK (rP most b.Code (t7 most (b.Phis.drop (i+1)) n))) _ _ (fun a b2 j c hj d g h=>?_) (fun a b2 j h=>?_) _ h
   ·simp only[Int.toNat_natCast]
    try dsimp +instances only [Int.toNat_natCast]
    have o2:(0:Int)<=(j:Int)/\j<x.Ins.length:=⟨ajE j,hj⟩
    simp only[o2,and_self,true_and];(try simp only[ac,am,aq,be,bL,jval,bor,band,bnand,bimp,and_self])
    grind [Iq]
   grind
  refine dO b.Code most (rP most) (fun _=>rfl) (fun x r b hb=>by simp[rP,hb]) KK _ _ (fun R n i hl hi hb ih h=>?_) (fun R n i h=>h) _ h;simp only[Int.toNat_natCast]
  try dsimp +instances only [Int.toNat_natCast]
  refine⟨⟨ajE i,hi⟩,⟨cw okC hi,hm⟩,?_⟩
  grind [rP]
 grind [Lt.upto]
theorem Ju(f:Lt.Func)(most:Int)(hp:adZ f most)(KK:Int->Prop)(h:KK (nO f most)):Co f most KK:=by
 obtain⟨okB,hm⟩:=hp;unfold Co;dsimp only;(try simp only[ac,am,aq,jval,bor,band,bnand,bimp,and_self]);unfold nO at h;intro _;refine ifk (fun hc=>kk h (by grind)) (fun hc _=>?_);rw[if_neg (by grind)]at h;intro J a;have hj:J (Lt.upto most (Lt.plus 1 f.Name.length) (f.Result.length:Int)):=by
  refine a _ ?_;refine dO f.Blocks most (nU most) (fun _=>rfl) (fun x r b hb=>by simp[nU,hb]) KK _ _ (fun R n i hl hi hb ih h=>?_) (fun R n i h=>h) _ (kk h (by grind [Lt.upto]));simp only[Int.toNat_natCast]
  try dsimp +instances only [Int.toNat_natCast]
  refine⟨⟨ajE i,hi⟩,⟨cw okB hi,hm⟩,?_⟩
  simp_all[nU]
 grind [Lt.upto]
theorem aa6(p:Lt.Program)(most:Int)(hp:NZ p most)(KK:Bool->Prop)(h:KK (Lt.Few p most)):ac4 p most KK:=by
 obtain⟨okF,hm⟩:=hp;unfold ac4;dsimp only;(try simp only[ac,am,aq,be,bL,jval,bor,band,bnand,bimp,and_self]);unfold Lt.Few at h;intro _;refine ifk (fun hc=>kk h (by grind)) (fun hc=>?_);rw[if_neg (by grind)]at h;refine dO p.Classes most (kJ most) (fun _=>rfl) (fun x r b hb=>by simp[kJ,hb]) (fun n=>KK (decide (nV most p.Funcs (ji most p.Externs n)<=most))) _ _ (fun R n i hl hi hb ih h=>?_) (fun R n i h=>?_) _ h
 ·grind [kJ]
 refine dO p.Externs most (ji most) (fun _=>rfl) (fun x r b hb=>by simp[ji,hb]) (fun n=>KK (decide (nV most p.Funcs n<=most))) _ _ (fun R n i hl hi hb ih h=>?_) (fun R n i h=>?_) _ h
 ·grind [ji]
 refine dO p.Funcs most (nV most) (fun _=>rfl) (fun x r b hb=>by simp[nV,hb]) (fun n=>KK (decide (n<=most))) _ _ (fun R n i hl hi hb ih h=>?_) (fun R n i h=>h) _ h;simp only[Int.toNat_natCast]
 try dsimp +instances only [Int.toNat_natCast]
 refine⟨⟨ajE i,hi⟩,⟨cw okF hi,hm⟩,?_⟩
 grind [nV]
end Go.Am
end
