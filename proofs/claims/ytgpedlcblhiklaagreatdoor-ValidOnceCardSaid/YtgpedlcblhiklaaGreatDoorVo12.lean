/-
  Part 12: AmL28 · AmL20c · AmL29 · AmL30 · AmPkS · AmNice18v · AmNice40 · AmNice50 · AmNiceK · AmNiceS · AmNiceX · AmNiceXY · AmNice48 · AmG48 · AmG31 · AmL31 · AmG32 · AmG33 · AmL32 · AmG41 · AmG40 · AmL40 · AmL41 · AmL42 · AmL48c.
-/
import Derived.Test.YtgpedlcblhiklaaGreatDoorVo11
set_option linter.unusedSimpArgs false
set_option linter.unusedVariables false
set_option linter.unusedSectionVars false
set_option linter.unnecessarySimpa false
open Lt
open Go.IntKind (i64)
section
namespace Go.Am
open Go
open Lt (nmB toB Gd Rc bkB phB bj Bare bf lk oK)
theorem abO(m:VM)(k v:List UInt8):v∈(bV .s m k true).map (·.1) ↔ v∈m.map (·.1)\/v=k:=by
 grind [mG]
theorem abH(m:VM)(k:List UInt8):(bV .s m k true).length<=m.length+1:=by
 grind [mG,ai2]
theorem zu{α:Type}[Inhabited α]{body:(Int×VM->Prop)->Int×VM->Prop}(l:List α)(ar:α->Lt.Arg)(m:VM)(Q:VM->Prop)
  (hs:∀R(i:Nat)m,i<l.length->l.length<=4611686018427387904->((ar (l.getD i default)).Kind=1->R (i64.wrap ((i:Int)+1),bV .s m (ar (l.getD i default)).S true))->(¬ (ar (l.getD i default)).Kind=1->R (i64.wrap ((i:Int)+1),m))->body R ((i:Int),m))
  (he:∀R m,Q m->body R ((l.length:Int),m)) (hl:l.length<=4611686018427387904)
  (h:∀m',(∀v,v∈m'.map (·.1) ↔ v∈m.map (·.1)\/∃a∈l,(ar a).Kind=1/\(ar a).S=v)->m'.length<=m.length+l.length->Q m'):ab body (0,m):=by
 refine e9 l (fun m i=>(i,m)) (fun r m=>∀m',(∀v,v∈m'.map (·.1) ↔ v∈m.map (·.1)\/∃a∈r,(ar a).Kind=1/\(ar a).S=v)->m'.length<=m.length+r.length->Q m') (fun R m i x r hi hx _ ih h=>hs R i m hi hl (fun hc=>ih hl _ fun m' b hn=>h m' (fun v=>?_) ?_) (fun hc=>ih hl _ fun m' b hn=>h m' (fun v=>?_) ?_)) (fun R m h=>he R m (h m (fun v=>by simp) (by simp))) m h
 all_goals grind [abO,abH]
theorem Nk(x:Lt.Instr)(hp:fV x)(KK:List (List UInt8)->Prop)(h:∀y,uM x y->KK y):GR x KK:=by
 unfold GR;unfold fV xS at hp;dsimp only;intro j;refine zu x.Args id [] (fun m=>∀m',(∀v,v∈m'.map (·.1) ↔ v∈m.map (·.1)\/(∃f∈x.Frames,∃b∈f.Vars,b.A.Kind=1/\b.A.S=v)\/∃o∈x.Objs,∃a∈o.Vals,a.Kind=1/\a.S=v)->m'.length<=m.length+(x.Frames.map fun f=>f.Vars.length).sum+(x.Objs.map fun o=>o.Vals.length).sum->jB (some m')/\∀y,fU (some m') y->KK y) (fun R i m hi hl k1 k2=>?_) (fun R m d=>?_) j (fun m t hn m' l hn'=>⟨⟨rfl,?_⟩,fun y hy=>h y fun v=>by rw[hy.1 v];simp only[akG];rw[l,t];simp only[aj4,ajX,false_or,id];rfl⟩)
 ·rw[if_pos (aX hi)];intro J u
  grind
 rotate_left
 ·grind
 rw[if_neg (by simp)];intro n;refine e9 x.Frames (fun m i=>(i,m)) (fun r m=>∀m',(∀v,v∈m'.map (·.1) ↔ v∈m.map (·.1)\/(∃f∈r,∃b∈f.Vars,b.A.Kind=1/\b.A.S=v)\/∃o∈x.Objs,∃a∈o.Vals,a.Kind=1/\a.S=v)->m'.length<=m.length+(r.map fun f=>f.Vars.length).sum+(x.Objs.map fun o=>o.Vals.length).sum->jB (some m')/\∀y,fU (some m') y->KK y) (fun R m i x' r hi hx _ ih h=>?_) (fun R m d=>?_) m d
 ·rw[if_pos (aX hi)];refine⟨ob hi,fun hl=>?_⟩;dsimp +instances only [Int.toNat_natCast]
  rw[hx];refine zu x'.Vars (·.A) m (fun m'=>∀c,(∀v,v∈c.map (·.1) ↔ v∈m'.map (·.1)\/(∃f∈r,∃b∈f.Vars,b.A.Kind=1/\b.A.S=v)\/∃o∈x.Objs,∃a∈o.Vals,a.Kind=1/\a.S=v)->c.length<=m'.length+(r.map fun f=>f.Vars.length).sum+(x.Objs.map fun o=>o.Vals.length).sum->jB (some c)/\∀y,fU (some c) y->KK y) (fun R i m hi hl k1 k2=>?_) (fun R m d=>?_) (by rw[<- hx];exact hl) (fun w e k s g p=>h s (fun v=>?_) ?_)
  ·rw[if_pos (aX hi)];intro J u
   grind [Int.toNat_natCast]
  ·rw[if_neg (by simp)];exact ih n _ d
  ·rw[g,e]
   grind
  grind
 rw[if_neg (by simp)];intro q;refine e9 x.Objs (fun m i=>(i,m)) (fun r m=>∀m',(∀v,v∈m'.map (·.1) ↔ v∈m.map (·.1)\/∃o∈r,∃a∈o.Vals,a.Kind=1/\a.S=v)->m'.length<=m.length+(r.map fun o=>o.Vals.length).sum->jB (some m')/\∀y,fU (some m') y->KK y) (fun R m i x' r hi hx _ ih h=>?_) (fun R m d=>?_) m (fun m' t hn=>d m' (fun v=>by grind) kQ1)
 ·rw[if_pos (aX hi)];refine⟨ob hi,fun hl=>?_⟩;dsimp +instances only [Int.toNat_natCast]
  rw[hx];refine zu x'.Vals id m (fun m'=>∀c,(∀v,v∈c.map (·.1) ↔ v∈m'.map (·.1)\/∃o∈r,∃a∈o.Vals,a.Kind=1/\a.S=v)->c.length<=m'.length+(r.map fun o=>o.Vals.length).sum->jB (some c)/\∀y,fU (some c) y->KK y) (fun R i m hi hl k1 k2=>?_) (fun R m d=>?_) (by rw[<- hx];exact hl) (fun w e k s g p=>h s (fun v=>?_) ?_)
  ·rw[if_pos (aX hi)];intro J u
   grind [Int.toNat_natCast]
  ·rw[if_neg (by simp)];exact ih q _ d
  ·rw[g,e]
   grind
  grind
 grind
theorem JL(s:Lt.Vs)(b:Lt.Block)(hp:Yb s b)(KK:Bool->Prop)(h:KK (ny s b)):Cw s b KK:=by
 unfold Cw;have o:¬ oK (fun v=>bf s v=true) b->KK false:=fun L=>by grind [ny,M3]
 have kT:oK (fun v=>bf s v=true) b->KK true:=fun L=>by grind [ny,wh]
 dsimp only;obtain⟨hp,u⟩:=hp;refine⟨hp,fun hl=>?_⟩;have es:some (s.getD [])=s:=by cases s<;>grind
 have f:∀i,i<b.Code.length->fV (b.Code.getD i default):=fun i hi=>u _ (aQ _ hi)
 let D:Nat->List (List UInt8):=fun i=>((b.Code.take i).map (·.Dst)).filter fun d=>!decide (d=[])
 have H:∀i v,i<b.Code.length->(v∈D (i+1) ↔ v∈D i\/(v=(b.Code.getD i default).Dst/\v≠[])):=fun i v hi=>by
  grind [aB]
 have G:∀v,v ∉ D 0:=fun v hv=>by grind
 have r:D b.Code.length=bj b:=by
  show List.filter _ _=_
  rw[ajH];rfl
 refine au _ b.Code.length (fun i v=>v.1=(i:Int)/\(∀w,bf (some v.2) w=true ↔ bf s w=true\/w∈D i)/\∀j,j<i->∀w,lk (b.Code.getD j default) w->bf s w=true\/w∈D j) (fun R i v hi⟨e,h1,h2⟩ih=>?_) (fun R v⟨e,h1,h2⟩=>?_) _ ⟨rfl,fun w=>by grind,fun j hj=>by omega⟩
 ·obtain⟨J,m⟩:=v;dsimp only at e h1 h2⊢;subst e;rw[if_pos (aX hi)];intro E k;dsimp +instances only [Int.toNat_natCast]at k⊢
  have hd:=H i
  have n:=f i hi
  have o:(¬ ∀w,lk (b.Code.getD i default) w->bf s w=true\/w∈D i)->KK false:=fun hn=>o fun hb=>hn (hb.1 i hi)
  have on:(∀w,lk (b.Code.getD i default) w->bf s w=true\/w∈D i)->∀m',(∀w,bf (some m') w=true ↔ bf s w=true\/w∈D (i+1))->E m':=fun g m' p=>k _ (ih _ ⟨ac kQ1,p,fun j hj w hw=>by
   grind⟩)
  generalize b.Code.getD i default=x at hd o on n⊢;refine⟨ob hi,fun M a=>⟨n,fun y hy F=>?_⟩⟩;have t:(¬ ∀w,lk x w->bf s w=true\/w∈D i)->M true:=fun hn=>a _ (by grind)
  refine au _ y.length (fun j v=>v=(j:Int)/\∀q,q<j->bf (some m) (y.getD q default)=true) (fun C j v hj⟨e,hq⟩B=>?_) (fun C v⟨e,hq⟩=>?_) _ ⟨rfl,fun q hq=>by omega⟩
  ·subst e;rw[if_pos (aX hj)];refine⟨ob hj,?_⟩;rw[Int.toNat_natCast];refine ifk (fun hc=>t fun g=>?_) (fun hc=>B _ ⟨ac kQ1,fun q I=>?_⟩)
   ·have:=(h1 _).2 (g _ ((hy _).1 (aQ _ hj)))
    have hc:(!bf (some m) (y.getD j default))=true:=hc
    grind
   rcases akN q j with h'|h'
   ·grind
   obtain rfl:q=j:=by omega
   have hc:¬ (!bf (some m) (y.getD q default))=true:=hc
   grind
  subst e;rw[if_neg (by simp)];have g:∀w,lk x w->bf s w=true\/w∈D i:=fun w hw=>by
   obtain⟨q,K,e⟩:=akY.1 ((hy w).2 hw)
   grind
  refine a _ ?_;show if false=true then KK false else _
  rw[if_neg (by simp)];refine ifk (fun hc=>on g _ fun w=>?_) (fun hc=>on g _ fun w=>?_)
  ·grind [Jw]
  grind
 obtain⟨J,m⟩:=v;dsimp only at e h1 h2⊢;subst e;rw[if_neg (by simp)];rw[r]at h1;intro z l;have fin:∀c:Bool,(c=true ↔ ((b.End.Kind=2\/b.End.Kind=3)->b.End.A.Kind=1->bf s b.End.A.S=true\/b.End.A.S∈bj b))->z c:=fun c hc=>by
  refine l _ ?_;show KK c
  cases c with
  |true=>exact kT ⟨h2,hc.1 rfl⟩
  |false=>exact o fun hb=>by have:=hc.2 hb.2;grind
 have N:∀w,(aw (β:=Bool) .s m w).getD (dflt .bo)=bf (some m) w:=fun w=>rfl
 grind
theorem JM(f:Lt.Func)(s a:List UInt8)(KK:Bool->Prop)(h:KK (yp f s a)):Cx f s a KK:=by
 unfold Cx;intro hl;refine cK f.Blocks (fun l=>KK (sL a s l)) (fun R i x r hi hx _ ih h=>?_) (fun R h=>?_) h
 ·grind [sL]
 rw[if_neg (by simp)];exact h
theorem Na(f:Lt.Func)(o:Option (List (List UInt8×Lt.Vs)))(KK:Bool->Prop)(h:KK (zw f o)):GM f o KK:=by
 unfold GM;dsimp only;unfold zw at h;intro _;refine cK f.Blocks (fun l=>KK (l.all fun b=>b.Phis.all fun x=>x.Ins.all (pS f o b))) (fun R i b r hi hx _ ih h=>?_) (fun R h=>?_) h
 ·rw[if_pos (aX hi)];refine⟨ob hi,?_⟩;dsimp +instances only [Int.toNat_natCast]
  rw[hx];intro _;rw[ajE]at h;refine cK b.Phis (fun l=>KK ((l.all fun x=>x.Ins.all (pS f o b))&&r.all fun b=>b.Phis.all fun x=>x.Ins.all (pS f o b))) (fun n q x r3 a j _ k h=>?_) (fun n h=>?_) h
  ·rw[if_pos (aX a)];refine⟨ob a,?_⟩;dsimp +instances only [Int.toNat_natCast]
   rw[j];intro _;rw[ajE]at h;refine cK x.Ins (fun l=>KK ((l.all (pS f o b)&&r3.all fun x=>x.Ins.all (pS f o b))&&r.all fun b=>b.Phis.all fun x=>x.Ins.all (pS f o b))) (fun m s y r5 d g _ p h=>?_) (fun m h=>?_) h
   ·rw[if_pos (aX d)];refine⟨ob d,?_⟩;dsimp +instances only [Int.toNat_natCast]
    rw[g];rw[ajE]at h;intro J t;have fin:∀c:Bool,c=!pS f o b y->J c:=fun c e=>by
     grind
    unfold pS at fin;refine ifk (fun h1=>?_) (fun h1=>fin _ (by grind));rw[h1]at fin;refine ifk (fun h2=>?_) (fun h2=>fin _ (by grind));rw[h2]at fin;refine ifk (fun h3=>fin _ (by grind)) (fun h3=>fin _ ?_);rw[show(!decide (y.A.Kind=1))=false from by grind];rfl
   grind
  grind
 grind
theorem Dv(a s:List UInt8):∀(l:List Lt.Block)(k:Nat),k<l.length->(l.getD k default).Name=s->(∀j,j<k->(l.getD j default).Name≠s)->sL a s l=wd (l.getD k default).End.To a
 |[],k,h,_,_=>absurd h (alM _)
 |b::r,0,_,hn,_=>by
  grind [sL]
 |b::r,k+1,h,hn,hj=>by
  have h0:¬ b.Name=s:=hj 0 (Nat.succ_pos _)
  unfold sL;rw[if_neg h0];exact Dv a s r k (ak3 h) hn fun j h'=>hj (j+1) (Nat.succ_lt_succ h')
theorem mS{β:Type}(v:β):∀(m:List (List UInt8×β))(k0 k:List UInt8),aw .s (bV .s m k0 v) k=if k0=k then some v else aw .s m k
 |[],k0,k=>by
  grind [bV,aw,lX]
 |x::l,k0,k=>by
  have ih:=mS v l k0 k
  grind [bV,aw,lX]
def ag4(f:Lt.Func)(i:Nat)(m:List (List UInt8×Lt.Vs)):Prop:=
 ∀s,(∀k,k<i->nmB f.Blocks k=s->∃V,aw .s m s=some V/\∀w,bf V w=true ↔ PK f k w)/\((∀k,k<i->nmB f.Blocks k≠s)->aw .s m s=none)
theorem X8{f:Lt.Func}{m:List (List UInt8×Lt.Vs)}(c:Gd f.Blocks)(h:ag4 f f.Blocks.length m):zw f (some m)=true ↔ zg f:=by
 have key:∀(b:Lt.Block)(i:Lt.In),pS f (some m) b i=true ↔ ∀k,k<f.Blocks.length->nmB f.Blocks k=i.Block->b.Name∈toB f.Blocks k->i.A.Kind=1->PK f k i.A.S:=by
  intro b i;unfold pS;rw[akG];by_cases he:∃k,k<f.Blocks.length/\nmB f.Blocks k=i.Block
  ·obtain⟨k,hk,hn⟩:=he;obtain⟨V,a,hw⟩:=(h i.Block).1 k hk hn
   grind [yp,Dv,Gd.nd,SP]
  have hn:∀k,k<f.Blocks.length->nmB f.Blocks k≠i.Block:=fun k hk e=>he ⟨k,hk,e⟩
  rw[(h i.Block).2 hn]
  grind
 simp_all[zw,zg]
theorem JN(f:Lt.Func)(hp:Yc f)(KK:Bool->Prop)(h:KK (lm f)):Cy f KK:=by
 unfold Cy;obtain⟨hp,j⟩:=hp;have n:Gd f.Blocks:=hp.2.1
 have r:(¬ ((∀k,k<f.Blocks.length->oK (fun v=>¬ Bare f v k\/v∈phB f k) (bkB f k))/\zg f))->KK false:=fun n=>by grind [lm,M3]
 have kT:((∀k,k<f.Blocks.length->oK (fun v=>¬ Bare f v k\/v∈phB f k) (bkB f k))/\zg f)->KK true:=fun n=>by grind [lm,wh]
 dsimp only;refine⟨hp,fun y hy q=>?_⟩;obtain⟨⟨o,hy⟩,_⟩:=hy;have c:∀k,k<f.Blocks.length->(ny (y.getD k default) (bkB f k)=true ↔ oK (fun v=>¬ Bare f v k\/v∈phB f k) (bkB f k)):=fun k hk=>by
  grind [ny,yx]
 refine au _ y.length (fun i v=>v.1=(i:Int)/\(∀k,k<i->oK (fun v=>¬ Bare f v k\/v∈phB f k) (bkB f k))/\ag4 f i v.2) (fun R i v hi⟨e,h1,g⟩ih=>?_) (fun R v⟨e,h1,g⟩=>?_) _ ⟨rfl,fun k hk=>by omega,fun s=>⟨fun k hk=>absurd hk (alM _),fun _=>rfl⟩⟩
 ·obtain⟨t,m⟩:=v;dsimp only at e h1 g⊢;subst e;rw[if_pos (aX hi)];have hk:i<f.Blocks.length:=by omega
  have c:=c i hk
  have b:=(hy i hk).1
  intro p d;dsimp +instances only [Int.toNat_natCast]at d⊢
  refine⟨ob hi,ob hk,⟨b,j _ (aQ _ hk)⟩,?_⟩;refine ifk (fun hc=>r fun l=>?_) (fun hc=>?_)
  ·simp_all
  have hc:¬ (!ny (y.getD i default) (bkB f i))=true:=hc
  have hb:=c.1 (by grind)
  have on:p (bV .s m (nmB f.Blocks i) (iP (y.getD i default) (bkB f i))):=d _ (ih _ ⟨ac kQ1,fun k a=>by
   grind,fun s=>by
   dsimp only;rw[mS];refine⟨fun k a hn=>?_,fun hno=>?_⟩
   ·rcases akN k i with h'|h'
    ·rw[if_neg (fun e=>by grind [Gd.nd])];exact(g s).1 k h' hn
    grind [iP,yC,PK]
   rw[if_neg (hno i (alK _))];exact(g s).2 fun k a=>hno k (Nat.lt_succ_of_lt a)⟩)
  exact⟨ob hk,⟨ob hk,b,on⟩,b,ob hk,on⟩
 grind [X8]
end Go.Am
end

section
namespace Go.Am
open Go
variable{α:Type}
theorem kk{KK:α->Prop}{a b:α}(h:KK a)(e:a=b):KK b:=e ▸ h
theorem Xr(s:List UInt8)(KK:Bool->Prop)(h:KK (Lt.kept s)):U3 s KK:=by
 simp_all[U3,ax,jval,Lt.kept,Bool.or_assoc]
theorem Xs(s:List UInt8)(KK:Bool->Prop)(h:KK (Lt.kind s)):U4 s KK:=by
 simp_all[U4,ax,jval,Lt.kind,Bool.or_assoc]
theorem Nj(c:UInt8)(KK:Bool->Prop)(h:KK (Lt.letter c)):GQ c KK:=by
 unfold GQ;(try simp only[ax,aK,aR,jval,bor,band,bnand,bimp,and_self])
 grind [Lt.letter,uB]
theorem B8(c:UInt8)(KK:Bool->Prop)(h:KK (kg c)):xg c KK:=by
 unfold xg;(try simp only[ax,aK,aR,jval,bor,band,bnand,bimp,and_self]);exact h
theorem S5(n:Int)(KK:Int->Prop)(h:KK (Lt.Plain n)):O0 n KK:=by
 simp_all[O0,ax,jval,Lt.Plain]
theorem Xp(s:List UInt8)(KK:Bool->Prop)(h:KK (Lt.Name s)):UZ s KK:=by
 unfold UZ;(try simp only[ax,aK,aR,jval,bor,band,bnand,bimp,and_self,aiD,aiT,aiU]);have hn:¬ s=[]->0<s.length:=by grind
 refine⟨fun h1 h2=>⟨Int.le_refl _,by grind⟩,?_⟩;split
 ·grind [Lt.Name]
 intro hl;refine dR (α:=UInt8) s hl iw true KK _ (fun R i hi ih a=>?_) (fun R h=>?_) (kk h ?_)
 all_goals grind [iw,Lt.Name]
theorem Tl(l:List Lt.Var)(most:Int)(KK:Bool->Prop)(h:KK (Lt.typed l most)):Pg l most KK:=by
 unfold Pg;(try simp only[ax,aK,aR,jval,bor,band,bnand,bimp,and_self]);unfold Lt.typed at h;intro hl;split
 ·grind
 intro _;refine dR l hl (fun v=>Lt.Name v.Name&&Lt.kind v.Type_) true KK _ (fun R i hi ih a=>?_) (fun R h=>?_) (kk h ?_)
 all_goals grind
theorem B9(a:Lt.Arg)(KK:Bool->Prop)(h:KK (aW a)):xh a KK:=by
 unfold xh;(try simp only[ax,aK,aR,jval,bor,band,bnand,bimp,and_self])
 grind [aW]
theorem Fj(l:List Lt.Arg)(objs:Bool)(KK:Bool->Prop)(h:KK (bK l objs)):yV l objs KK:=by
 unfold yV;(try simp only[ax,aK,aR,jval,bor,band,bnand,bimp,and_self]);intro hl;refine dR l hl (bg objs) true KK _ (fun R i hi ih a=>?_) (fun R h=>?_) (kk h ?_)
 all_goals grind [bg,bK]
theorem VQ(a:Lt.Arg)(o:Bool):bK [a] o=bg o a:=by simp[bK]
theorem Ta(f:Lt.Frame)(KK:Bool->Prop)(h:KK (Lt.frame f)):O5 f KK:=by
 unfold O5;(try simp only[ax,aK,aR,jval,bor,band,bnand,bimp,and_self]);unfold Lt.frame at h;split
 ·grind
 intro hl;refine dR f.Vars hl gU true KK _ (fun R i hi ih a=>?_) (fun R h=>?_) (kk h ?_)
 all_goals grind [Int.toNat_natCast,VQ,gU]
theorem aa9(l:List UInt8)(n:Int)(KK:List UInt8->Prop)(h:KK (Lt.nth l n)):ac9 l n KK:=by
 unfold ac9;(try simp only[ax,aK,aR,bb,cq,jval,bor,band,bnand,bimp,and_self]);unfold Lt.nth at h;by_cases hl:l.length<=LEN
 ·refine au _ (l.length+1) (fun k x=>∃(n:Int)(f i:Nat),x=(n,(f:Int),(i:Int))/\i=k+1/\f<i/\f<=l.length/\KK (FJ l (l.length+1-k) n f i)) (fun R k x hk a d=>?_) (fun R x a=>?_) _ ⟨n,0,1,rfl,by omega,by omega,by omega,h⟩
  ·obtain⟨n,f,i,rfl,b,hf,c,h⟩:=a;intro _;by_cases hi:i<l.length
   ·simp only[aX hi,if_true,Int.toNat_natCast];refine⟨⟨ajC i,hi⟩,?_⟩;rw[show l.length+1-k=(l.length+1 - (k+1))+1 by omega]at h;simp only[FJ,hi,if_true]at h
    grind [ac]
   have hf:decide ((i:Int) < (l.length:Int))=false:=by grind
   simp only[hf,ai8,if_false];rw[show l.length+1-k=(l.length+1 - (k+1))+1 by omega]at h
   grind [FJ]
  obtain⟨n,f,i,rfl,b,hf,c,h⟩:=a;intro _;have hf:decide ((i:Int) < (l.length:Int))=false:=by grind
  simp only[hf,ai8,if_false];rw[show l.length+1 - (l.length+1)=0 by omega]at h;exact h
 exact⟨1,fun h=>absurd h hl⟩
theorem af2(op:Int)(KK:Lt.Form×Bool->Prop)(h:KK (Lt.Of op)):ag3 op KK:=by
 unfold ag3;(try simp only[ax,aK,aR,jval,bor,band,bnand,bimp,and_self])
 grind [Lt.Of,Lt.two]
theorem abE(l:List α):((l.length:Int)=0)=(l=[]):=by
 simp_all
theorem abA(x:Lt.Phi)(KK:Bool->Prop)(h:KK (Lt.phi x)):adA x KK:=by
 unfold adA;(try simp only[ax,aK,aR,bb,cq,jval,bor,band,bnand,bimp,and_self]);have e0:=abE x.Ins
 unfold Lt.phi at h;split
 ·grind
 intro hl;refine dR x.Ins hl lE true KK _ (fun R i hi ih a=>?_) (fun R h=>?_) (kk h ?_)
 all_goals grind [Int.toNat_natCast,VQ,lE]
theorem XU(a:Lt.Arg):(decide (a.Kind=0)&&(decide (a.S=([]:List UInt8))&&decide (a.N=0)))=DI a:=by
 obtain⟨k,s,n⟩:=a
 grind [DI]
theorem JV(t:Lt.Term)(KK:Bool->Prop)(h:KK (dv t)):CH t KK:=by
 unfold CH;(try simp only[ax,aK,aR,bb,cq,jval,bor,band,bnand,bimp,and_self]);intro hl;unfold dv at h;refine dR t.To hl Lt.Name _ KK _ (fun R i hi ih b=>?_) (fun R h=>?_) h
 ·grind
 simp only[l4,ai8,if_false,XU,VQ];have e0:((t.To.length:Int)=0)=(t.To.length=0):=propext kQ1
 have c:((t.To.length:Int)=1)=(t.To.length=1):=propext kQ1
 have a:((t.To.length:Int)=2)=(t.To.length=2):=propext kQ1
 grind
theorem Tb(x:Lt.Instr)(KK:Bool->Prop)(h:KK (Lt.instr x)):O6 x KK:=by
 unfold O6;dsimp only;(try simp only[ax,aK,aR,jval,bor,band,bnand,bimp,and_self]);have e0:=abE x.Frames
 have c:=abE x.Objs
 unfold Lt.instr at h;refine ifk (fun hc=>kk h (by grind)) (fun e hl=>?_);refine ifk (fun hc=>kk h (by grind)) (fun d=>?_);refine ifk (fun hc hl=>kk h (by grind)) (fun f hl=>?_);refine dR x.Frames hl Lt.frame (x.Objs.all Lt.virt) KK _ (fun R i hi ih b=>?_) (fun R h=>?_) (kk h ?_)
 ·grind [Int.toNat_natCast]
 ·simp only[l4,ai8,if_false];intro a;refine dR x.Objs a Lt.virt true KK _ (fun R i hi ih b=>?_) (fun R h=>?_) (kk h ?_)
  all_goals grind [Int.toNat_natCast,Lt.virt]
 grind
theorem S9(b:Lt.Block)(KK:Bool->Prop)(h:KK (Lt.block b)):O4 b KK:=by
 unfold O4;(try simp only[ax,aK,aR,jval,bor,band,bnand,bimp,and_self]);unfold Lt.block at h;split
 ·grind
 intro hl;refine dR b.Phis hl Lt.phi (b.Code.all Lt.instr) KK _ (fun R i hi ih c=>?_) (fun R h=>?_) (kk h ?_)
 ·grind [Int.toNat_natCast]
 ·simp only[l4,ai8,if_false];intro a;refine dR b.Code a Lt.instr true KK _ (fun R i hi ih c=>?_) (fun R h=>?_) (kk h ?_)
  all_goals grind [Int.toNat_natCast]
 grind
theorem wj(f:Lt.Func)(KK:Bool->Prop)(h:KK (ay f)):o4 f KK:=by
 unfold o4;dsimp only;(try simp only[ax,aK,aR,jval,bor,band,bnand,bimp,and_self]);have e0:=abE f.Blocks
 unfold ay at h;refine ifk (fun hc=>kk h (by grind)) (fun g hl=>?_);refine nJ f.Blocks hl (fun(b:{b:Nat // b<=1024}) i=>((b.1:Int),i)) (fun t b=>Lt.blocks t b.1) KK _ (fun R b i hi ih h=>?_) (fun R b h=>?_) ⟨0,by omega⟩ (kk h (by grind))
 ·obtain⟨b,hb⟩:=b;simp only[aX hi,if_true,Int.toNat_natCast]
  try dsimp +instances only [Int.toNat_natCast]
  refine⟨⟨ajC i,hi⟩,?_⟩;generalize f.Blocks.getD i default=x at h;obtain⟨j,d,c,⟨k,a,t,n⟩⟩:=x;dsimp only at h ih⊢;simp only[Lt.blocks]at h;intro _;refine ifk (fun hc=>kk h (by grind)) (fun hc _ _=>?_);simp only[aj6,decide_eq_true_eq,not_or]at hc;have w1:i64.wrap ((d.length:Int)+(c.length:Int))=((d.length+c.length:Nat):Int):=by grind [dt]
  have w2:i64.wrap ((b:Int)+((d.length+c.length:Nat):Int))=((b+(d.length+c.length):Nat):Int):=by grind [dt]
  rw[w1,w2];refine ifk (fun hc=>kk h (by grind)) (fun hc=>?_);have e:b+(d.length+c.length)<=1024:=by grind
  exact ih ⟨_,e⟩ (kk h (by grind))
 grind [Lt.blocks]
theorem B5(p:Lt.Program)(KK:Bool->Prop)(h:KK (bH p)):xd p KK:=by
 unfold xd;dsimp only;(try simp only[ax,aK,aR,jval,bor,band,bnand,bimp,and_self]);unfold bH at h;intro _;refine ifk (fun hc=>kk h (by grind)) (fun d hl=>?_);refine dR p.Classes hl bL (p.Externs.all cc&&p.Funcs.all ay) KK _ (fun R i hi ih c=>?_) (fun R h=>?_) (kk h (by grind))
 ·grind [Int.toNat_natCast,bL]
 simp only[l4,ai8,if_false];intro b;refine dR p.Externs b cc (p.Funcs.all ay) KK _ (fun R i hi ih c=>?_) (fun R h=>?_) h
 ·grind [Int.toNat_natCast,cc]
 simp only[l4,ai8,if_false];intro a;refine dR p.Funcs a ay true KK _ (fun R i hi ih c=>?_) (fun R h=>?_) (kk h (by simp))
 all_goals grind [Int.toNat_natCast]
theorem bQ[Inhabited α]{l:List α}{P:α->Prop}(h:∀x∈l,P x){i:Nat}(hi:i<l.length):P (l.getD i default):=h _ (aQ l hi)
theorem dU[Inhabited α](l:List α)(most:Int)(a:List α->Int->Int)(h0:∀b,a [] b=b)(h1:∀x r b,¬ b<=most->a (x::r) b=b)(KK:Int->Prop)(A B:(Int×Int->Prop)->Int×Int->Prop)
  (hs:∀R b i,l.length<=LEN->i<l.length->b<=most->(∀b',KK (a (l.drop (i+1)) b')->R (b',i64.wrap ((i:Int)+1)))->KK (a (l.getD i default::l.drop (i+1)) b)->A R (b,(i:Int)))
  (he:∀R b i,KK b->B R (b,i)) (b:Int) (h:KK (a l b)):ab (fun R v=>l.length<=4611686018427387904->if(decide (v.2 < (l.length:Int))&&decide (v.1<=most))=true then A R v else B R v) (b,0):=by
 by_cases hl:l.length<=LEN
 ·refine SB l hl a KK _ (fun R b i hi ih h _=>?_) (fun R b h _=>?_) b h
  all_goals grind
 exact⟨1,fun h=>absurd h hl⟩
theorem B1(l:List Lt.Var)(most:Int)(KK:Int->Prop)(h:KK (di l most)):w6 l most KK:=by
 unfold w6;(try simp only[ax,aK,aR,bb,cq,jval,bor,band,bnand,bimp,and_self]);unfold di at h;intro _;refine ifk (fun hc=>kk h (by grind)) (fun hc _=>?_);refine dU l most (zF most) (fun _=>rfl) (fun x r b hb=>by simp[zF,hb]) KK _ _ (fun R b i hl hi hb ih h=>?_) (fun R b i h=>h) _ (kk h (by grind))
 grind [zF]
theorem B0(l:List Lt.Arg)(most:Int)(KK:Int->Prop)(h:KK (fM l most)):wZ l most KK:=by
 unfold wZ;(try simp only[ax,aK,aR,bb,cq,jval,bor,band,bnand,bimp,and_self]);unfold fM at h;intro _;refine ifk (fun hc=>kk h (by grind)) (fun hc _=>?_);refine dU l most (zE most) (fun _=>rfl) (fun x r b hb=>by simp[zE,hb]) KK _ _ (fun R b i hl hi hb ih h=>?_) (fun R b i h=>h) _ (kk h (by grind))
 grind [zE]
theorem Ay(x:Lt.Instr)(most:Int)(hp:ad2 x most)(KK:Int->Prop)(h:KK (gJ x most)):tJ x most KK:=by
 obtain⟨⟨_,okF,_⟩,q⟩:=hp;unfold tJ;dsimp only;(try simp only[ax,aK,aR,jval,bor,band,bnand,bimp,and_self]);unfold gJ at h;intro _;refine ifk (fun hc=>kk h (by grind)) (fun hc _ _ _=>?_);rw[if_neg hc]at h;intro J g;have hj:J (Lt.upto most (Lt.plus (Lt.plus (Lt.plus 1 x.Dst.length) x.Frames.length) x.Objs.length) (x.Name.length:Int)):=by
  refine g _ ?_;dsimp only;refine dU x.Frames most (lq most) (fun _=>rfl) (fun x r b hb=>by simp[lq,hb]) (fun n=>KK (t7 most x.Objs n)) _ _ (fun R b i hl hi hb ih h=>?_) (fun R b i h=>?_) _ (kk h (by grind [Lt.upto]))
  ·simp only[Int.toNat_natCast]
   try dsimp +instances only [Int.toNat_natCast]
   have o:(0:Int)<=(i:Int)/\i<x.Frames.length:=⟨ajC i,hi⟩
   simp only[o,and_self,true_and];intro _;simp only[lq,Lt.plus,hb,if_true]at h;have a:=bQ okF hi
   generalize x.Frames.getD i default=f at h a⊢;intro p c;have l:p (if i64.wrap (b+(f.Func.length:Int))<=most then i64.wrap (i64.wrap (b+(f.Func.length:Int))+(f.Block.length:Int))else i64.wrap (b+(f.Func.length:Int))):=by
    refine c _ ?_;refine dU f.Vars most (pi most) (fun _=>rfl) (fun x r b hb=>by simp[pi,hb]) (fun n=>KK (t7 most x.Objs (lq most (x.Frames.drop (i+1)) n))) _ _ (fun e b2 j k hj m d h=>?_) (fun e b2 j h=>?_) _ (kk h (by grind))
    ·simp only[Int.toNat_natCast]
     try dsimp +instances only [Int.toNat_natCast]
     have o2:(0:Int)<=(j:Int)/\j<f.Vars.length:=⟨ajC j,hj⟩
     simp only[o2,and_self,true_and];(try simp only[ax,aK,aR,bb,cq,jval,bor,band,bnand,bimp,and_self])
     grind [pi]
    grind
   grind
  refine dU x.Objs most (t7 most) (fun _=>rfl) (fun x r b hb=>by simp[t7,hb]) KK _ _ (fun R b i hl hi hb ih h=>?_) (fun R b i h=>h) _ h;simp only[Int.toNat_natCast]
  try dsimp +instances only [Int.toNat_natCast]
  have o:(0:Int)<=(i:Int)/\i<x.Objs.length:=⟨ajC i,hi⟩
  simp only[o,and_self,true_and];(try simp only[ax,aK,aR,bb,cq,jval,bor,band,bnand,bimp,and_self])
  grind [t7]
 grind [Lt.upto]
theorem Ax(b:Lt.Block)(most:Int)(hp:ad1 b most)(KK:Int->Prop)(h:KK (gI b most)):tH b most KK:=by
 obtain⟨⟨okP,okC,d⟩,e⟩:=hp;unfold tH;dsimp only;(try simp only[ax,aK,aR,jval,bor,band,bnand,bimp,and_self]);unfold gI at h;intro _;refine ifk (fun hc=>kk h (by grind)) (fun hc _=>?_);rw[if_neg (by grind)]at h;intro J f;have hj:J (Lt.upto most (Lt.plus 1 b.Name.length) (b.End.A.S.length:Int)):=by
  refine f _ ?_;refine dU b.End.To most (Lt.cTo most) (fun _=>rfl) (fun x r b hb=>by simp[Lt.cTo,hb]) (fun n=>KK (rK most b.Code (t8 most b.Phis n))) _ _ (fun R n i hl hi hb ih h=>?_) (fun R n i h=>?_) _ h
  ·grind [Lt.cTo]
  refine dU b.Phis most (t8 most) (fun _=>rfl) (fun x r b hb=>by simp[t8,hb]) (fun n=>KK (rK most b.Code n)) _ _ (fun R n i hl hi hb ih h=>?_) (fun R n i h=>?_) _ h
  ·simp only[Int.toNat_natCast]
   try dsimp +instances only [Int.toNat_natCast]
   have o:(0:Int)<=(i:Int)/\i<b.Phis.length:=⟨ajC i,hi⟩
   simp only[o,and_self,true_and];intro _;simp only[t8,Lt.plus,hb,if_true]at h;generalize b.Phis.getD i default=x at h⊢;refine dU x.Ins most (IK most) (fun _=>rfl) (fun x r b hb=>by simp[IK,hb]) (fun n=>KK (rK most b.Code (t8 most (b.Phis.drop (i+1)) n))) _ _ (fun c b2 j g hj k a h=>?_) (fun c b2 j h=>?_) _ h
   ·simp only[Int.toNat_natCast]
    try dsimp +instances only [Int.toNat_natCast]
    have o2:(0:Int)<=(j:Int)/\j<x.Ins.length:=⟨ajC j,hj⟩
    simp only[o2,and_self,true_and];(try simp only[ax,aK,aR,bb,cq,jval,bor,band,bnand,bimp,and_self])
    grind [IK]
   grind
  refine dU b.Code most (rK most) (fun _=>rfl) (fun x r b hb=>by simp[rK,hb]) KK _ _ (fun R n i hl hi hb ih h=>?_) (fun R n i h=>h) _ h;simp only[Int.toNat_natCast]
  try dsimp +instances only [Int.toNat_natCast]
  refine⟨⟨ajC i,hi⟩,⟨bQ okC hi,e⟩,?_⟩
  grind [rK]
 grind [Lt.upto]
theorem JK(f:Lt.Func)(most:Int)(hp:ad3 f most)(KK:Int->Prop)(h:KK (nr f most)):Cv f most KK:=by
 obtain⟨okB,a⟩:=hp;unfold Cv;dsimp only;(try simp only[ax,aK,aR,jval,bor,band,bnand,bimp,and_self]);unfold nr at h;intro _;refine ifk (fun hc=>kk h (by grind)) (fun hc _=>?_);rw[if_neg (by grind)]at h;intro J c;have hj:J (Lt.upto most (Lt.plus 1 f.Name.length) (f.Result.length:Int)):=by
  refine c _ ?_;refine dU f.Blocks most (nC most) (fun _=>rfl) (fun x r b hb=>by simp[nC,hb]) KK _ _ (fun R n i hl hi hb ih h=>?_) (fun R n i h=>h) _ (kk h (by grind [Lt.upto]));simp only[Int.toNat_natCast]
  try dsimp +instances only [Int.toNat_natCast]
  refine⟨⟨ajC i,hi⟩,⟨bQ okB hi,a⟩,?_⟩
  simp_all[nC]
 grind [Lt.upto]
theorem aa8(p:Lt.Program)(most:Int)(hp:Yf p most)(KK:Bool->Prop)(h:KK (Lt.Few p most)):ac8 p most KK:=by
 obtain⟨okF,a⟩:=hp;unfold ac8;dsimp only;(try simp only[ax,aK,aR,bb,cq,jval,bor,band,bnand,bimp,and_self]);unfold Lt.Few at h;intro _;refine ifk (fun hc=>kk h (by grind)) (fun hc=>?_);rw[if_neg (by grind)]at h;refine dU p.Classes most (kp most) (fun _=>rfl) (fun x r b hb=>by simp[kp,hb]) (fun n=>KK (decide (nD most p.Funcs (js most p.Externs n)<=most))) _ _ (fun R n i hl hi hb ih h=>?_) (fun R n i h=>?_) _ h
 ·grind [kp]
 refine dU p.Externs most (js most) (fun _=>rfl) (fun x r b hb=>by simp[js,hb]) (fun n=>KK (decide (nD most p.Funcs n<=most))) _ _ (fun R n i hl hi hb ih h=>?_) (fun R n i h=>?_) _ h
 ·grind [js]
 refine dU p.Funcs most (nD most) (fun _=>rfl) (fun x r b hb=>by simp[nD,hb]) (fun n=>KK (decide (n<=most))) _ _ (fun R n i hl hi hb ih h=>?_) (fun R n i h=>h) _ h;simp only[Int.toNat_natCast]
 try dsimp +instances only [Int.toNat_natCast]
 refine⟨⟨ajC i,hi⟩,⟨bQ okF hi,a⟩,?_⟩
 grind [nD]
end Go.Am
end

section
namespace Lt
open Go
def aaS(s:List UInt8)(b:Block):List (List UInt8):=(b.End.To.filter fun n=>decide (n=s)).map fun _=>b.Name
def frm(B:List Block)(s:List UInt8):List (List UInt8):=B.flatMap (aaS s)
def EU:List (List UInt8)->List In->Bool
 |_,[]=>true
 |l,x::r=>decide (x.Block∈l)&&EU (l.filter fun s=>!decide (s=x.Block)) r
def KS(x:Phi)(l:List (List UInt8)):Prop:=x.Ins.length<=1000000/\l.length<=100000000
def Ed(x:Phi)(l:List (List UInt8)):Bool:=decide ((x.Ins.length:Int)=(l.length:Int))&&EU l x.Ins
def A7(f:Func):Prop:=f.Blocks.length<=6000/\∀b∈f.Blocks,b.End.To.length<=6000/\b.Phis.length<=1000000/\∀p∈b.Phis,p.Ins.length<=1000000
def FQ(B:List Block)(i:Nat):Bool:=!(decide (i=0)&&decide (0 < (B.getD i default).Phis.length))&&(B.getD i default).Phis.all fun x=>Ed x (frm B (nmB B i))
def kX(f:Func):Bool:=(List.range f.Blocks.length).all (FQ f.Blocks)
def rm(i:Instr)(a:Arg):Virt×Bool:=if a.Kind=5/\0<=a.N/\a.N < (i.Objs.length:Int)then(i.Objs.getD a.N.toNat default,true)else(⟨[],[]⟩,false)
def vOf(f:Func)(i:Instr)(a:Arg):List UInt8×Bool:=if(rm i a).2=true then((rm i a).1.Class,true)else fl f a
def P9(f:Func)(i:Instr):List Bind->List (List UInt8)->Bool
 |[],_=>true
 |b::r,K=>if(!(vOf f i b.A).2||decide (b.Name∈K))=true then false else P9 f i r (K++[b.Name])
def BF(f:Func)(i:Instr)(x:Frame):Bool:=P9 f i x.Vars []
def LC(f:Func)(i:Instr):List Arg->List Var->Bool
 |a::l,v::r=>(vOf f i a).2&&(eE (vOf f i a).1 v.Type_&&LC f i l r)
 |_,_=>true
def LD(p:Program)(f:Func)(i:Instr)(o:Virt):Bool:=(bm p o.Class).2&&(decide (((bm p o.Class).1.Fields.length:Int)=(o.Vals.length:Int))&&LC f i o.Vals (bm p o.Class).1.Fields)
def BH(p:Program)(f:Func)(i:Instr):Bool:=i.Frames.all (BF f i)&&(i.Objs.all (LD p f i)&&decide ((0:Int) < (i.Frames.length:Int)))
def qd(p:Program)(f:Func)(i:Instr):Bool:=tg p f i&&(!(decide (i.Op=31)||decide (i.Op=34))||BH p f i)
def BG(p:Program)(f:Func)(b:Block):Bool:=b.Code.all (qd p f)&&KY f b.End
def oF(p:Program)(f:Func):Bool:=f.Blocks.all (BG p f)
def kQ(_:Program)(f:Func):Prop:=∀b∈f.Blocks,∀i∈b.Code,i.Args.length<=1000000
def acX(f:Func)(x:Phi):Bool:=(fl f ⟨1,x.Dst,0⟩).2&&x.Ins.all fun i=>(fl f i.A).2&&eE (fl f i.A).1 (fl f ⟨1,x.Dst,0⟩).1
def Ej(_:Program)(f:Func):Bool:=f.Blocks.all fun b=>b.Phis.all (acX f)
def bT(B:List Block):List (List UInt8):=B.flatMap fun b=>b.Phis.map (·.Dst)++bj b
def nh(_:Program)(f:Func):Bool:=(f.Vars.all fun v=>decide (((bT f.Blocks).count v.Name:Int)=1))&&((f.Params.all fun v=>decide (((bT f.Blocks).count v.Name:Int)=0))&&true)
def pU(_:Program)(f:Func):Prop:=f.Blocks.length<=1000000/\∀b∈f.Blocks,b.Phis.length<=1000000/\b.Code.length<=1000000
noncomputable def vF(p:Program):List Func->Int
 |[]=>0
 |f::r=>if ji f=false\/kX f=false then 5 else if oF p f=false\/Ej p f=false\/nh p f=false\/lm f=false then 4 else vF p r
noncomputable def dq(p:Program):Int:=if bH p=false\/p.SSA=false then 3 else if ou p=false then 4 else vF p p.Funcs
def bN(p:Program):Prop:=kN p/\∀f∈p.Funcs,kQ p f/\A7 f/\pU p f/\uN f/\f.Params.length<=1000000/\(∀b∈f.Blocks,b.Phis.length<=1000000/\b.Code.length<=1000000)/\∀b∈f.Blocks,∀x∈b.Code,fV x
def EN:Bool:=true
def N7(l:List (List UInt8))(_:List UInt8):Prop:=l.length<=1000000
def FR(l:List (List UInt8))(s:List UInt8)(y:List (List UInt8)):Prop:=y.length<=l.length+1/\∀v,v∈y ↔ v=s\/v∈l
def yB(l:List (List UInt8))(_:Arg):Prop:=l.length<=1000000
def q9(l:List (List UInt8))(a:Arg)(y:List (List UInt8)):Prop:=y.length<=l.length+1/\∀v,v∈y ↔ (a.Kind=1/\a.S=v)\/v∈l
def dp(b:Block)(n:Nat):List (List UInt8):=((b.Code.take n).map (·.Dst)).filter fun d=>!decide (d=[])
def DW(f:Func)(_:List UInt8):Prop:=f.Blocks.length<=1000000/\∀b∈f.Blocks,b.Phis.length<=1000000/\b.Code.length<=1000000
def FW(f:Func)(v:List UInt8):Int:=((bT f.Blocks).count v:Int)
def EM(m:Vs):Clo:=⟨124,[.keys m]⟩
def Fg(c:Clo):Vs:=match c.caps with
 |[.keys m]=>m
 |_=>none
def DX(c:Clo):Prop:=c=EM (Fg c)/\jB (Fg c)
def A4(c:Clo)(l:List (List UInt8)):Prop:=fU (Fg c) l
def QH(n:Int):Int:=i64.wrap n
def D9(n:Int)(c:UInt8):Int:=IntKind.u64.wrap ((IntKind.u64.wrap ((IntKind.u64.wrap (n*10))+(IntKind.u64.wrap ((c.toNat:Nat):Int)))) - 48)
def YE(s:List UInt8):Int:=if s.getD 0 0=45 then((s.take 30).drop 1).foldl D9 0 else(s.take 30).foldl D9 0
def QI(s:List UInt8):Int:=QH (if s.getD 0 0=45 then IntKind.u64.wrap (0-YE s)else YE s)
def bw(s:List UInt8):Int×Bool:=if Ck (QI s)=s then(QI s,true)else(0,false)
def Ld(u:Int)(c:UInt8):Int:=
 IntKind.u64.wrap ((IntKind.u64.wrap (u*16))+(Int.tmod (if 97<=(IntKind.u64.wrap ((c.toNat:Nat):Int))then IntKind.u64.wrap ((IntKind.u64.wrap ((c.toNat:Nat):Int)) - 87)else IntKind.u64.wrap ((IntKind.u64.wrap ((c.toNat:Nat):Int)) - 48)) 16))
def Le(s:List UInt8):Int:=i64.wrap (((s.drop 2).take 16).foldl Ld 0)
def jC(s:List UInt8):Int×Bool:=if s.length=18/\oU (Le s)=s then(Le s,true)else(0,false)
def oA(s:List UInt8)(a:Arg):Bool:=FY a&&decide (ic a=s)
def cZ(s:List UInt8):Arg×Bool:=
 if oA s ⟨1,s,0⟩then(⟨1,s,0⟩,true)
 else if oA s ⟨2,[],(bw s).1⟩then(⟨2,[],(bw s).1⟩,true)
 else if oA s ⟨3,[],(jC s).1⟩then(⟨3,[],(jC s).1⟩,true)
 else if oA s ⟨4,[],0⟩then(⟨4,[],0⟩,true)
 else if oA s ⟨5,[],(bw (s.drop 1)).1⟩then(⟨5,[],(bw (s.drop 1)).1⟩,true)
 else(⟨0,[],0⟩,false)
def pZ(w:List UInt8):Bool:=decide (w=[105,110,116])||(decide (w=[102,108,111,97,116])||cu w)
def iz(l:List (List UInt8)):Bool:=decide (l.length=3)&&(cu (l.getD 1 [])&&pZ (l.getD 2 []))
def Ot(w:List UInt8):List (List UInt8)->Int->Int×Bool
 |[],_=>(0,false)
 |x::r,n=>if x=w then(n,true)else Ot w r (n+1)
def sOp(w:List UInt8):Int×Bool:=Ot w (Go.Am.gw.drop 1) 1
def fg(objs:Bool)(w:List UInt8):Bool:=(cZ w).2&&!(decide ((cZ w).1.Kind=5)&&!objs)
def dG(l:List (List UInt8))(objs:Bool):List Arg×Bool:=if l.all (fg objs)then(l.map fun w=>(cZ w).1,true)else([],false)
def db(objs:Bool):List (List UInt8)->Option (List Bind)
 |[]=>some []
 |[_]=>none
 |a::b::r=>if cu a&&fg objs b then(db objs r).map (⟨a,(cZ b).1⟩::·)else none
def bW(l:List (List UInt8))(a:Int)(objs:Bool):List Bind×Bool:=
 if(l.length:Int)<a then([],false)else match db objs (l.drop a.toNat)with
 |some x=>(x,true)
 |none=>([],false)
abbrev Read.out(r:Read):Bool:=decide (r.Where<=2)||decide (r.Where=9)
abbrev Read.ins(r:Read):Bool:=decide (5<=r.Where)&&decide (r.Where<=8)
def last{α:Type}[Inhabited α](l:List α)(f:α->α):List α:=l.set (l.length - 1) (f (l.getD (l.length - 1) default))
def Read.func(r:Read)(f:Func->Func):Read:={ r with P:={ r.P with Funcs:=last r.P.Funcs f } }
def Read.block(r:Read)(f:Block->Block):Read:=r.func fun g=>{ g with Blocks:=last g.Blocks f }
def Read.instr(r:Read)(f:Instr->Instr):Read:=r.block fun b=>{ b with Code:=last b.Code f }
def Read.curF(r:Read):Func:=r.P.Funcs.getD (r.P.Funcs.length - 1) default
def Read.curB(r:Read):Block:=r.curF.Blocks.getD (r.curF.Blocks.length - 1) default
def Read.curI(r:Read):Instr:=r.curB.Code.getD (r.curB.Code.length - 1) default
def pB(f:Func)(w n:Int):Prop:=
 (Name f.Name=true/\kind f.Result=true/\typed f.Params 6=true/\typed f.Vars 1024=true)/\(f.Blocks.length<=256/\0<=n/\n<=1024) /\
 (w<=4->f.Blocks=[]/\n=0) /\
 (5<=w->∃bs b,f.Blocks=bs++[b]/\bs.all block=true/\n=((f.Blocks.map fun b=>b.Phis.length+b.Code.length).sum:Nat) /\
  (Name b.Name=true/\b.Phis.all phi=true/\b.Code.all instr=true)/\(w=9->dv b.End=true) /\
  (6<=w->w<=8->∃cs c,b.Code=cs++[c]/\(7<=w->c.Op=31\/c.Op=34)))
def Inv(r:Read):Prop:=
 (0<=r.Where/\r.Where<=9)/\(r.P.Classes.length<=8/\r.P.Externs.length<=8/\r.P.Funcs.length<=8) /\
 (typed r.P.Globals 8=true/\r.P.Classes.all bL=true/\r.P.Externs.all cc=true) /\
 (r.Where=1->r.P.Classes≠[])/\(r.Where<=2->r.P.Funcs.all ay=true) /\
 (3<=r.Where->∃fs f,r.P.Funcs=fs++[f]/\fs.all ay=true/\pB f r.Where r.Long)
def kS(l:List (List UInt8))(_:Bool):Prop:=l.length<=room
abbrev w0(l:List (List UInt8)):List UInt8:=l.getD 0 default
abbrev w1(l:List (List UInt8)):List UInt8:=l.getD 1 default
abbrev w2(l:List (List UInt8)):List UInt8:=l.getD 2 default
abbrev w3(l:List (List UInt8)):List UInt8:=l.getD 3 default
def eG(r:Read)(l:List (List UInt8)):Int×Read:=
 if(r.out&&decide (l.length=2)&&cu (w1 l))=false then(3,r)
 else if 8<=r.P.Classes.length then(2,r)else(0,{ r with P:={ r.P with Classes:=r.P.Classes++[⟨w1 l,[]⟩] },Where:=1 })
def gk(r:Read)(l:List (List UInt8)):Int×Read:=
 if(decide (r.Where=1)&&iz l)=false then(3,r)
 else if 8<=(r.P.Classes.getD (r.P.Classes.length - 1) default).Fields.length then(2,r)else(0,{ r with P:={ r.P with Classes:=last r.P.Classes fun c=>{ c with Fields:=c.Fields++[⟨w1 l,w2 l⟩] } } })
def dP(r:Read)(l:List (List UInt8)):Int×Read:=
 if(r.out&&iz l)=false then(3,r)
 else(if 8<=r.P.Globals.length then 2 else 0,{ r with P:={ r.P with Globals:=r.P.Globals++[⟨w1 l,w2 l⟩] },Where:=2 })
def dO(r:Read)(l:List (List UInt8)):Int×Read:=
 if(r.out&&decide (l.length=3)&&cu (w1 l)&&((bw (w2 l)).2&&decide (0<=(bw (w2 l)).1)&&decide ((bw (w2 l)).1<=8)))=false then(3,r)
 else(if 8<=r.P.Externs.length then 2 else 0,{ r with P:={ r.P with Externs:=r.P.Externs++[⟨w1 l,(bw (w2 l)).1⟩] },Where:=2 })
def gz(r:Read)(l:List (List UInt8)):Int×Read:=
 if(r.out&&iz l)=false then(3,r)
 else(if 8<=r.P.Funcs.length then 2 else 0,{ r with P:={ r.P with Funcs:=r.P.Funcs++[⟨w1 l,w2 l,[],[],[]⟩] },Where:=3,Long:=0 })
abbrev nY:List UInt8:=[99,108,97,115,115]
abbrev lV:List UInt8:=[102,105,101,108,100]
abbrev iv:List UInt8:=[103,108,111,98,97,108]
abbrev fR:List UInt8:=[101,120,116,101,114,110]
abbrev rT:List UInt8:=[102,117,110,99]
abbrev lW:List UInt8:=[112,97,114,97,109]
abbrev BY:List UInt8:=[118,97,114]
abbrev nX:List UInt8:=[98,108,111,99,107]
abbrev wi:List UInt8:=[112,104,105]
abbrev kAt:List UInt8:=[97,116]
abbrev mK:List UInt8:=[111,98,106]
abbrev lF:List UInt8:=[106,117,109,112]
abbrev dD:List UInt8:=[98,114,97,110,99,104]
abbrev rJ:List UInt8:=[114,101,116]
abbrev pK:List UInt8:=[116,114,97,112]
abbrev sK:List UInt8:=[115,115,97]
def bM(r:Read)(l:List (List UInt8)):(Bool×Int)×Read:=
 if w0 l=nY then((true,(eG r l).1),(eG r l).2)
 else if w0 l=lV then((true,(gk r l).1),(gk r l).2)
 else if w0 l=iv then((true,(dP r l).1),(dP r l).2)
 else if w0 l=fR then((true,(dO r l).1),(dO r l).2)
 else if w0 l=rT then((true,(gz r l).1),(gz r l).2)
 else((false,0),r)
def gm(r:Read)(l:List (List UInt8)):Int×Read:=
 if(decide (r.Where=3)&&iz l)=false then(3,r)
 else(if 6<=r.curF.Params.length then 2 else 0,r.func fun f=>{ f with Params:=f.Params++[⟨w1 l,w2 l⟩] })
def jN(r:Read)(l:List (List UInt8)):Int×Read:=
 if((decide (r.Where=3)||decide (r.Where=4))&&iz l)=false then(3,r)
 else(if 1024<=r.curF.Vars.length then 2 else 0,{ r.func (fun f=>{ f with Vars:=f.Vars++[⟨w1 l,w2 l⟩] })with Where:=4 })
def dL(r:Read)(l:List (List UInt8)):Int×Read:=
 if((decide (r.Where=3)||decide (r.Where=4)||decide (r.Where=9))&&decide (l.length=2)&&cu (w1 l))=false then(3,r)
 else(if 256<=r.curF.Blocks.length then 2 else 0,{ r.func (fun f=>{ f with Blocks:=f.Blocks++[⟨w1 l,[],[],⟨0,⟨0,[],0⟩,[],0⟩⟩] })with Where:=5 })
def ma(r:Read)(l:List (List UInt8)):Int×Read:=
 if(decide (r.Where=5)&&(bW l 2 false).2&&!decide ((bW l 2 false).1.length=0)&&cu (w1 l))=false then(3,r)
 else if 256 < (bW l 2 false).1.length\/1024<=r.Long then(2,r)
 else(0,{ r.block (fun b=>{ b with Phis:=b.Phis++[⟨w1 l,(bW l 2 false).1.map fun x=>⟨x.Name,x.A⟩⟩] })with Long:=r.Long+1 })
def cr(r:Read)(l:List (List UInt8)):(Bool×Int)×Read:=
 if w0 l=lW then((true,(gm r l).1),(gm r l).2)
 else if w0 l=BY then((true,(jN r l).1),(jN r l).2)
 else if w0 l=nX then((true,(dL r l).1),(dL r l).2)
 else if w0 l=wi then((true,(ma r l).1),(ma r l).2)
 else((false,0),r)
def sAt(r:Read)(l:List (List UInt8)):Int×Read:=
 if(decide (r.Where=7)&&(bW l 4 true).2&&cu (w1 l)&&cu (w2 l)&&((bw (w3 l)).2&&decide (0<=(bw (w3 l)).1)&&decide ((bw (w3 l)).1<=1024)))=false then(3,r)
 else if 16 < (bW l 4 true).1.length\/16<=r.curI.Frames.length then(2,r)
 else(0,r.instr fun x=>{ x with Frames:=x.Frames++[⟨w1 l,w2 l,(bw (w3 l)).1,(bW l 4 true).1⟩] })
def l9(r:Read)(l:List (List UInt8)):Int×Read:=
 if(decide (7<=r.Where)&&decide (2<=l.length)&&decide (l.length<=10)&&cu (w1 l)&&(dG (l.drop 2) true).2)=false then(3,r)
 else(if 99<=r.curI.Objs.length then 2 else 0,{ r.instr (fun x=>{ x with Objs:=x.Objs++[⟨w1 l,(dG (l.drop 2) true).1⟩] })with Where:=8 })
def kW(l:List (List UInt8)):Option Term:=
 if w0 l=lF then(if(decide (l.length=2)&&cu (w1 l))=true then some ⟨1,⟨0,[],0⟩,[w1 l],0⟩else none)
 else if w0 l=dD then(if(decide (l.length=4)&&(cu (w2 l)&&cu (w3 l))&&fg false (w1 l))=true then some ⟨2,(cZ (w1 l)).1,[w2 l,w3 l],0⟩else none)
 else if w0 l=rJ then(if(decide (l.length=2)&&fg false (w1 l))=true then some ⟨3,(cZ (w1 l)).1,[],0⟩else none)
 else if w0 l=pK then(if(decide (l.length=2)&&(bw (w1 l)).2)=true then some ⟨4,⟨0,[],0⟩,[],(bw (w1 l)).1⟩else none)
 else none
def uY(r:Read)(l:List (List UInt8)):Int×Read:=match kW l with
 |some t=>(0,{ r.block (fun b=>{ b with End:=t })with Where:=9 })
 |none=>(3,{ r with Where:=9 })
def bq(r:Read)(l:List (List UInt8)):(Bool×Int)×Read:=
 if w0 l=kAt\/w0 l=mK\/w0 l=lF\/w0 l=dD\/w0 l=rJ\/w0 l=pK then
  if r.ins=false then((true,3),r)
  else if w0 l=kAt then((true,(sAt r l).1),(sAt r l).2)
  else if w0 l=mK then((true,(l9 r l).1),(l9 r l).2)
  else((true,(uY r l).1),(uY r l).2)
 else((false,0),r)
def Lh(op:Int)(l:List (List UInt8)):Option (List UInt8×List (List UInt8)):=
 if op=26\/op=27 then(if l.length < 3 then none else some (w2 l,w1 l::l.drop 3))
 else if(rOf op).1.Named then(if l.length < 2 then none else some (w1 l,l.drop 2))
 else some ([],l.drop 1)
def gl(dst:List UInt8)(l:List (List UInt8)):Option Instr:=
 if((sOp (w0 l)).2&&((rOf (sOp (w0 l)).1).1.Dst==!decide (dst=[])))=false then none
 else match Lh (sOp (w0 l)).1 l with
 |none=>none
 |some (nm,rest)=>
  if((dG rest false).2&&!((rOf (sOp (w0 l)).1).1.Named&&!cu nm)&&decide ((rOf (sOp (w0 l)).1).1.Least<=((dG rest false).1.length:Int))&&decide (((dG rest false).1.length:Int)<=(rOf (sOp (w0 l)).1).1.Most))=true
  then some ⟨(sOp (w0 l)).1,dst,nm,(dG rest false).1,[],[]⟩else none
def sEq(l:List (List UInt8)):Bool:=decide (2<l.length)&&decide (w1 l=[61])
def da(r:Read)(l:List (List UInt8)):Int×Read:=
 if(sEq l&&!cu (w0 l))=true then(3,r)
 else if r.ins=false then(3,r)
 else match gl (if sEq l then w0 l else []) (if sEq l then l.drop 2 else l)with
 |none=>(3,r)
 |some x=>if 1024<=r.Long then(2,r)else(0,{ r.block (fun b=>{ b with Code:=b.Code++[x] })with Where:=if x.Op=31\/x.Op=34 then 7 else 6,Long:=r.Long+1 })
def aM(r:Read)(l:List (List UInt8))(first:Bool):Int×Read:=
 if sEq l then da r l
 else if w0 l=sK then(if(first&&decide (l.length=1))=false then(3,r)else(0,{ r with P:={ r.P with SSA:=true } }))
 else if(bM r l).1.1 then((bM r l).1.2,(bM r l).2)
 else if(cr r l).1.1 then((cr r l).1.2,(cr r l).2)
 else if(bq r l).1.1 then((bq r l).1.2,(bq r l).2)
 else da r l
structure Cut where
 out:List RLine
 l:List (List UInt8)
 w:List UInt8
 n:Int
 remark:Bool
 bad:Bool
def Cut.word(k:Cut):Cut:={ k with l:=if k.w=[]then k.l else k.l++[k.w],w:=[] }
def Cut.byte(k:Cut)(c:UInt8):Cut:=
 if c=59 then { k.word with remark:=true }
 else if(k.remark||c=32||c=9)=true then k.word
 else { k with bad:=k.bad||(decide (c.toNat < 33)||decide (126<c.toNat)),w:=k.w++[c] }
def Cut.line(k:Cut):Cut:={ out:=if k.word.l=[]then k.out else k.out++[⟨k.n,k.word.l⟩],l:=[],w:=[],n:=k.n+1,remark:=false,bad:=k.bad }
def cJ:List UInt8->Cut->List RLine×Int×Int
 |[],k=>if k.bad then([],k.n,3)else(k.line.out,0,0)
 |c::r,k=>if c=10 then(if k.bad then([],k.n,3)else cJ r k.line)else cJ r (k.byte c)
def gn(s:List UInt8):List RLine×Int×Int:=if 4194304<s.length then([],0,2)else cJ s ⟨[],[],[],1,false,false⟩
def jW:List RLine->Bool->Read->Program×Int×Int
 |[],_,r=>if r.out then(r.P,0,0)else(⟨false,[],[],[],[]⟩,0,3)
 |x::t,first,r=>if(aM r x.Words first).1=0 then jW t false (aM r x.Words first).2 else(⟨false,[],[],[],[]⟩,x.N,(aM r x.Words first).1)
def Gc(s:List UInt8):Program×Int×Int:=
 if(gn s).2.2=0 then jW (gn s).1 true ⟨⟨false,[],[],[],[]⟩,0,0⟩else(⟨false,[],[],[],[]⟩,(gn s).2.1,(gn s).2.2)
def fe(s:List UInt8):Int×Bool:=bw s
def zV(s:List UInt8):Int×Bool:=jC s
def rv(s:List UInt8):Arg×Bool:=cZ s
def lb(s:List UInt8):Arg×Bool:=if(jC s).2 then(⟨3,[],(jC s).1⟩,true)else if(bw s).2 then(⟨2,[],(bw s).1⟩,true)else(⟨0,[],0⟩,false)
def iI(l:List Int)(n:Int):Bool:=l.contains n
def cN(w:List UInt8):Except Value (List UInt8):=if Name w then .ok w else .error (flt 3)
def iF(w:List UInt8):Except Value (List UInt8):=if pZ w then .ok w else .error (flt 3)
def rC(w:List UInt8)(least most:Int):Except Value Int:=if(bw w).2&&(decide (least<=(bw w).1)&&decide ((bw w).1<=most))then .ok (bw w).1 else .error (flt 3)
def BL(w:List UInt8)(objs:Bool):Except Value Arg:=if fg objs w then .ok (cZ w).1 else .error (flt 3)
def rX(l:List (List UInt8))(objs:Bool):Except Value (List Arg):=if(dG l objs).2 then .ok (dG l objs).1 else .error (flt 3)
def yOp(w:List UInt8):Int×Bool:=sOp w
def Reader.abs(r:Reader):Read:=⟨r.p,if r.where_=0 then(if 0<=r.long then 9 else 2)else if r.where_=1 then 1 else r.where_+1,r.long⟩
def ii(r:Reader)(x:Int×Read)(w:Int):Except Value Unit×Reader:=
 if x.1=0 then(.ok (),⟨x.2.P,r.at_,w,r.first,x.2.Long⟩)else(.error (flt x.1),r)
def ac3(r:Reader)(l:List (List UInt8)):Except Value Unit×Reader:=ii r (if(r.first&&decide (l.length=1))=false then(3,r.abs)else(0,{ r.abs with P:={ r.p with SSA:=true } })) r.where_
def Gm(r:Reader)(l:List (List UInt8)):Except Value Unit×Reader:=ii r (eG r.abs l) 1
def Gp(r:Reader)(l:List (List UInt8)):Except Value Unit×Reader:=ii r (gk r.abs l) r.where_
def yH(r:Reader)(l:List (List UInt8)):Except Value Unit×Reader:=ii r (dP r.abs l) 0
def yG(r:Reader)(l:List (List UInt8)):Except Value Unit×Reader:=ii r (dO r.abs l) 0
def rA(r:Reader)(l:List (List UInt8)):Except Value Unit×Reader:=ii r (gz r.abs l) 2
def Gs(r:Reader)(l:List (List UInt8)):Except Value Unit×Reader:=ii r (gm r.abs l) r.where_
def rE(r:Reader)(l:List (List UInt8)):Except Value Unit×Reader:=ii r (jN r.abs l) 3
def Gt(r:Reader)(l:List (List UInt8)):Except Value Unit×Reader:=ii r (dL r.abs l) 4
def ac2(r:Reader)(l:List (List UInt8)):Except Value Unit×Reader:=ii r (ma r.abs l) 4
def xV(r:Reader)(l:List (List UInt8)):Except Value Unit×Reader:=ii r (da r.abs l) ((da r.abs l).2.Where - 1)
def Gq(r:Reader)(l:List (List UInt8)):Except Value Unit×Reader:=ii r (sAt r.abs l) 6
def rD(r:Reader)(l:List (List UInt8)):Except Value Unit×Reader:=ii r (if r.abs.ins=false then(3,r.abs)else l9 r.abs l) 7
def qf(l:List (List UInt8)):Option Term:=if w0 l=lF\/w0 l=dD\/w0 l=rJ then kW l else if(decide (l.length=2)&&(bw (w1 l)).2)=true then some ⟨4,⟨0,[],0⟩,[],(bw (w1 l)).1⟩else none
def Gn(r:Reader)(l:List (List UInt8)):Except Value Unit×Reader:=ii r (if r.abs.ins=false then(3,r.abs)else match qf l with|some t=>(0,{ r.abs.block (fun b=>{ b with End:=t })with Where:=9 })|none=>(3,r.abs)) 0
def rY(r:Reader)(l:List (List UInt8)):Except Value Unit×Reader:=
 if sEq l then xV r l
 else if w0 l=sK then ac3 r l else if w0 l=nY then Gm r l else if w0 l=lV then Gp r l else if w0 l=iv then yH r l
 else if w0 l=fR then yG r l else if w0 l=rT then rA r l else if w0 l=lW then Gs r l else if w0 l=BY then rE r l
 else if w0 l=nX then Gt r l else if w0 l=wi then ac2 r l else if w0 l=kAt then Gq r l else if w0 l=mK then rD r l
 else if w0 l=lF\/w0 l=dD\/w0 l=rJ\/w0 l=pK then Gn r l else xV r l
def Reader.heads(r:Reader):Nat:=r.p.Classes.length+r.p.Globals.length+r.p.Externs.length
def BM(r:Reader)(l:List (List UInt8)):Except Value Unit×Reader:=match rY r l with
 |(.ok _,x)=>(.ok (),{ x with first:=false,long:=if r.heads<x.heads then -1 else x.long })
 |(.error v,x)=>(.error v,x)
def oI(s:List UInt8):Program×Int×Int:=Gc s
def blank(c:UInt8):Bool:=decide (c=32)||decide (c=9)
def jf:List UInt8->List UInt8->List (List UInt8)->List (List UInt8)×Bool
 |[],w,out=>(if w=[]then out else out++[w],true)
 |c::r,w,out=>if blank c then jf r [] (if w=[]then out else out++[w])else if c.toNat<=32\/126<c.toNat then([],false)else jf r (w++[c]) out
def DV(s:List UInt8):Prop:=s.length<=room
def dw(s:List UInt8):List (List UInt8)×Bool:=jf s [] []
def gj(s:List UInt8):List Line×Int×Int:=((gn s).1.map fun l=>⟨l.N,l.Words⟩,(gn s).2.1,(gn s).2.2)
def Reader.inv(r:Reader):Prop:=Inv r.abs/\(0<=r.where_/\r.where_<=7)/\(-1<=r.long/\r.long<=1024)/\(0<=r.long ↔ r.where_≠1/\r.abs.Where≠2)
def bG(r:Reader)(l:List (List UInt8)):Prop:=r.inv/\l≠[]/\l.length<=room
def KQ(f:Func):Prop:=mY f/\xR f<=1000000
def DT(f:Func)(y:List (List (List UInt8))):Prop:=y.length=f.Blocks.length/\∀k,k<f.Blocks.length->(y.getD k []).length<=xR f/\∀v,v∈y.getD k [] ↔ (¬ Bare f v k\/v∈phB f k)
def KX(l:List (List UInt8))(v:List UInt8):Bool:=decide (v∈l)
def Yi(p:Program):Prop:=p.ok/\(Few p 6000=true->bN p/\(∀f∈p.Funcs,xR f<=100000/\∀b∈f.Blocks,b.Code.length<=100000)/\(oy p).length<=4194304)
def Rm(_:Program):Bool:=true
end Lt
end

section
namespace Go.Am
open Go
def O2(a:Lt.Func)(KK:(List (List (List UInt8)))->Prop):Prop:=
 (mY a)/\(∀b:List (Option (List ((List UInt8)×Bool))),mX a b->(b.length<=4611686018427387904->ab (α:=List (List (List UInt8))×Int) (fun d v3=>if(decide (v3.2 < (b.length:Int)))=true then(((0:Int)<=v3.2/\v3.2.toNat<b.length)/\(DX (EM (b.getD v3.2.toNat default)))/\(∀c:List (List UInt8),A4 (EM (b.getD v3.2.toNat default)) c->(v3.1.length+([c]:List (List (List UInt8))).length<=4611686018427387904/\(v3.1.length+([c]:List (List (List UInt8))).length)*24<=140737488355328)/\d ((v3.1++([c]:List (List (List UInt8)))),(i64.wrap (v3.2+1)))))else(KK v3.1)) ([],0)))
def O9(a:List (List UInt8))(b:List UInt8)(KK:Bool->Prop):Prop:=
 ab (α:=Int) (fun d c=>(a.length<=4611686018427387904->if(decide (c < (a.length:Int)))=true then(((0:Int)<=c/\c.toNat<a.length)/\if(decide ((a.getD c.toNat default)=b))=true then(KK true)else(d (i64.wrap (c+1))))else(KK false))) 0
def CF(a:Lt.Func)(b:List UInt8)(KK:Int->Prop):Prop:=
 ab (α:=Int×Int) (fun m e=>have g:=((0:Int)<=e.2/\e.2.toNat<a.Blocks.length);have d:=a.Blocks.getD e.2.toNat default;(a.Blocks.length<=4611686018427387904->if(decide (e.2 < (a.Blocks.length:Int)))=true then(ab (α:=Int×Int) (fun o v4=>g/\((d.Phis).length<=4611686018427387904->if(decide (v4.2 < ((d.Phis).length:Int)))=true then(aa (α:=Int) (fun j=>g/\((0:Int)<=v4.2/\v4.2.toNat < (d.Phis).length)/\if(decide (((d.Phis).getD v4.2.toNat default).Dst=b))=true then(j (i64.wrap (v4.1+1)))else(j v4.1)) (fun l=>o (l,(i64.wrap (v4.2+1)))))else(ab (α:=Int×Int) (fun n c=>g/\((d.Code).length<=4611686018427387904->if(decide (c.2 < ((d.Code).length:Int)))=true then(aa (α:=Int) (fun k=>aa (α:=Bool) (fun f=>if(!decide (b=([]:List UInt8)))=true then(g/\((0:Int)<=c.2/\c.2.toNat < (d.Code).length)/\f (decide (((d.Code).getD c.2.toNat default).Dst=b)))else(f false)) (fun h=>if h=true then(k (i64.wrap (c.1+1)))else(k c.1))) (fun i=>n (i,(i64.wrap (c.2+1)))))else(m (c.1,(i64.wrap (e.2+1)))))) (v4.1,0)))) (e.1,0))else(KK e.1))) (0,0)
def Cz(KK:Bool->Prop):Prop:=
 have b:=oI [115,115,97,10,102,117,110,99,32,102,32,105,110,116,10,118,97,114,32,120,32,105,110,116,10,98,108,111,99,107,32,97,10,120,32,61,32,109,111,118,32,49,10,114,101,116,32,120,10];have c:=oI [115,115,97,10,102,117,110,99,32,102,32,105,110,116,10,118,97,114,32,120,32,105,110,116,10,98,108,111,99,107,32,97,10,120,32,61,32,109,111,118,32,49,10,120,32,61,32,109,111,118,32,50,10,114,101,116,32,120,10];aa (α:=Bool) (fun a=>if(decide (b.2.2=0))=true then(if(decide (c.2.2=0))=true then((bN (b.1))/\if(decide ((dq (b.1))=0))=true then((bN (c.1))/\if(decide ((dq (c.1))=4))=true then((bN (Lt.Program.mk false [] [] [] []))/\a (decide ((dq (Lt.Program.mk false [] [] [] []))=3)))else(a false))else(a false))else(a false))else(a false)) (fun d=>KK d)
def oZ(a:Lt.Program)(KK:Bool->Prop):Prop:=
 have z5:=oI ((nb a).1);aa (α:=Bool) (fun m=>if(!EN)=true then(m true)else((Yf a 6000)/\if(!(Lt.Few a 6000))=true then(m true)else((bN a)/\m (!decide ((dq a)=0))))) (fun t=>if t=true then(KK EN)else((FU a)/\aa (α:=Bool) (fun p=>if(!decide ((nb a).2=0))=true then(p true)else(if(!decide (z5.2.2=0))=true then(p true)else((bN (z5.1))/\p (!decide ((dq (z5.1))=0))))) (fun v4=>if v4=true then(KK false)else(ab (α:=Int) (fun v j=>have d:=a.Funcs.getD j.toNat default;(a.Funcs.length<=4611686018427387904->if(decide (j < (a.Funcs.length:Int)))=true then(((0:Int)<=j/\j.toNat<a.Funcs.length)/\ab (α:=Int) (fun u h=>((d.Vars).length<=4611686018427387904->if(decide (h < ((d.Vars).length:Int)))=true then(((0:Int)<=h/\h.toNat < (d.Vars).length)/\(DW d (((d.Vars).getD h.toNat default).Name))/\if(!decide ((FW d (((d.Vars).getD h.toNat default).Name))=1))=true then(KK false)else(u (i64.wrap (h+1))))else((KQ d)/\(∀q:List (List (List UInt8)),DT d q->ab (α:=Int) (fun o c=>have z4:=((0:Int)<=c/\c.toNat < (d.Blocks).length);have z3:=(d.Blocks).getD c.toNat default;((d.Blocks).length<=4611686018427387904->if(decide (c < ((d.Blocks).length:Int)))=true then(((0:Int)<=c/\c.toNat<q.length)/\ab (α:=List (List UInt8)×Int) (fun s b=>have g:=(z3.Code).getD b.2.toNat default;z4/\((z3.Code).length<=4611686018427387904->if(decide (b.2 < ((z3.Code).length:Int)))=true then(aa (α:=List (List UInt8)) (fun i=>z4/\((0:Int)<=b.2/\b.2.toNat < (z3.Code).length)/\(fV g)/\(∀f:List (List UInt8),uM g f->ab (α:=Int) (fun n e=>(f.length<=4611686018427387904->if(decide (e < (f.length:Int)))=true then(((0:Int)<=e/\e.toNat<f.length)/\if(!(KX b.1 (f.getD e.toNat default)))=true then(KK false)else(n (i64.wrap (e+1))))else(if(!decide (g.Dst=([]:List UInt8)))=true then(aa (α:=Bool) (fun l=>if(KX b.1 (g.Dst))=true then(z4/\l (decide ((((z3.End).To).length:Int)=0)))else(l false)) (fun v20=>if v20=true then(KK false)else((N7 b.1 (g.Dst))/\(∀k:List (List UInt8),FR b.1 (g.Dst) k->i k))))else(i b.1)))) 0)) (fun r=>s (r,(i64.wrap (b.2+1)))))else(o (i64.wrap (c+1))))) ((q.getD c.toNat []),0))else(v (i64.wrap (j+1))))) 0)))) 0)else(KK true))) 0))))
def Pa(a:Lt.Phi)(b:List (List UInt8))(KK:Bool->Prop):Prop:=
 (a.Ins.length<=4611686018427387904->(b.length<=4611686018427387904->if(!decide ((a.Ins.length:Int)=(b.length:Int)))=true then(KK false)else((b.length<=4611686018427387904->ab (α:=Int×List ((List UInt8)×Bool)) (fun d c=>if(decide (c.1 < (b.length:Int)))=true then(((0:Int)<=c.1/\c.1.toNat<b.length)/\d ((i64.wrap (c.1+1)),(bV .s c.2 (b.getD c.1.toNat default) true)))else((a.Ins.length<=4611686018427387904->ab (α:=Int×List ((List UInt8)×Bool)) (fun e v4=>if(decide (v4.1 < (a.Ins.length:Int)))=true then(((0:Int)<=v4.1/\v4.1.toNat<a.Ins.length)/\if(!((aw (β:=Bool) .s v4.2 ((a.Ins.getD v4.1.toNat default).Block)).getD (dflt .bo)))=true then(KK false)else(e ((i64.wrap (v4.1+1)),(sB .s v4.2 ((a.Ins.getD v4.1.toNat default).Block)))))else(KK true)) (0,c.2)))) (0,[])))))
def GX(a:Lt.Func)(KK:Bool->Prop):Prop:=
 (a.Blocks.length<=4611686018427387904->ab (α:=Int×List ((List UInt8)×List (List UInt8))) (fun j e=>have d:=a.Blocks.getD e.1.toNat default;if(decide (e.1 < (a.Blocks.length:Int)))=true then(((0:Int)<=e.1/\e.1.toNat<a.Blocks.length)/\(((d.End).To).length<=4611686018427387904->ab (α:=Int×List ((List UInt8)×List (List UInt8))) (fun l v4=>have z3:=((d.End).To).getD v4.1.toNat default;have z4:=(aw (β:=List (List UInt8)) .s v4.2 z3).getD [];if(decide (v4.1 < (((d.End).To).length:Int)))=true then(((0:Int)<=v4.1/\v4.1.toNat < ((d.End).To).length)/\(z4.length+([d.Name]:List (List UInt8)).length<=4611686018427387904/\(z4.length+([d.Name]:List (List UInt8)).length)*16<=140737488355328)/\z3=z3/\l ((i64.wrap (v4.1+1)),(bV .s v4.2 z3 (z4++([d.Name]:List (List UInt8))))))else(j ((i64.wrap (e.1+1)),v4.2))) (0,e.2)))else((a.Blocks.length<=4611686018427387904->ab (α:=Int) (fun k f=>have c:=a.Blocks.getD f.toNat default;have z5:=(aw (β:=List (List UInt8)) .s e.2 (c.Name)).getD (dflt (.sl .s));if(decide (f < (a.Blocks.length:Int)))=true then(((0:Int)<=f/\f.toNat<a.Blocks.length)/\aa (α:=Bool) (fun g=>if(decide (f=0))=true then(g (decide (0 < ((c.Phis).length:Int))))else(g false)) (fun i=>if i=true then(KK false)else(((c.Phis).length<=4611686018427387904->ab (α:=Int) (fun h b=>if(decide (b < ((c.Phis).length:Int)))=true then(((0:Int)<=b/\b.toNat < (c.Phis).length)/\(KS ((c.Phis).getD b.toNat default) z5)/\if(!(Ed ((c.Phis).getD b.toNat default) z5))=true then(KK false)else(h (i64.wrap (b+1))))else(k (i64.wrap (f+1)))) 0))))else(KK true)) 0))) (0,[]))
end Go.Am
end

section
namespace Go.Am
open Go
open Lt (nmB toB Gd Rc)
def Ri(m:List (List UInt8×Bool))(K:List (List UInt8)):Prop:=∀k,(aw (β:=Bool) .s m k).getD false=decide (k∈K)
theorem Ri.ins{m:List (List UInt8×Bool)}{K:List (List UInt8)}(h:Ri m K)(k0:List UInt8):Ri (bV .s m k0 true) (K++[k0]):=by
 intro k;rw[mS];by_cases e:k0=k
 ·rw[if_pos e];simp[e]
 ·rw[if_neg e,h k,decide_eq_decide,ai9,ajD];exact⟨.inl,fun h=>h.elim id fun h=>absurd h.symm e⟩
variable{β:Type}
theorem Qj:∀(m:List (List UInt8×β))(k:List UInt8),k ∉ m.map (·.1)->aw .s m k=none
 |[],_,_=>rfl
 |x::l,k,h=>by
  simp only[aiZ,ai7,not_or]at h;simp only[aw,lX];rw[decide_eq_false (fun e=>h.1 e.symm)];exact Qj l k h.2
theorem Dr(v:β):∀(m:List (List UInt8×β))(k0 x:List UInt8),x∈(bV .s m k0 v).map (·.1)->x=k0\/x∈m.map (·.1)
 |[],k0,x,h=>by simpa[bV]using h
 |y::l,k0,x,h=>by
  simp only[bV,lX]at h;by_cases e:y.1=k0
  ·rw[decide_eq_true e]at h;simp only[aiZ,ai7]at h⊢;exact h.elim .inl fun h=>.inr (.inr h)
  ·rw[decide_eq_false e]at h;simp only[aiZ,ai7]at h⊢;rcases h with h|h
   ·exact .inr (.inl h)
   ·exact(Dr v l k0 x h).elim .inl fun h=>.inr (.inr h)
theorem Aq(v:β):∀(m:List (List UInt8×β))(k0:List UInt8),(m.map (·.1)).Nodup->((bV .s m k0 v).map (·.1)).Nodup
 |[],k0,_=>by simp[bV]
 |y::l,k0,h=>by
  obtain⟨h1,h2⟩:=aj3.1 h;simp only[bV,lX];by_cases e:y.1=k0
  ·rw[decide_eq_true e];simp only[aiZ,aj3];exact⟨e ▸ h1,h2⟩
  ·rw[decide_eq_false e];simp only[aiZ,aj3];refine⟨fun a=>?_,Aq v l k0 h2⟩;rcases Dr v l k0 _ a with h3|h3
   ·exact e h3
   ·exact h1 h3
theorem I4:∀(m:List (List UInt8×β))(k0 x:List UInt8),x∈(sB .s m k0).map (·.1)->x∈m.map (·.1)
 |[],k0,x,h=>h
 |y::l,k0,x,h=>by
  simp only[sB,lX]at h;by_cases e:y.1=k0
  ·rw[decide_eq_true e]at h;simp only[aiZ,ai7];exact .inr h
  ·rw[decide_eq_false e]at h;simp only[aiZ,ai7]at h⊢;exact h.elim .inl fun h=>.inr (I4 l k0 x h)
theorem Dd:∀(m:List (List UInt8×β))(k0:List UInt8),(m.map (·.1)).Nodup->((sB .s m k0).map (·.1)).Nodup
 |[],_,h=>h
 |y::l,k0,h=>by
  obtain⟨h1,h2⟩:=aj3.1 h;simp only[sB,lX];by_cases e:y.1=k0
  ·rw[decide_eq_true e];exact h2
  ·rw[decide_eq_false e];simp only[aiZ,aj3];exact⟨fun a=>h1 (I4 l k0 _ a),Dd l k0 h2⟩
theorem Kq:∀(m:List (List UInt8×β))(k0 k:List UInt8),(m.map (·.1)).Nodup->aw .s (sB .s m k0) k=if k0=k then none else aw .s m k
 |[],k0,k,_=>by simp[sB,aw]
 |y::l,k0,k,h=>by
  obtain⟨h1,h2⟩:=aj3.1 h;simp only[sB,aw,lX];by_cases e:y.1=k0
  ·rw[decide_eq_true e];by_cases a:k0=k
   ·rw[if_pos a];exact Qj l k (a ▸ e ▸ h1)
   ·rw[if_neg a,decide_eq_false (fun b=>a (e.symm.trans b))]
  ·rw[decide_eq_false e];simp only[aw,lX];by_cases a:y.1=k
   ·rw[decide_eq_true a,if_neg (fun b=>e (a.trans b.symm))]
   ·rw[decide_eq_false a];exact Kq l k0 k h2
theorem Tf(x:Lt.Phi)(l:List (List UInt8))(hp:KS x l)(KK:Bool->Prop)(h:KK (Ed x l)):Pa x l KK:=by
 unfold Pa;obtain⟨hx,hl⟩:=hp;intro _ _;unfold Ed at h;refine ifk (fun hc=>?_) (fun hc _=>?_)
 ·have:decide ((x.Ins.length:Int)=(l.length:Int))=false:=by simpa using hc
  rw[this]at h;exact h
 have:decide ((x.Ins.length:Int)=(l.length:Int))=true:=by simpa using hc
 rw[this,ajT]at h;refine au _ l.length (fun i v=>v.1=(i:Int)/\(v.2.map (·.1)).Nodup/\Ri v.2 (l.take i)) (fun R i v hi⟨e,hd,a⟩ih=>?_) (fun R v⟨e,hd,a⟩=>?_) _ ⟨rfl,.nil,fun _=>rfl⟩
 ·obtain⟨c,b⟩:=v;dsimp only at e hd a⊢;subst e;rw[if_pos (aX hi)];refine⟨ob hi,ih _ ⟨ac kQ1,Aq _ _ _ hd,?_⟩⟩;rw[Int.toNat_natCast,aB _ hi];exact a.ins _
 ·obtain⟨c,b⟩:=v;dsimp only at e hd a⊢;subst e;rw[if_neg (by simp)];rw[ajH]at a;intro _;refine au _ x.Ins.length (fun i v=>v.1=(i:Int)/\(v.2.map (·.1)).Nodup/\∃K,Ri v.2 K/\KK (EU K (x.Ins.drop i))) (fun R i v hi⟨e,hd,K,a,hk⟩ih=>?_) (fun R v⟨e,hd,K,a,hk⟩=>?_) _ ⟨rfl,hd,l,a,h⟩
  ·obtain⟨c,b⟩:=v;dsimp only at e hd a⊢;subst e;rw[if_pos (aX hi)];refine⟨ob hi,?_⟩;rw[Int.toNat_natCast];rw[fN _ hi]at hk;unfold EU at hk;generalize x.Ins.getD i default=y at hk;have hy:(aw (β:=Bool) .s b y.Block).getD (dflt .bo)=decide (y.Block∈K):=a y.Block
   rw[hy];refine ifk (fun hc=>?_) (fun hc=>?_)
   ·have:decide (y.Block∈K)=false:=by simpa using hc
    rw[this,akR]at hk;exact hk
   ·have:decide (y.Block∈K)=true:=by simpa using hc
    rw[this,ajT]at hk;refine ih _ ⟨ac kQ1,Dd _ _ hd,_,fun k=>?_,hk⟩;dsimp only;show(aw (β:=Bool) .s (sB .s b y.Block) k).getD (dflt .bo)=_
    rw[Kq _ _ _ hd];by_cases e:y.Block=k
    ·rw[if_pos e];subst e;rw[decide_eq_false (fun a=>by have:=(List.mem_filter.1 a).2;simp at this)];rfl
    ·rw[if_neg e];refine(a k).trans ?_;rw[decide_eq_decide,List.mem_filter];exact⟨fun h=>⟨h,by simpa using fun e'=>e e'.symm⟩,(·.1)⟩
  ·obtain⟨c,b⟩:=v;dsimp only at e hd a⊢;subst e;rw[if_neg (by simp)];rw[akA]at hk;exact hk
theorem WX(s:List UInt8)(b:Lt.Block):(aaS s b).length<=b.End.To.length:=by
 unfold aaS;rw[ai2];exact akM _ _
theorem WY(B:List Lt.Block)(s:List UInt8){i:Nat}(h:i<B.length):Lt.frm (B.take (i+1)) s=Lt.frm (B.take i) s++aaS s (B.getD i default):=by
 unfold Lt.frm;rw[aB B h,List.flatMap_append,List.flatMap_singleton]
theorem Nq(f:Lt.Func)(hp:A7 f)(KK:Bool->Prop)(h:KK (kX f)):GX f KK:=by
 unfold GX;obtain⟨hn,hb⟩:=hp;have g:∀(i:Nat)(s:List UInt8),i<=f.Blocks.length->(Lt.frm (f.Blocks.take i) s).length<=36000000:=fun i s hi=>by
  unfold Lt.frm;refine ajJ (pA _ 6000 _ (fun b B=>ajJ (WX s b) (hb b (akZ B)).1)) ?_;rw[ajR,Nat.min_eq_left hi];exact ajJ (aj2 6000 (ajJ hi hn)) kQ1
 intro _;refine au _ f.Blocks.length (fun i v=>v.1=(i:Int)/\∀s,(aw (β:=List (List UInt8)) .s v.2 s).getD []=Lt.frm (f.Blocks.take i) s) (fun R i v hi⟨e,a⟩ih=>?_) (fun R v⟨e,a⟩=>?_) _ ⟨rfl,fun s=>rfl⟩
 ·obtain⟨u,z⟩:=v;dsimp only at e a⊢;subst e;rw[if_pos (aX hi)];refine⟨ob hi,fun _=>?_⟩;dsimp +instances only [Int.toNat_natCast]
  have hs:=fun s=>WY f.Blocks s hi
  have hb1:=(hb _ (aQ _ hi)).1
  generalize f.Blocks.getD i default=b at hs hb1;refine au _ b.End.To.length (fun k v=>v.1=(k:Int)/\∀s,(aw (β:=List (List UInt8)) .s v.2 s).getD []=Lt.frm (f.Blocks.take i) s++((b.End.To.take k).filter fun n=>decide (n=s)).map fun _=>b.Name) (fun R k v hk⟨e,a⟩ih=>?_) (fun R v⟨e,a⟩=>?_) _ ⟨rfl,fun s=>by simpa using a s⟩
  ·obtain⟨u,z⟩:=v;dsimp only at e a⊢;subst e;rw[if_pos (aX hk)];dsimp +instances only [Int.toNat_natCast]
   have c:=aB b.End.To hk
   generalize b.End.To.getD k default=t at c;have F:((aw (β:=List (List UInt8)) .s z t).getD []).length<=37000000:=by
    rw[a t,ai3,ai2];have h2:∀p:List UInt8->Bool,((b.End.To.take k).filter p).length<=6000:=fun p=>ajJ (akM _ _) (by rw[ajR];omega)
    exact ajJ (Nat.add_le_add (g i t kQ1) (h2 _)) kQ1
   refine⟨ob hk,⟨by simp only[ai1,ai6];omega,by simp only[ai1,ai6];omega⟩,rfl,ih _ ⟨ac kQ1,fun s=>?_⟩⟩;dsimp only;rw[mS,c,ak9,aj1,<- ajI];by_cases e:t=s
   ·subst e;rw[if_pos rfl,akG,a t];simp
   ·rw[if_neg e,a s];simp[e]
  ·obtain⟨u,z⟩:=v;dsimp only at e a⊢;subst e;rw[if_neg (by simp)];refine ih _ ⟨ac kQ1,fun s=>?_⟩;rw[hs s];have:=a s
   rw[ajH]at this;exact this
 ·obtain⟨u,m⟩:=v;dsimp only at e a⊢;subst e;rw[if_neg (by simp)];rw[ajH]at a;intro _;have q:∀i,i<f.Blocks.length->FQ f.Blocks i=false->KK false:=fun i hi hf=>by
   have:kX f=false:=by
    unfold kX;rw[List.all_eq_false];exact⟨i,List.mem_range.2 hi,by rw[hf];simp⟩
   rw[this]at h;exact h
  refine au _ f.Blocks.length (fun i v=>v=(i:Int)/\∀j,j<i->FQ f.Blocks j=true) (fun R i v hi⟨e,w⟩ih=>?_) (fun R v⟨e,w⟩=>?_) _ ⟨rfl,fun j hj=>by omega⟩
  ·subst e;rw[if_pos (aX hi)];refine⟨ob hi,fun J E=>?_⟩;dsimp +instances only [Int.toNat_natCast]
   have q:=q i hi
   have o:=hb _ (aQ _ hi)
   have fr:∀s,(aw (β:=List (List UInt8)) .s m s).getD (dflt (.sl .s))=Lt.frm f.Blocks s:=a
   have eP:FQ f.Blocks i=(!(decide (i=0)&&decide (0 < (f.Blocks.getD i default).Phis.length))&&(f.Blocks.getD i default).Phis.all fun x=>Ed x (Lt.frm f.Blocks (nmB f.Blocks i))):=rfl
   have D:(!(decide (i=0)&&decide (0 < (f.Blocks.getD i default).Phis.length)))=true->J false:=fun h0=>by
    rw[h0,ajT]at eP;refine E false ?_;dsimp only;rw[if_neg (by simp)];dsimp +instances only [Int.toNat_natCast]
    intro _;rw[show(aw (β:=List (List UInt8)) .s m (f.Blocks.getD i default).Name).getD (dflt (.sl .s))=Lt.frm f.Blocks (nmB f.Blocks i)from fr _];have r:(Lt.frm f.Blocks (nmB f.Blocks i)).length<=36000000:=by have:=g f.Blocks.length (nmB f.Blocks i) (ai0 _);rw[ajH]at this;exact this
    generalize f.Blocks.getD i default=b at eP o;generalize Lt.frm f.Blocks (nmB f.Blocks i)=l at eP r;refine au _ b.Phis.length (fun k v=>v=(k:Int)/\∀x∈b.Phis.take k,Ed x l=true) (fun G k v hk⟨e,hx⟩A=>?_) (fun G v⟨e,hx⟩=>?_) _ ⟨rfl,fun x hx=>by simp at hx⟩
    ·subst e;rw[if_pos (aX hk)];refine⟨ob hk,?_⟩;rw[Int.toNat_natCast];have d:=aQ b.Phis hk
     have c:=aB b.Phis hk
     generalize b.Phis.getD k default=x at d c;refine⟨⟨o.2.2 x d,by omega⟩,ifk (fun hc=>q ?_) (fun hc=>A _ ⟨ac kQ1,fun y hy=>?_⟩)⟩
     ·rw[eP,List.all_eq_false];exact⟨x,d,by simpa using hc⟩
     ·rw[c]at hy;rcases ai9.1 hy with hy|hy
      ·exact hx y hy
      ·obtain rfl:=ajD.1 hy;simpa using hc
    ·subst e;rw[if_neg (by simp)];rw[ajH]at hx;refine ih _ ⟨ac kQ1,fun j hj=>?_⟩;rcases akN j i with h'|h'
     ·exact w j h'
     ·obtain rfl:j=i:=by omega
      rw[eP];exact ajB.2 hx
   by_cases e0:i=0
   ·rw[if_pos (by rw[e0];rfl)];by_cases C:0 < (f.Blocks.getD i default).Phis.length
    ·rw[decide_eq_true kQ1];refine E true ?_;dsimp only;rw[if_pos rfl];refine q ?_;rw[eP,decide_eq_true e0,decide_eq_true C];rfl
    ·rw[decide_eq_false kQ1];exact D (by rw[decide_eq_false C];simp)
   ·rw[if_neg (by simpa using e0)];exact D (by rw[decide_eq_false e0];rfl)
  ·subst e;rw[if_neg (by simp)];have:kX f=true:=by
    unfold kX;rw[ajB];exact fun i hi=>w i (List.mem_range.1 hi)
   rw[this]at h;exact h
end Go.Am
end

section
namespace Go.Am
open Go
def CR(b:Lt.Instr)(a:Lt.Arg)(KK:(Lt.Virt×Bool)->Prop):Prop:=
 aa (α:=Bool) (fun c=>if(!decide (a.Kind=5))=true then(c true)else(if(decide (a.N < 0))=true then(c true)else(c (decide ((b.Objs.length:Int)<=a.N))))) (fun d=>if d=true then(KK ((Lt.Virt.mk ([]:List UInt8) []),false))else(((0:Int)<=a.N/\a.N.toNat<b.Objs.length)/\KK ((b.Objs.getD a.N.toNat default),true)))
def adC(c:Lt.Func)(b:Lt.Instr)(a:Lt.Arg)(KK:(List UInt8×Bool)->Prop):Prop:=
 if((rm b a).2)=true then(KK (((rm b a).1).Class,true))else(KK ((fl c a).1,(fl c a).2))
def G4(c:Lt.Func)(d:Lt.Instr)(a:Lt.Frame)(KK:Bool->Prop):Prop:=
 (a.Vars.length<=4611686018427387904->ab (α:=Int×List ((List UInt8)×Bool)) (fun f b=>if(decide (b.1 < (a.Vars.length:Int)))=true then(((0:Int)<=b.1/\b.1.toNat<a.Vars.length)/\aa (α:=Bool) (fun e=>if(!((Lt.vOf c d ((a.Vars.getD b.1.toNat default).A)).2))=true then(e true)else(e ((aw (β:=Bool) .s b.2 ((a.Vars.getD b.1.toNat default).Name)).getD (dflt .bo)))) (fun v4=>if v4=true then(KK false)else(f ((i64.wrap (b.1+1)),(bV .s b.2 ((a.Vars.getD b.1.toNat default).Name) true)))))else(KK true)) (0,[]))
def Pj(b:Lt.Program)(c:Lt.Func)(d:Lt.Instr)(a:Lt.Virt)(KK:Bool->Prop):Prop:=
 aa (α:=Bool) (fun e=>if(!((bm b a.Class).2))=true then(e true)else(e (!decide (((((bm b a.Class).1).Fields).length:Int)=(a.Vals.length:Int))))) (fun h=>if h=true then(KK false)else((a.Vals.length<=4611686018427387904->ab (α:=Int) (fun i v4=>if(decide (v4 < (a.Vals.length:Int)))=true then(((0:Int)<=v4/\v4.toNat<a.Vals.length)/\aa (α:=Bool) (fun f=>if(!((Lt.vOf c d (a.Vals.getD v4.toNat default)).2))=true then(f true)else(((0:Int)<=v4/\v4.toNat < (((bm b a.Class).1).Fields).length)/\f (!(eE ((Lt.vOf c d (a.Vals.getD v4.toNat default)).1) (((((bm b a.Class).1).Fields).getD v4.toNat default).Type_))))) (fun g=>if g=true then(KK false)else(i (i64.wrap (v4+1)))))else(KK true)) 0)))
def G5(c:Lt.Program)(b:Lt.Func)(a:Lt.Instr)(KK:Bool->Prop):Prop:=
 (a.Frames.length<=4611686018427387904->ab (α:=Int) (fun e d=>if(decide (d < (a.Frames.length:Int)))=true then(((0:Int)<=d/\d.toNat<a.Frames.length)/\if(!(BF b a (a.Frames.getD d.toNat default)))=true then(KK false)else(e (i64.wrap (d+1))))else((a.Objs.length<=4611686018427387904->ab (α:=Int) (fun f v4=>if(decide (v4 < (a.Objs.length:Int)))=true then(((0:Int)<=v4/\v4.toNat<a.Objs.length)/\if(!(LD c b a (a.Objs.getD v4.toNat default)))=true then(KK false)else(f (i64.wrap (v4+1))))else((a.Frames.length<=4611686018427387904->KK (decide (0 < (a.Frames.length:Int)))))) 0))) 0)
def CQ(b:Lt.Program)(a:Lt.Func)(KK:Bool->Prop):Prop:=
 (a.Blocks.length<=4611686018427387904->ab (α:=Int) (fun h e=>have c:=a.Blocks.getD e.toNat default;if(decide (e < (a.Blocks.length:Int)))=true then(((0:Int)<=e/\e.toNat<a.Blocks.length)/\((c.Code).length<=4611686018427387904->ab (α:=Int) (fun i v4=>have d:=(c.Code).getD v4.toNat default;if(decide (v4 < ((c.Code).length:Int)))=true then(((0:Int)<=v4/\v4.toNat < (c.Code).length)/\aa (α:=Bool) (fun f=>(ad4 b a d)/\if(!(tg b a d))=true then(f true)else(if(decide (d.Op=31))=true then(f (!(BH b a d)))else(if(decide (d.Op=34))=true then(f (!(BH b a d)))else(f false)))) (fun g=>if g=true then(KK false)else(i (i64.wrap (v4+1)))))else(if(!(KY a (Lt.Term.mk ((c.End).Kind) ((c.End).A) ((c.End).To) ((c.End).N))))=true then(KK false)else(h (i64.wrap (e+1))))) 0))else(KK true)) 0)
def Pi(g:Lt.Program)(a:Lt.Func)(KK:Bool->Prop):Prop:=
 (a.Blocks.length<=4611686018427387904->ab (α:=Int) (fun i d=>have e:=(a.Blocks.getD d.toNat default).Phis;if(decide (d < (a.Blocks.length:Int)))=true then(((0:Int)<=d/\d.toNat<a.Blocks.length)/\(e.length<=4611686018427387904->ab (α:=Int) (fun k v4=>have b:=e.getD v4.toNat default;if(decide (v4 < (e.length:Int)))=true then(((0:Int)<=v4/\v4.toNat<e.length)/\if(!((fl a (Lt.Arg.mk 1 (b.Dst) 0)).2))=true then(KK false)else(((b.Ins).length<=4611686018427387904->ab (α:=Int) (fun j c=>if(decide (c < ((b.Ins).length:Int)))=true then(((0:Int)<=c/\c.toNat < (b.Ins).length)/\aa (α:=Bool) (fun f=>if(!((fl a (((b.Ins).getD c.toNat default).A)).2))=true then(f true)else(f (!(eE ((fl a (((b.Ins).getD c.toNat default).A)).1) ((fl a (Lt.Arg.mk 1 (b.Dst) 0)).1))))) (fun h=>if h=true then(KK false)else(j (i64.wrap (c+1)))))else(k (i64.wrap (v4+1)))) 0)))else(i (i64.wrap (d+1)))) 0))else(KK true)) 0)
def Ph(k:Lt.Program)(a:Lt.Func)(KK:Bool->Prop):Prop:=
 (a.Blocks.length<=4611686018427387904->ab (α:=Int×List ((List UInt8)×Int)) (fun n f=>have e:=a.Blocks.getD f.1.toNat default;if(decide (f.1 < (a.Blocks.length:Int)))=true then(((0:Int)<=f.1/\f.1.toNat<a.Blocks.length)/\((e.Phis).length<=4611686018427387904->ab (α:=Int×List ((List UInt8)×Int)) (fun p v4=>if(decide (v4.1 < ((e.Phis).length:Int)))=true then(((0:Int)<=v4.1/\v4.1.toNat < (e.Phis).length)/\p ((i64.wrap (v4.1+1)),(bV .s v4.2 (((e.Phis).getD v4.1.toNat default).Dst) (i64.wrap (((aw (β:=Int) .s v4.2 (((e.Phis).getD v4.1.toNat default).Dst)).getD (dflt (.i .i64)))+1)))))else(((e.Code).length<=4611686018427387904->ab (α:=Int×List ((List UInt8)×Int)) (fun o d=>have g:=(e.Code).getD d.1.toNat default;if(decide (d.1 < ((e.Code).length:Int)))=true then(aa (α:=List ((List UInt8)×Int)) (fun j=>((0:Int)<=d.1/\d.1.toNat < (e.Code).length)/\if(!decide (g.Dst=([]:List UInt8)))=true then(j (bV .s d.2 (g.Dst) (i64.wrap (((aw (β:=Int) .s d.2 (g.Dst)).getD (dflt (.i .i64)))+1))))else(j d.2)) (fun m=>o ((i64.wrap (d.1+1)),m)))else(n ((i64.wrap (f.1+1)),d.2))) (0,v4.2)))) (0,f.2)))else((a.Vars.length<=4611686018427387904->ab (α:=Int) (fun l c=>if(decide (c < (a.Vars.length:Int)))=true then(((0:Int)<=c/\c.toNat<a.Vars.length)/\if(!decide (((aw (β:=Int) .s f.2 ((a.Vars.getD c.toNat default).Name)).getD (dflt (.i .i64)))=1))=true then(KK false)else(l (i64.wrap (c+1))))else((a.Params.length<=4611686018427387904->ab (α:=Int) (fun h b=>if(decide (b < (a.Params.length:Int)))=true then(((0:Int)<=b/\b.toNat<a.Params.length)/\if(!decide (((aw (β:=Int) .s f.2 ((a.Params.getD b.toNat default).Name)).getD (dflt (.i .i64)))=0))=true then(KK false)else(h (i64.wrap (b+1))))else(KK true)) 0))) 0))) (0,[]))
def yY(a:Lt.Program)(KK:Int->Prop):Prop:=
 have d:=(([(Lt.Clo.mk 68 []),(Lt.Clo.mk 69 []),(Lt.Clo.mk 70 []),(Lt.Clo.mk 71 [])].length:Nat):Int);if(!(bH a))=true then(KK 3)else(if(!a.SSA)=true then(KK 3)else((kN a)/\if(!(ou a))=true then(KK 4)else((a.Funcs.length<=4611686018427387904->ab (α:=Int) (fun e c=>have b:=a.Funcs.getD c.toNat default;if(decide (c < (a.Funcs.length:Int)))=true then(((0:Int)<=c/\c.toNat<a.Funcs.length)/\(Yg b)/\if(!(ji b))=true then(KK 5)else((A7 b)/\if(!(kX b))=true then(KK 5)else(([(Lt.Clo.mk 68 []),(Lt.Clo.mk 69 []),(Lt.Clo.mk 70 []),(Lt.Clo.mk 71 [])].length<=4611686018427387904->((0:Int)<=0/\0<d)/\(kQ a b)/\if(!(oF a b))=true then(KK 4)else(((0:Int)<=1/\1<d)/\if(!(Ej a b))=true then(KK 4)else(((0:Int)<=2/\2<d)/\(pU a b)/\if(!(nh a b))=true then(KK 4)else(((0:Int)<=3/\3<d)/\(Yc b)/\if(!(lm b))=true then(KK 4)else(e (i64.wrap (c+1))))))))))else(KK 0)) 0))))
theorem Kb(i:Lt.Instr)(a:Lt.Arg)(KK:Lt.Virt×Bool->Prop)(h:KK (rm i a)):CR i a KK:=by
 unfold CR;simp only[jval,bor,ax];unfold rm at h;refine ifk (fun hc=>?_) (fun hc=>?_)
 ·rw[if_neg (by simp only[aj6,ajQ,decide_eq_false_iff_not,decide_eq_true_eq]at hc;omega)]at h;exact h
 ·simp only[aj6,ajQ,decide_eq_false_iff_not,decide_eq_true_eq]at hc;rw[if_pos kQ1]at h;exact⟨⟨by omega,by omega⟩,h⟩
theorem abC(f:Lt.Func)(i:Lt.Instr)(a:Lt.Arg)(KK:List UInt8×Bool->Prop)(h:KK (Lt.vOf f i a)):adC f i a KK:=by
 unfold adC;unfold Lt.vOf at h;exact ifk (fun hc=>by rw[if_pos hc]at h;exact h) (fun hc=>by rw[if_neg hc]at h;exact h)
theorem Nx(f:Lt.Func)(i:Lt.Instr)(x:Lt.Frame)(KK:Bool->Prop)(h:KK (BF f i x)):G4 f i x KK:=by
 unfold G4;unfold BF at h;intro _;refine e9 x.Vars (fun m i=>(i,m)) (fun r m=>∃K,Ri m K/\KK (P9 f i r K)) (fun R m k b r hk hx _ ih⟨K,a,h⟩=>?_) (fun R m⟨K,a,h⟩=>?_) [] ⟨[],fun _=>rfl,h⟩
 ·dsimp only;rw[if_pos (aX hk)];refine⟨ob hk,?_⟩;dsimp +instances only [Int.toNat_natCast]
  rw[hx,show(aw (β:=Bool) .s m b.Name).getD (dflt .bo)=decide (b.Name∈K)from a _];simp only[jval,bor,ax];unfold P9 at h;exact ifk (fun hc=>by rw[if_pos hc]at h;exact h) (fun hc=>by rw[if_neg hc]at h;exact ih (by assumption) _ ⟨_,a.ins _,h⟩)
 ·dsimp only;rw[if_neg (by simp)];exact h
theorem Tp(p:Lt.Program)(f:Lt.Func)(i:Lt.Instr)(o:Lt.Virt)(KK:Bool->Prop)(h:KK (LD p f i o)):Pj p f i o KK:=by
 unfold Pj;simp only[jval,bor,ax];unfold LD at h;refine ifk (fun hc=>?_) (fun hc _=>?_)
 ·rcases(aj6 _ _).mp hc with hc|hc
  ·rw[show(bm p o.Class).2=false from by simpa using hc,akR]at h;exact h
  ·rw[show decide (((bm p o.Class).1.Fields.length:Int)=(o.Vals.length:Int))=false from by simpa using hc,akR,Bool.and_false]at h;exact h
 ·simp only[aj6,ajQ,not_or,ajU]at hc;rw[hc.1,hc.2,ajT,ajT]at h;have hl:=of_decide_eq_true hc.2
  generalize(bm p o.Class).1.Fields=fs at h hl;refine au _ o.Vals.length (fun k v=>v=(k:Int)/\KK (LC f i (o.Vals.drop k) (fs.drop k))) (fun R k v hk⟨e,h⟩ih=>?_) (fun R v⟨e,h⟩=>?_) _ ⟨rfl,h⟩
  ·subst e;rw[if_pos (aX hk)];have b:k<fs.length:=by omega
   refine⟨ob hk,?_⟩;dsimp +instances only [Int.toNat_natCast]
   rw[fN _ hk,fN _ b]at h;unfold LC at h;generalize o.Vals.getD k default=a at h;generalize fs.getD k default=v at h;intro J c;refine ifk (fun hc=>c true ?_) (fun hc=>⟨ob b,c _ ?_⟩)
   ·rw[show(Lt.vOf f i a).2=false from by simpa using hc,akR]at h;exact h
   ·rw[show(Lt.vOf f i a).2=true from by simpa using hc,ajT]at h;refine ifk (fun hc=>?_) (fun hc=>ih _ ⟨ac kQ1,?_⟩)
    ·rw[show eE (Lt.vOf f i a).1 v.Type_=false from by simpa using hc,akR]at h;exact h
    ·rw[show eE (Lt.vOf f i a).1 v.Type_=true from by simpa using hc,ajT]at h;exact h
  ·subst e;rw[if_neg (by simp)];rw[akA]at h;unfold LC at h;exact h
theorem Ny(p:Lt.Program)(f:Lt.Func)(i:Lt.Instr)(KK:Bool->Prop)(h:KK (BH p f i)):G5 p f i KK:=by
 unfold G5;unfold BH at h;intro _;refine dh i.Frames (BF f i) _ KK (fun R k x hk hx _ ih hf=>?_) (fun R h=>?_) h
 ·rw[if_pos (aX hk)];refine⟨ob hk,?_⟩;rw[Int.toNat_natCast,hx];exact ifk (fun hc=>hf (by simpa using hc)) (fun hc=>ih (by assumption) (by simpa using hc))
 ·rw[if_neg (by simp)];intro _;refine dh i.Objs (LD p f i) _ KK (fun R k x hk hx _ ih hf=>?_) (fun R h=>?_) h
  ·rw[if_pos (aX hk)];refine⟨ob hk,?_⟩;rw[Int.toNat_natCast,hx];exact ifk (fun hc=>hf (by simpa using hc)) (fun hc=>ih (by assumption) (by simpa using hc))
  ·rw[if_neg (by simp)];exact fun _=>h
def on2(A B:Prop)(c:Bool):Prop:=(c=true->A)/\(c=false->B)
theorem Ka(p:Lt.Program)(f:Lt.Func)(hp:kQ p f)(KK:Bool->Prop)(h:KK (oF p f)):CQ p f KK:=by
 unfold CQ;intro _;refine dh f.Blocks (BG p f) true KK (fun R k b hk hx hb ih hf=>?_) (fun R h=>?_) (by rw[akK];exact h)
 ·rw[if_pos (aX hk)];refine⟨ob hk,?_⟩;dsimp +instances only [Int.toNat_natCast]
  rw[hx];intro _;refine dh b.Code (qd p f) (KY f b.End) (on2 (R (i64.wrap ((k:Int)+1))) (KK false)) (fun l j x hj hy i a d=>?_) (fun l h3=>?_) ⟨ih (by assumption),hf⟩
  ·rw[if_pos (aX hj)];refine⟨ob hj,?_⟩;dsimp +instances only [Int.toNat_natCast]
   rw[hy];intro J g;refine⟨hp b hb x i,?_⟩;have fin:∀c:Bool,c=!qd p f x->J c:=fun c e=>by
    subst e;refine g _ ?_;cases hv:qd p f x with
    |false=>exact(d hv).2 rfl
    |true=>exact a (by assumption) hv
   unfold qd at fin;refine ifk (fun hc=>fin _ (by rw[show tg p f x=false from by simpa using hc];rfl)) (fun hc=>?_);rw[show tg p f x=true from by simpa using hc]at fin;refine ifk (fun hc=>fin _ (by rw[hc];rfl)) (fun hc=>?_);rw[show decide (x.Op=31)=false from by simpa using hc]at fin;exact ifk (fun hc=>fin _ (by rw[hc];rfl)) (fun hc=>fin _ (by rw[show decide (x.Op=34)=false from by simpa using hc];rfl))
  ·rw[if_neg (by simp)];exact ifk (fun hc=>h3.2 (by simpa using hc)) (fun hc=>h3.1 (by simpa using hc))
 ·rw[if_neg (by simp)];exact h
theorem Tn(p:Lt.Program)(f:Lt.Func)(KK:Bool->Prop)(h:KK (Ej p f)):Pi p f KK:=by
 unfold Pi;intro _;refine dh f.Blocks (fun b=>b.Phis.all (acX f)) true KK (fun R k b hk hx hb ih hf=>?_) (fun R h=>?_) (by rw[akK];exact h)
 ·rw[if_pos (aX hk)];refine⟨ob hk,?_⟩;dsimp +instances only [Int.toNat_natCast]
  rw[hx];intro _;refine dh b.Phis (acX f) true (on2 (R (i64.wrap ((k:Int)+1))) (KK false)) (fun l j x hj hy o c a=>?_) (fun l h3=>?_) (by rw[akK];exact⟨ih (by assumption),hf⟩)
  ·rw[if_pos (aX hj)];refine⟨ob hj,?_⟩;dsimp +instances only [Int.toNat_natCast]
   rw[hy];unfold acX at c a;generalize fl f ⟨1,x.Dst,0⟩=w at c a;refine ifk (fun hc=>(a (by rw[show w.2=false from by simpa using hc];rfl)).2 rfl) (fun hc _=>?_);rw[show w.2=true from by simpa using hc]at c a;refine dh x.Ins (fun i=>(fl f i.A).2&&eE (fl f i.A).1 w.1) true (on2 (l (i64.wrap ((j:Int)+1))) (KK false)) (fun m n y hn hz _ g d=>?_) (fun m h5=>?_) (by rw[akK];exact⟨fun e=>c (by assumption) (by rw[e];rfl),fun e=>(a (by rw[e];rfl)).2 rfl⟩)
   ·rw[if_pos (aX hn)];refine⟨ob hn,?_⟩;dsimp +instances only [Int.toNat_natCast]
    rw[hz];simp only[jval,bor,ax];refine ifk (fun hc=>(d ?_).2 rfl) (fun hc=>g (by assumption) ?_)
    ·cases h1:(fl f y.A).2<;>simp_all
    ·cases h1:(fl f y.A).2<;>simp_all
   ·rw[if_neg (by simp)];exact h5.1 rfl
  ·rw[if_neg (by simp)];exact h3.1 rfl
 ·rw[if_neg (by simp)];exact h
def QV(m:List (List UInt8×Int))(L:List (List UInt8)):Prop:=∀k,(aw (β:=Int) .s m k).getD 0=(L.count k:Int)
theorem QV.ins{m:List (List UInt8×Int)}{L:List (List UInt8)}(h:QV m L)(hl:L.length<=4000000000000000)(k0:List UInt8):QV (bV .s m k0 (i64.wrap ((aw (β:=Int) .s m k0).getD (dflt (.i .i64))+1))) (L++[k0]):=by
 intro k;rw[mS,show(aw (β:=Int) .s m k0).getD (dflt (.i .i64))=(L.count k0:Int)from h k0,akD,List.count_singleton];have:=alD (a:=k0) (l:=L)
 by_cases e:k0=k
 ·subst e;rw[if_pos rfl,ac kQ1];simp
 ·rw[if_neg e,h k];simp[e]
theorem EH(B:List Lt.Block){i:Nat}(h:i<B.length):bT (B.take (i+1))=bT (B.take i)++((B.getD i default).Phis.map (·.Dst)++bj (B.getD i default)):=by
 unfold bT;rw[aB B h,List.flatMap_append,List.flatMap_singleton]
theorem Tm(p:Lt.Program)(f:Lt.Func)(hp:pU p f)(KK:Bool->Prop)(h:KK (nh p f)):Ph p f KK:=by
 unfold Ph;obtain⟨hn,hb⟩:=hp;have l:∀i,(bT (f.Blocks.take i)).length<=2000000000000:=fun i=>by
  unfold bT;refine ajJ (pA _ 2000000 _ fun b a=>?_) (ajJ (aj2 2000000 (ajJ (alE _ _) hn)) (by decide));have:=hb b (akZ a)
  unfold bj;rw[ai3,ai2];have h2:=akM (fun d=>!decide (d=([]:List UInt8))) (b.Code.map (·.Dst))
  rw[ai2]at h2;omega
 intro _;refine au _ f.Blocks.length (fun i v=>v.1=(i:Int)/\QV v.2 (bT (f.Blocks.take i))) (fun R i v hi⟨e,a⟩ih=>?_) (fun R v⟨e,a⟩=>?_) _ ⟨rfl,fun _=>rfl⟩
 ·obtain⟨g,o⟩:=v;dsimp only at e a⊢;subst e;rw[if_pos (aX hi)];refine⟨ob hi,?_⟩;dsimp +instances only [Int.toNat_natCast]
  have hs:=EH f.Blocks hi
  have hl:=l i
  have q:=hb _ (aQ _ hi)
  generalize bT (f.Blocks.take i)=L at a hs hl;generalize f.Blocks.getD i default=b at hs q;intro _;refine au _ b.Phis.length (fun j v=>v.1=(j:Int)/\QV v.2 (L++(b.Phis.take j).map (·.Dst))) (fun y j v hj⟨e,a⟩r=>?_) (fun y v⟨e,a⟩=>?_) _ ⟨rfl,by simpa using a⟩
  ·obtain⟨g,o⟩:=v;dsimp only at e a⊢;subst e;rw[if_pos (aX hj)];refine⟨ob hj,r _ ⟨ac kQ1,?_⟩⟩;dsimp +instances only [Int.toNat_natCast]
   rw[aB _ hj,aj1,<- ajI];exact a.ins (by rw[ai3,ai2,ajR];omega) _
  ·obtain⟨g,o⟩:=v;dsimp only at e a⊢;subst e;rw[if_neg (by simp)];rw[ajH]at a;intro _;refine au _ b.Code.length (fun j v=>v.1=(j:Int)/\QV v.2 (L++b.Phis.map (·.Dst)++((b.Code.take j).map (·.Dst)).filter fun d=>!decide (d=[]))) (fun w j v hj⟨e,a⟩n=>?_) (fun w v⟨e,a⟩=>?_) _ ⟨rfl,by simpa using a⟩
   ·obtain⟨g,o⟩:=v;dsimp only at e a⊢;subst e;rw[if_pos (aX hj)];intro J t;refine⟨ob hj,?_⟩;dsimp +instances only [Int.toNat_natCast]
    have c:=aB b.Code hj
    have u:(((b.Code.take j).map (·.Dst)).filter fun d=>!decide (d=([]:List UInt8))).length<=1000000:=by
     have h2:=akM (fun d=>!decide (d=([]:List UInt8))) ((b.Code.take j).map (·.Dst))
     rw[ai2,ajR]at h2;omega
    generalize b.Code.getD j default=x at c;refine ifk (fun hc=>t _ (n _ ⟨ac kQ1,?_⟩)) (fun hc=>t _ (n _ ⟨ac kQ1,?_⟩))
    ·dsimp only;rw[c,aj1,ak9,List.map_singleton,List.filter_cons,if_pos hc,List.filter_nil,<- ajI];exact a.ins (by simp only[ai3,ai2];omega) _
    ·dsimp only;rw[c,aj1,ak9,List.map_singleton,List.filter_cons,if_neg hc,List.filter_nil,alB];exact a
   ·obtain⟨g,o⟩:=v;dsimp only at e a⊢;subst e;rw[if_neg (by simp)];rw[ajH]at a;refine ih _ ⟨ac kQ1,?_⟩;dsimp only;rw[hs,<- ajI];exact a
 ·obtain⟨g,m⟩:=v;dsimp only at e a⊢;subst e;rw[if_neg (by simp)];rw[ajH]at a;have a:∀k,(aw (β:=Int) .s m k).getD (dflt (.i .i64))=((bT f.Blocks).count k:Int):=a
  unfold nh at h;intro _;refine dh f.Vars _ _ KK (fun R k x hk hx _ ih hf=>?_) (fun R h=>?_) h
  ·rw[if_pos (aX hk)];refine⟨ob hk,?_⟩;rw[Int.toNat_natCast,hx,a];exact ifk (fun hc=>hf (by simpa using hc)) (fun hc=>ih (by assumption) (by simpa using hc))
  ·rw[if_neg (by simp)];intro _;refine dh f.Params _ _ KK (fun R k x hk hx _ ih hf=>?_) (fun R h=>?_) h
   ·rw[if_pos (aX hk)];refine⟨ob hk,?_⟩;rw[Int.toNat_natCast,hx,a];exact ifk (fun hc=>hf (by simpa using hc)) (fun hc=>ih (by assumption) (by simpa using hc))
   ·rw[if_neg (by simp)];exact h
theorem Fv(p:Lt.Program)(hp:bN p)(KK:Int->Prop)(h:KK (dq p)):yY p KK:=by
 unfold yY;unfold dq at h;obtain⟨j,hf⟩:=hp;dsimp only;refine ifk (fun hc=>by rw[if_pos (.inl (by simpa using hc))]at h;exact h) (fun hc=>?_);refine ifk (fun a=>by rw[if_pos (.inr (by simpa using a))]at h;exact h) (fun a=>?_);rw[if_neg (by simp only[ajQ,ajU]at hc a;rw[hc,a];simp)]at h;refine⟨j,ifk (fun b=>by rw[if_pos (by simpa using b)]at h;exact h) (fun b _=>?_)⟩;rw[if_neg (by simpa using b)]at h;refine cK p.Funcs (fun l=>KK (Lt.vF p l)) (fun R i x r hi hx m ih h=>?_) (fun R h=>?_) h
 ·rw[if_pos (aX hi)];refine⟨ob hi,?_⟩;dsimp +instances only [Int.toNat_natCast]
  rw[hx];obtain⟨h1,h2,h3,h4,h5,h6,h7⟩:=hf x m;unfold Lt.vF at h;refine⟨h4,ifk (fun c=>by rw[if_pos (.inl (by simpa using c))]at h;exact h) (fun c=>?_)⟩;have c:ji x=true:=by simpa using c
  refine⟨h2,ifk (fun c2=>by rw[if_pos (.inr (by simpa using c2))]at h;exact h) (fun c2 _=>?_)⟩;have c2:kX x=true:=by simpa using c2
  rw[if_neg (by rw[c,c2];simp)]at h;have k:Lt.Gd x.Blocks:=by unfold ji at c;exact yx.1 c
  refine⟨⟨by simp,by simp only[ai1,ai6];omega⟩,h1,ifk (fun f=>by rw[if_pos (.inl (by simpa using f))]at h;exact h) (fun f=>?_)⟩;have f:oF p x=true:=by simpa using f
  refine⟨⟨by simp,by simp only[ai1,ai6];omega⟩,ifk (fun d=>by rw[if_pos (.inr (.inl (by simpa using d)))]at h;exact h) (fun d=>?_)⟩;have d:Ej p x=true:=by simpa using d
  refine⟨⟨by simp,by simp only[ai1,ai6];omega⟩,h3,ifk (fun g=>by rw[if_pos (.inr (.inr (.inl (by simpa using g))))]at h;exact h) (fun g=>?_)⟩;have g:nh p x=true:=by simpa using g
  refine⟨⟨by simp,by simp only[ai1,ai6];omega⟩,⟨⟨h4,k,h5,h6⟩,h7⟩,ifk (fun e=>by rw[if_pos (.inr (.inr (.inr (by simpa using e))))]at h;exact h) (fun e=>?_)⟩;have e:lm x=true:=by simpa using e
  rw[if_neg (by rw[f,d,g,e];simp)]at h;exact ih (by assumption) h
 ·rw[if_neg (by simp)];exact h
def GW(a:List (List UInt8))(b:List UInt8)(KK:(List (List UInt8))->Prop):Prop:=
 ab (α:=List (List UInt8)×Int) (fun j c=>have f:=([(a.getD c.2.toNat default)]:List (List UInt8));(a.length<=4611686018427387904->if(decide (c.2 < (a.length:Int)))=true then(aa (α:=List (List UInt8)) (fun h=>((0:Int)<=c.2/\c.2.toNat<a.length)/\if(Op.bytesLess (a.getD c.2.toNat default) b)=true then(((0:Int)<=c.2/\c.2.toNat<a.length)/\(c.1.length+f.length<=4611686018427387904/\(c.1.length+f.length)*16<=140737488355328)/\h (c.1++f))else(h c.1)) (fun v4=>j (v4,(i64.wrap (c.2+1)))))else((c.1.length+([b]:List (List UInt8)).length<=4611686018427387904/\(c.1.length+([b]:List (List UInt8)).length)*16<=140737488355328)/\ab (α:=List (List UInt8)×Int) (fun k d=>have e:=a.getD d.2.toNat default;(a.length<=4611686018427387904->if(decide (d.2 < (a.length:Int)))=true then(aa (α:=List (List UInt8)) (fun g=>((0:Int)<=d.2/\d.2.toNat<a.length)/\if(!(Op.bytesLess e b||decide (e=b)))=true then(((0:Int)<=d.2/\d.2.toNat<a.length)/\(d.1.length+([e]:List (List UInt8)).length<=4611686018427387904/\(d.1.length+([e]:List (List UInt8)).length)*16<=140737488355328)/\g (d.1++([e]:List (List UInt8))))else(g d.1)) (fun i=>k (i,(i64.wrap (d.2+1)))))else(KK d.1))) ((c.1++([b]:List (List UInt8))),0)))) ([],0)
def GV(a:List (List UInt8))(b:Lt.Arg)(KK:(List (List UInt8))->Prop):Prop:=
 if(decide (b.Kind=1))=true then((N7 a b.S)/\(∀c:List (List UInt8),FR a b.S c->KK c))else(KK a)
def CE(a:Lt.Instr)(KK:(List (List UInt8))->Prop):Prop:=
 ab (α:=List (List UInt8)×Int) (fun o d=>(a.Args.length<=4611686018427387904->if(decide (d.2 < (a.Args.length:Int)))=true then(((0:Int)<=d.2/\d.2.toNat<a.Args.length)/\(yB d.1 (a.Args.getD d.2.toNat default))/\(∀j:List (List UInt8),q9 d.1 (a.Args.getD d.2.toNat default) j->o (j,(i64.wrap (d.2+1)))))else(ab (α:=List (List UInt8)×Int) (fun n v5=>have h:=(a.Frames.getD v5.2.toNat default).Vars;(a.Frames.length<=4611686018427387904->if(decide (v5.2 < (a.Frames.length:Int)))=true then(ab (α:=List (List UInt8)×Int) (fun l e=>((0:Int)<=v5.2/\v5.2.toNat<a.Frames.length)/\(h.length<=4611686018427387904->if(decide (e.2 < (h.length:Int)))=true then(((0:Int)<=v5.2/\v5.2.toNat<a.Frames.length)/\((0:Int)<=e.2/\e.2.toNat<h.length)/\(yB e.1 ((h.getD e.2.toNat default).A))/\(∀k:List (List UInt8),q9 e.1 ((h.getD e.2.toNat default).A) k->l (k,(i64.wrap (e.2+1)))))else(n (e.1,(i64.wrap (v5.2+1)))))) (v5.1,0))else(ab (α:=List (List UInt8)×Int) (fun m c=>have f:=(a.Objs.getD c.2.toNat default).Vals;(a.Objs.length<=4611686018427387904->if(decide (c.2 < (a.Objs.length:Int)))=true then(ab (α:=List (List UInt8)×Int) (fun i b=>((0:Int)<=c.2/\c.2.toNat<a.Objs.length)/\(f.length<=4611686018427387904->if(decide (b.2 < (f.length:Int)))=true then(((0:Int)<=c.2/\c.2.toNat<a.Objs.length)/\((0:Int)<=b.2/\b.2.toNat<f.length)/\(yB b.1 (f.getD b.2.toNat default))/\(∀g:List (List UInt8),q9 b.1 (f.getD b.2.toNat default) g->i (g,(i64.wrap (b.2+1)))))else(m (b.1,(i64.wrap (c.2+1)))))) (c.1,0))else(KK c.1))) (v5.1,0)))) (d.1,0)))) ([],0)
end Go.Am
end

section
namespace Go.Am
open Go
open Lt (nmB toB Gd Rc)
def af7(f:Lt.Func)(l:List Bool):Prop:=l.length=f.Blocks.length/\∀k,l.getD k false=true->Rc f.Blocks k
theorem af7.set{f:Lt.Func}{l:List Bool}(h:af7 f l){k:Nat}(hk:k<f.Blocks.length)(hr:Rc f.Blocks k):af7 f (l.set k true):=by
 refine⟨by rw[akT];exact h.1,fun j hj=>?_⟩;rw[fO (by rw[h.1];exact hk)]at hj;have:=h.2 j
 grind
end Go.Am
end

section
namespace Go.Am
open Go
open Lt (nmB toB Gd Rc bkB phB bj Bare)
theorem Jg(s:List UInt8):∀l:List (List UInt8),(l.filter fun x=>Op.bytesLess x s).length+(l.filter fun x=>!(Op.bytesLess x s||decide (x=s))).length<=l.length
 |[]=>ai0 _
 |x::l=>by
  have:=Jg s l
  grind
theorem Np(l:List (List UInt8))(s:List UInt8)(hp:N7 l s)(KK:List (List UInt8)->Prop)(h:∀y,FR l s y->KK y):GW l s KK:=by
 unfold GW;have hp:l.length<=1000000:=hp
 have hf:=Jg s l
 have a:∀(p:List UInt8->Bool)i,((l.take i).filter p).length<=l.length:=fun p i=>ajJ (akM _ _) (alE _ _)
 refine au _ l.length (fun i v=>v=((l.take i).filter (fun x=>Op.bytesLess x s),(i:Int))) (fun R i v hi e ih=>?_) (fun R v e=>?_) _ rfl
 ·subst e;have c:=a (fun x=>Op.bytesLess x s) i
  dsimp only;intro _;rw[if_pos (aX hi)];refine fun J b=>⟨ob hi,?_⟩
  dsimp +instances only [Int.toNat_natCast]at b⊢
  grind [ac,aB]
 ·subst e;rw[ajH];have c:=a (fun x=>Op.bytesLess x s) l.length
  rw[ajH]at c;dsimp only;intro _;rw[if_neg (by simp)];refine⟨⟨by grind,by grind⟩,?_⟩;refine au _ l.length (fun i v=>v=(l.filter (fun x=>Op.bytesLess x s)++[s]++(l.take i).filter (fun x=>!(Op.bytesLess x s||decide (x=s))),(i:Int))) (fun R i v hi e ih=>?_) (fun R v e=>?_) _ (by simp)
  ·subst e;have d:=a (fun x=>!(Op.bytesLess x s||decide (x=s))) i
   dsimp only;intro _;rw[if_pos (aX hi)];refine fun J b=>⟨ob hi,?_⟩
   dsimp +instances only [Int.toNat_natCast]at b⊢
   have j:=b (l.filter (fun x=>Op.bytesLess x s)++[s]++(l.take (i+1)).filter (fun x=>!(Op.bytesLess x s||decide (x=s)))) (ih _ (by grind [ac]))
   rw[aB l hi,ak9]at j
   grind
  ·subst e;dsimp only;intro _;rw[if_neg (by simp),ajH];refine h _ ⟨by grind,fun v=>?_⟩
   grind
theorem No(l:List (List UInt8))(a:Lt.Arg)(hp:yB l a)(KK:List (List UInt8)->Prop)(h:∀y,q9 l a y->KK y):GV l a KK:=by
 unfold GV;refine ifk (fun hc=>⟨hp,fun y⟨h1,h2⟩=>h y ⟨h1,fun v=>?_⟩⟩) (fun hc=>h l ⟨by omega,fun v=>?_⟩)
 all_goals grind
def Ei(x:Lt.Instr):List Lt.Arg:=x.Args++(x.Frames.flatMap (fun f=>f.Vars.map (·.A))++x.Objs.flatMap (·.Vals))
theorem Uv(x:Lt.Instr):(Ei x).length=xS x:=by
 grind [Ei,xS,List.length_flatMap]
theorem Uu(x:Lt.Instr)(v:List UInt8):lk x v ↔ ∃a∈Ei x,a.Kind=1/\a.S=v:=by
 unfold Ei lk;simp only[ai9,akB,ajK]
 grind
def QU(KK:List (List UInt8)->Prop)(out:List (List UInt8))(r:List Lt.Arg):Prop:=out.length+r.length<=1000000/\∀y,(∀v,v∈y ↔ v∈out\/∃a∈r,a.Kind=1/\a.S=v)->KK y
variable{KK:List (List UInt8)->Prop}
theorem QU.step{out y:List (List UInt8)}{a:Lt.Arg}{r:List Lt.Arg}(h:QU KK out (a::r))(hy:q9 out a y):QU KK y r:=by
 obtain⟨h1,h2⟩:=h;obtain⟨h3,h4⟩:=hy;refine⟨by grind,fun z hz=>h2 z fun v=>?_⟩
 grind
theorem zq{α:Type}[Inhabited α]{body:(List (List UInt8)×Int->Prop)->List (List UInt8)×Int->Prop}{rest:List Lt.Arg}(l:List α)(ar:α->Lt.Arg)
  (hs:∀R(i:Nat)out x,i<l.length->l.getD i default=x->out.length<=1000000->(l.length<=4611686018427387904->∀y,q9 out (ar x) y->R (y,i64.wrap ((i:Int)+1)))->body R (out,(i:Int)))
  (he:∀R out,QU KK out rest->body R (out,(l.length:Int))) (out:List (List UInt8)) (h:QU KK out (l.map ar++rest)):ab body (out,0):=
 e9 l (fun q i=>(q,i)) (fun r out=>QU KK out (r.map ar++rest)) (fun R out i x r hi hx _ ih h=>hs R i out x hi hx (by have:=h.1;omega) fun hl y hy=>ih hl y (h.step hy)) (fun R out h=>he R out h) out h
theorem JR(x:Lt.Instr)(hp:fV x)(KK:List (List UInt8)->Prop)(h:∀y,uM x y->KK y):CE x KK:=by
 unfold CE;have hp:xS x<=1000000:=hp
 have hq:QU KK [] (Ei x):=⟨by grind [Uv],fun y hy=>h y fun v=>by grind [Uu]⟩
 refine zq x.Args id (fun R i out a hi hx ho ih=>?_) (fun R out hq=>?_) [] (rest:=x.Frames.flatMap (fun f=>f.Vars.map (·.A))++x.Objs.flatMap (·.Vals)) (by simpa[Ei]using hq)
 ·dsimp only;intro hl;rw[if_pos (aX hi)];refine⟨ob hi,ho,fun y hy=>?_⟩
  grind
 dsimp only;intro _;rw[if_neg (by simp)];refine e9 x.Frames (fun q i=>(q,i)) (fun r out=>QU KK out (r.flatMap (fun f=>f.Vars.map (·.A))++x.Objs.flatMap (·.Vals))) (fun R out i f r hi hx _ ih hq=>?_) (fun R out hq=>?_) out hq
 ·dsimp only;intro hl;rw[if_pos (aX hi)];rw[ajY,ajI]at hq;rw[Int.toNat_natCast,hx];refine zq f.Vars (·.A) (fun R g out a b d ho c=>?_) (fun R out hq=>?_) out hq
  ·dsimp only;refine⟨⟨by omega,hi⟩,fun e=>?_⟩;rw[if_pos (aX b)];refine⟨⟨by omega,hi⟩,ob b,ho,fun y hy=>?_⟩
   grind
  grind
 dsimp only;intro _;rw[if_neg (by simp)];refine e9 x.Objs (fun q i=>(q,i)) (fun r out=>QU KK out (r.flatMap (·.Vals))) (fun R out i f r hi hx _ ih hq=>?_) (fun R out hq=>?_) out (by grind)
 ·dsimp only;intro hl;rw[if_pos (aX hi)];rw[ajY]at hq;rw[Int.toNat_natCast,hx];refine zq f.Vals id (fun R g out a b d ho c=>?_) (fun R out hq=>?_) out (by simpa using hq)
  ·dsimp only;refine⟨⟨by omega,hi⟩,fun e=>?_⟩;rw[if_pos (aX b)];refine⟨⟨by omega,hi⟩,ob b,ho,fun y hy=>?_⟩
   grind
  grind
 dsimp only;intro _;rw[if_neg (by simp)];exact hq.2 _ fun v=>by simp
end Go.Am
end

section
namespace Go.Am
open Go
open Lt (nmB toB Gd Rc bkB phB bj dp Bare bf lk oK)
theorem Te(l:List (List UInt8))(s:List UInt8)(KK:Bool->Prop)(h:KK (KX l s)):O9 l s KK:=by
 unfold O9;refine cK l (fun r=>KK (decide (s∈r))) (fun R i x r hi hx a ih h=>?_) (fun R h=>?_) h
 ·intro hl;rw[if_pos (aX hi),Int.toNat_natCast,hx];refine⟨ob hi,ifk (fun hc=>?_) (fun hc=>ih hl ?_)⟩
  ·grind
  ·grind
 ·intro _;rw[if_neg (by simp)];simpa using h
theorem Ll(b:Lt.Block){i:Nat}(hi:i<b.Code.length):dp b (i+1)=dp b i++(if(b.Code.getD i default).Dst=[]then []else [(b.Code.getD i default).Dst]):=by
 unfold dp;rw[aB _ hi,aj1,ak9,aiZ,aj4]
 congr 1
 rw[List.filter_cons,List.filter_nil];split<;>split<;>grind
theorem JS(f:Lt.Func)(v:List UInt8)(hp:DW f v)(KK:Int->Prop)(h:KK (FW f v)):CF f v KK:=by
 unfold CF;obtain⟨hn,hb⟩:=hp;have o:∀i,(bT (f.Blocks.take i)).length<=2000000000000:=fun i=>by
  have h1:=pA (fun b:Lt.Block=>b.Phis.map (·.Dst)++bj b) 2000000 (f.Blocks.take i) (fun b w=>by
   have:=hb b (akZ w)
   rw[ai3,ai2];have:(bj b).length<=b.Code.length:=by
    unfold bj;exact ajJ (akM _ _) (by rw[ai2];exact ai0 _)
   omega)
  have h2:(f.Blocks.take i).length<=1000000:=ajJ (alE _ _) hn
  unfold bT;exact ajJ h1 kQ1
 refine au _ f.Blocks.length (fun i x=>x=(((bT (f.Blocks.take i)).count v:Int),(i:Int))) (fun R i x hi e ih=>?_) (fun R x e=>?_) _ (by simp[bT])
 ·subst e;dsimp only;intro _;rw[if_pos (aX hi),Int.toNat_natCast];have hz:(0:Int)<=(i:Int)/\i<f.Blocks.length:=by omega
  have h0:=ajJ (alD (a:=v) (l:=bT (f.Blocks.take i))) (o i)
  have hs:bT (f.Blocks.take (i+1))=bT (f.Blocks.take i)++((f.Blocks.getD i default).Phis.map (·.Dst)++bj (f.Blocks.getD i default)):=by
   unfold bT;rw[aB _ hi,List.flatMap_append];simp
  have g:=hb _ (aQ _ hi)
  have m:=ih _ rfl
  rw[hs,akD,akD,<- ac (i:=i) kQ1]at m;clear ih hs;generalize(bT (f.Blocks.take i)).count v=c at h0 m⊢;generalize f.Blocks.getD i default=b at m g;have p:∀n:Nat,n<=4000000000000->i64.wrap ((n:Int)+1)=((n+1:Nat):Int):=fun n hn=>by rw[ac kQ1]
  refine au _ b.Phis.length (fun j x=>x=(((c+((b.Phis.take j).map (·.Dst)).count v:Nat):Int),(j:Int))) (fun B j x hj e s=>?_) (fun B x e=>?_) _ (by simp)
  ·subst e;dsimp only;refine⟨hz,fun _=>?_⟩;rw[if_pos (aX hj)];refine fun J t=>⟨hz,ob hj,?_⟩
   have u:((b.Phis.take j).map (·.Dst)).count v<=1000000:=ajJ alD (by rw[ai2];exact ajJ (alE _ _) g.1)
   have k:=t _ (s _ (by rw[ac (i:=j) kQ1]))
   rw[aB _ hj,aj1,akD,aiZ,aj4,List.count_cons,List.count_nil]at k;rw[Int.toNat_natCast];refine ifk (fun hc=>?_) (fun hc=>?_)
   ·rw[if_pos (by simpa using hc)]at k;rw[p _ kQ1];exact k
   ·rw[if_neg (by simpa using hc)]at k;exact k
  subst e;rw[ajH];dsimp only;refine⟨hz,fun _=>?_⟩;rw[if_neg (by simp)];have y:(b.Phis.map (·.Dst)).count v<=1000000:=ajJ alD (by rw[ai2];exact g.1)
  rw[<- Nat.add_assoc]at m;have hd:c+(b.Phis.map (·.Dst)).count v<=3000000000000:=by omega
  generalize c+(b.Phis.map (·.Dst)).count v=d at m hd;refine au _ b.Code.length (fun j x=>x=(((d+(dp b j).count v:Nat):Int),(j:Int))) (fun z j x hj e r=>?_) (fun z x e=>?_) _ (by simp[dp])
  ·subst e;dsimp only;refine⟨hz,fun _=>?_⟩;rw[if_pos (aX hj)];refine fun J t=>?_
   have u:(dp b j).count v<=1000000:=ajJ alD (by
    unfold dp;exact ajJ (akM _ _) (by rw[ai2];exact ajJ (alE _ _) g.2))
   have k:=t _ (r _ (by rw[ac (i:=j) kQ1]))
   rw[Ll b hj,akD]at k;intro A q;rw[Int.toNat_natCast];have C:=q (!decide (v=[])&&decide ((b.Code.getD j default).Dst=v)) (by
    dsimp only;refine ifk (fun hc=>?_) (fun hc=>?_)
    ·rw[p _ kQ1]
     grind
    ·grind)
   grind
  ·subst e;dsimp only;refine⟨hz,fun _=>?_⟩;rw[if_neg (by simp)];have:dp b b.Code.length=bj b:=by unfold dp bj;rw[ajH]
   rw[this];exact m
 ·subst e;rw[ajH];dsimp only;intro _;rw[if_neg (by simp)];exact h
theorem S7(f:Lt.Func)(hp:KQ f)(KK:List (List (List UInt8))->Prop)(h:∀y,DT f y->KK y):O2 f KK:=by
 unfold O2;obtain⟨hp,q⟩:=hp;refine⟨hp,fun y⟨⟨b,hy⟩,ho⟩t=>?_⟩;have r:=hp.1.1
 refine au _ y.length (fun i v=>v.2=(i:Int)/\v.1.length=i/\∀k,k<i->(v.1.getD k []).length<=xR f/\∀w,w∈v.1.getD k [] ↔ (¬ Bare f w k\/w∈phB f k)) (fun R i v hi⟨e,hn,hv⟩ih=>?_) (fun R v⟨e,hn,hv⟩=>?_) _ ⟨rfl,rfl,fun k hk=>absurd hk (alM k)⟩
 ·obtain⟨l,s⟩:=v;dsimp only at e hn hv⊢;subst e;rw[if_pos (aX hi),Int.toNat_natCast];have hk:i<f.Blocks.length:=by omega
  obtain⟨m,o,d,j,a⟩:=ho i hk;have c:∀v,bf (some m) v=true ↔ (¬ Bare f v i\/v∈phB f i):=fun v=>by rw[<- o];exact(hy i hk).2 v
  have he:y.getD i default=some m:=o
  rw[he];refine⟨ob hi,⟨rfl,rfl,ajJ a q⟩,fun z⟨n,g⟩=>⟨⟨by simp;omega,by simp;omega⟩,ih _ ⟨ac kQ1,by simp[hn],fun k p=>?_⟩⟩⟩;dsimp only;rcases akN k i with h'|h'
  ·have e:(l++[z]).getD k []=l.getD k []:=by grind
   rw[e];exact hv k h'
  ·obtain rfl:k=i:=by omega
   have e:(l++[z]).getD k []=z:=by grind
   rw[e];exact⟨ajJ g a,fun w=>(n w).trans (by rw[<- c w,je ⟨d,j⟩,decide_eq_true_iff];exact Iff.rfl)⟩
 ·obtain⟨l,s⟩:=v;dsimp only at e hn hv⊢;subst e;rw[if_neg (by simp)];exact h _ ⟨hn.trans b,fun k hk=>hv k kQ1⟩
end Go.Am
end
