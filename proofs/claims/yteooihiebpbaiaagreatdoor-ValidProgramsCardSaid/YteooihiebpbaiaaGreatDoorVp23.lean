/-
  Part 23: AmRead · AmCall.
-/
import Derived.Test.YteooihiebpbaiaaGreatDoorVp22
import Derived.SizedLaws
set_option linter.unusedSimpArgs false
set_option linter.unusedVariables false
set_option linter.unusedSectionVars false
set_option linter.unnecessarySimpa false
section
namespace Go.Am
def snap(W:World):FH:=λb o=>(W.cell? ⟨b,o,none⟩).map HV.c
theorem Gg{W:World}{b o:Nat}{y:Value}(h:W.cell? ⟨b,o,none⟩=some y):snap W b o=some (.c y):=by grind [snap]
theorem adY{W:World}(b o:Nat)(y:HV)(h:snap W b o=some y):RdV W b o y:=by obtain⟨v,hv,rfl⟩:=ak5.1 h;exact hv
def Iv(H:FH):List D->List Value->Nat->Prop
 |[],_,_=>True
 |d::r,cs,o=>(∃y,cs[o]? = some y/\FDx H d y)/\Iv H r cs (o+1)
variable{H:FH}
theorem t6:∀{ds:List D}{cs:List Value}{o:Nat},Iv H ds cs o->∀j,j<ds.length->∃y,cs[o+j]? = some y/\FDx H (ds.getD j default) y
 |d::r,cs,o,⟨h,_⟩,0,_=>h
 |d::r,cs,o,⟨_,h⟩,j+1,hj=>by
  obtain⟨y,h1,h2⟩:=t6 h j (by grind)
  grind
 |[],_,_,_,j,hj=>by grind
theorem Qc:∀{ds:List D}{cs:List Value}{o:Nat},(∀j,j<ds.length->∃y,cs[o+j]? = some y/\FDx H (ds.getD j default) y)->Iv H ds cs o
 |[],_,_,_=>trivial
 |d::r,cs,o,h=>⟨h 0 (by simp),Qc (λj hj=>by
   obtain⟨y,h1,h2⟩:=h (j+1) (by grind)
   grind)⟩
variable{cs:List Value}
theorem al{ds:List D}{o n:Nat}(h:Iv H ds ((cs.drop o).take n) 0):Iv H ds cs o:=
 Qc λj hj=>by grind [t6]
variable{α:Type}
def Reads(P:Program)(W:World)(t:TypeId)(R:α->List D)(ok:α->Prop):Prop:=
 ∀(b:Type)(enc:TypeId×Value->b)(fuel:Nat)(cs:List Value)(x:DataW b×List MemPlace),DataW.trod enc P W 0 (λ_=>true) true fuel t cs=some x ->
  (∀n∈x.1.weights P t,n<=reachBytes)->∃a:α,ok a/\Iv (snap W) (R a) cs 0/\cs.length=(R a).length
def okI(k:IntKind)(n:Int):Prop:=(Lit.int k n).wf=true
def okS(l:a8):Prop:=l.length<=140737488351232
def okL(p:α->Prop)(l:List α):Prop:=l.length<=140737488351232/\∀a∈l,p a
def okB(_:Bool):Prop:=True
theorem iV:∀{l:List α},l.length=2->∃a0 a,l=[a0,a]
 |[a0,a],_=>⟨a0,a,rfl⟩
theorem T8:∀{l:List α},l.length=3->∃a0 a b,l=[a0,a,b]
 |[a0,a,b],_=>⟨a0,a,b,rfl⟩
theorem wu:∀{l:List α},l.length=4->∃a0 a b a3,l=[a0,a,b,a3]
 |[a0,a,b,a3],_=>⟨a0,a,b,a3,rfl⟩
theorem DK:∀{l:List α},l.length=5->∃a0 a b a3 a4,l=[a0,a,b,a3,a4]
 |[a0,a,b,a3,a4],_=>⟨a0,a,b,a3,a4,rfl⟩
theorem T9:∀{l:List α},l.length=6->∃a0 a b a3 a4 a5,l=[a0,a,b,a3,a4,a5]
 |[a0,a,b,a3,a4,a5],_=>⟨a0,a,b,a3,a4,a5,rfl⟩
section
variable {P:Program} {W:World} {t:TypeId}
theorem iJ{k:IntKind}(a:P.underlying t=some (.int k)):Reads P W t (λn:Int=>[.int k n]) (okI k):=by intro b enc fuel cs x h _;obtain⟨n,rfl,rfl,hw⟩:=DataW.trod_int a h;exact⟨n,hw,⟨⟨_,rfl,0,rfl,hw⟩,trivial⟩,rfl⟩
theorem Mi(a:P.underlying t=some .bool):Reads P W t (λb:Bool=>[.bool b]) okB:=by intro c enc fuel cs x h _;obtain⟨b,rfl,rfl⟩:=DataW.trod_bool a h;exact⟨b,trivial,⟨⟨_,rfl,0,rfl⟩,trivial⟩,rfl⟩
theorem aR(a:P.underlying t=some .string):Reads P W t (λs:a8=>[.str s]) okS:=by
 intro b enc fuel cs x h hw;obtain⟨s,rfl,rfl,_⟩:=DataW.trod_string a h;have hl:s.data.toList.length<=140737488351232:=hw s.data.toList.length (by simp[DataW.weights])
 exact⟨s.data.toList,hl,⟨⟨_,rfl,0,by simp,by grind [BIG]⟩,trivial⟩,rfl⟩
theorem Dh{p:Nat->α->Prop}:∀n,(∀i,i<n->∃a,p i a)->∃l:List α,l.length=n/\∀i a,l[i]? = some a->p i a
 |0,_=>⟨[],rfl,λi a h=>by simp at h⟩
 |n+1,h=>by
  obtain⟨l,hl,hp⟩:=Dh n (λi hi=>h i kQ1);obtain⟨a,ha⟩:=h n kQ1;refine⟨l++[a],by simp[hl],λi b hb=>?_⟩
  grind
theorem Dg{W:World}{b:Nat}{a:Addr}{n:Nat}(h:W.cells? b a n=some cs):cs.length=n/\∀j y,cs[j]? = some y->W.cell? (a.add j)=some y:=by
 unfold World.cells? at h;split at h
 .have hl:=mapM_some_length h
  rw[List.length_range]at hl;refine⟨hl,λj y hy=>?_⟩;have hj:j<n:=by grind
  have:=mapM_some_get h j j (by grind)
  grind
 grind
theorem xU{a:Type}{e:TypeId}:∀{l:List (DataW a)}{i:Nat}{d:DataW a},l[i]? = some d->∀n∈d.weights P e,n∈DataW.weightsAll P e l
 |b::l,0,d,h,n,hn=>by grind [DataW.weightsAll]
 |b::l,i+1,d,h,n,hn=>by simp only[List.getElem?_cons_succ]at h;simp only[DataW.weightsAll,ak3];exact .inr (xU h n hn)
 |[],_,_,h,_,_=>by simp at h
theorem aY{e:TypeId}{R:α->List D}{ok:α->Prop}{es:Nat}(A:P.underlying t=some (.slice e))(y:P.cellsOf e=es)(w:1<=P.bytesOf e)(k:∀a,(R a).length=es)(z:0<es)(C:Reads P W e R ok) :
  Reads P W t (λl:List α=>[.li (l.map R)]) (okL ok):=by
 intro E enc fuel cs x h hw;rcases DataW.trod_slice A h with⟨rfl,rfl⟩|⟨a,len,cap,elems,rest,n,rfl,rfl,rfl,_,hlc,hcm,hel,hget,_,_⟩
 .exact⟨[],⟨by simp,by simp⟩,⟨⟨_,rfl,lN⟩,trivial⟩,rfl⟩
 rw[y]at hget;have c:∀n∈(DataW.slice (elems.map (·.1)) (rest.map (·.1))).weights P t,n<=reachBytes:=hw
 simp only[DataW.weights,A]at c;have u:len<=140737488351232:=by
  have h1:=c _ (List.mem_cons_self ..)
  simp only[akV]at h1;have h2:len*1<=(elems.length+rest.length)*P.bytesOf e:=Nat.mul_le_mul kQ1 w
  grind [reachBytes]
 obtain⟨l,hl,hp⟩:=Dh (p:=λi(a0:α)=>ok a0/\∃d,W.cells? 0 (a.add (i*es)) es=some d/\Iv (snap W) (R a0) d 0) len (λi hi=>by
  have f:=hget i hi
  have q:i<elems.length:=by omega
  rw[akQ q]at f;simp only[alB]at f;obtain⟨d,hc,v⟩:=f;obtain⟨a0,h1,h2,_⟩:=C E enc n d _ v (λm hm=>c m (alJ _ (am1 _ (xU (i:=i) (by grind) m hm))))
  grind)
 refine⟨l,⟨by omega,λa0 ha=>?_⟩,⟨⟨_,rfl,?_⟩,trivial⟩,rfl⟩
 .obtain⟨i,hi,rfl⟩:=alD.1 ha;exact(hp i _ (akQ hi)).1
 by_cases h0:len=0
 .have:l=[]:=al5 kQ1
  subst this;subst h0;exact⟨1,some a,cap,rfl,alL _,alL _,.inl rfl⟩
 have g:a.spot=none:=by
  have s:0<l.length:=by omega
  obtain⟨_,d,hc,hr⟩:=hp 0 _ (akQ s);obtain⟨B,r⟩:=Dg hc;have hi:0<d.length:=by omega
  have:=r 0 _ (akQ hi)
  grind [World.cell?_spot,Addr.add]
 obtain⟨b,o,sp⟩:=a;dsimp only at g;subst g;obtain⟨m,hm⟩:=GD (H:=snap W) (l:=l.map R) (b:=b) (o:=o) (e:=es) (λi hi=>by
  rw[akV]at hi;have f:(l.map R).getD i []=R l[i]:=by grind
  rw[f];refine⟨k _,λj hj=>?_⟩;obtain⟨_,d,hc,hr⟩:=hp i _ (akQ hi)
  grind [Dg,t6,eN,Gg])
 refine⟨m+1,mR.2 ⟨some ⟨b,o,none⟩,cap,by grind,by grind,by grind [BIG],.inr ⟨b,o,es,rfl,hm⟩⟩⟩
end
end Go.Am
end

section
namespace Go.Am
open Go.RowKit
theorem LY{P:Program}{f:Nat}{fn:Func}{c:Code}(hf:P.funcs[f]? = some fn)(hb:fn.body=some c)(args:List Value)(k:List AV)(W:World)(A:args.length<=fn.ntmps)(t:k.length=args.length)
  (l:∀(i:Nat)v,k[i]? = some v->∃y,args[i]? = some y/\AR W (snap W) (λ_=>.blk 0) [] v y) (p:Globs (snap W)) (K:AV->Prop)
  (n:∀g:G,g.nt=fn.ntmps->AW P g c (ahW P fn.results.toList K) ⟨cO 0 k,[]⟩) :
  Calls P f args.toArray W (λe w'=>∃v r H γ m,e=.returned v/\K r/\AR w' H γ m r v/\Below W.heap.size W w'):=by
 let g1:G:=⟨fn.ntmps,W,snap W,λ_=>0,λ_=>none,none,[]⟩
 refine calls_of_wp hf hb (Code.wp_mono (λe a' w' hl=>?_) (n g1 rfl _ W ⟨snap W,λ_=>.blk 0,λ_ _=>0,?_⟩))
 .obtain⟨s',hq,H',γ',F',hX'⟩:=hl;have fin:wO P s' fn.results.toList K->a'.defers=[]/\∃v,(results fn a'.tmps).run P w'=.ok v w'/\∃v0 r H γ m,Ending.returned v=.returned v0/\K r/\AR w' H γ m r v0/\Below W.heap.size W w':=by
   intro hq;obtain⟨y,v,s2,D,I,B,q,C,E,z⟩:=F9 hX' rfl hq;have d:=q.fr
   dsimp only[g1]at d;exact⟨q.df.1,y,B,y,v.map T.canon,D,γ',s2.m,rfl,z,iG fp C,⟨d.os,d.tape,d.output,d.size,λb hb=>d.block b hb rfl⟩⟩
  cases e with
  |normal=>exact fin hq
  |ret=>exact fin hq
  |_=>exact hq.elim
 refine⟨⟨λb o y h=>adY b o y h,λx hx=>by grind,by simp,λb=>alL _,λb hb=>absurd rfl hb,λb hb=>absurd rfl hb⟩,⟨akR _,rfl,rfl,rfl,λ_ _ _=>rfl,λ_ _ _ h=>h,λb o h2 h3=>absurd h3 h2,λb hb=>absurd rfl hb,oO⟩,?_,⟨rfl,λj b e=>by grind,p⟩,λi=>?_⟩
 .grind
 rw[gU];simp only[alL,if_true,Nat.sub_zero];cases hi:k[i]? with
 |none=>simp only[Option.getD_none];trivial
 |some v=>
  obtain⟨y,hy,har⟩:=l i v hi;have u:i<args.length:=(alR.1 hy).1
  simp only[alK];have hget:(args.toArray++Array.replicate (fn.ntmps-args.toArray.size) undef).getD i undef=y:=by simp_all[amA]
  grind [G.tv_none]
section
variable {P:Program} {W:World} {γ:Gam}
theorem Rh{v:Value}{ds:List D}{cs:Array Value}(hv:v=.agg cs)(hr:Iv (snap W) ds v.cells.toList 0)(hl:v.cells.toList.length=ds.length):AR W (snap W) γ [] (.one (.agg (ds.map T.d))) v:=by
 subst hv;simp only[Value.cells]at hr hl;refine⟨cs,rfl,by grind,ua (by grind) (λi t b=>?_)⟩;rw[akT]at b;obtain⟨d,hd,rfl⟩:=ak5.1 b;have a:=(alR.1 hd).1
 obtain⟨y,h1,h2⟩:=t6 hr i a;rw[amB]at h1;have:ds.getD i default=d:=by grind
 rw[this]at h2;exact⟨y,h1,λ_=>rfl,h2⟩
theorem ZK{w:World}{H:FH}{m:Mm}{v:Value}(h:AR w H γ m (o1 cB true) v):v=.bool true:=by obtain⟨_,h⟩:=h;exact jh h
end
end Go.Am
end
