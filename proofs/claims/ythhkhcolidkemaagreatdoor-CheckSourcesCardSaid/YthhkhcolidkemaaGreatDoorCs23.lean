/-
  Part 23: AmRead · AmCall.
-/
import Derived.Test.YthhkhcolidkemaaGreatDoorCs22
import Derived.SizedLaws
set_option linter.unusedSimpArgs false
set_option linter.unusedVariables false
set_option linter.unusedSectionVars false
set_option linter.unnecessarySimpa false
section
namespace Go.Am
def snap(W:World):FH:=fun b o=>(W.cell? ⟨b,o,none⟩).map HV.c
theorem FM{W:World}{b o:Nat}{y:Value}(h:W.cell? ⟨b,o,none⟩=some y):snap W b o=some (.c y):=by grind [snap]
theorem acI{W:World}(b o:Nat)(y:HV)(h:snap W b o=some y):RdV W b o y:=by
 obtain⟨v,hv,rfl⟩:=ajL.1 h;exact hv
def G3(H:FH):List D->List Value->Nat->Prop
 |[],_,_=>True
 |d::r,cs,o=>(∃y,cs[o]? = some y/\FDx H d y)/\G3 H r cs (o+1)
variable{H:FH}
theorem tP:∀{ds:List D}{cs:List Value}{o:Nat},G3 H ds cs o->∀j,j<ds.length->∃y,cs[o+j]? = some y/\FDx H (ds.getD j default) y
 |d::r,cs,o,⟨h,_⟩,0,_=>h
 |d::r,cs,o,⟨_,h⟩,j+1,hj=>by
  obtain⟨y,h1,h2⟩:=tP h j (by grind)
  grind
 |[],_,_,_,j,hj=>by grind
theorem PB:∀{ds:List D}{cs:List Value}{o:Nat},(∀j,j<ds.length->∃y,cs[o+j]? = some y/\FDx H (ds.getD j default) y)->G3 H ds cs o
 |[],_,_,_=>trivial
 |d::r,cs,o,h=>⟨h 0 (by simp),PB (fun j hj=>by
   obtain⟨y,h1,h2⟩:=h (j+1) (by grind)
   grind)⟩
variable{cs:List Value}
theorem al{ds:List D}{o n:Nat}(h:G3 H ds ((cs.drop o).take n) 0):G3 H ds cs o:=
 PB fun j hj=>by
  grind [tP]
variable{α:Type}
def Reads(P:Program)(W:World)(t:TypeId)(R:α->List D)(ok:α->Prop):Prop:=
 ∀(b:Type)(enc:TypeId×Value->b)(fuel:Nat)(cs:List Value)(x:DataW b×List MemPlace),DataW.trod enc P W 0 (fun _=>true) true fuel t cs=some x ->
  (∀n∈x.1.weights P t,n<=reachBytes)->∃a:α,ok a/\G3 (snap W) (R a) cs 0/\cs.length=(R a).length
def okI(k:IntKind)(n:Int):Prop:=(Lit.int k n).wf=true
def okS(l:a8):Prop:=l.length<=140737488351232
def okL(p:α->Prop)(l:List α):Prop:=l.length<=140737488351232/\∀a∈l,p a
def okB(_:Bool):Prop:=True
theorem iR:∀{l:List α},l.length=2->∃a0 a,l=[a0,a]
 |[a0,a],_=>⟨a0,a,rfl⟩
theorem Ti:∀{l:List α},l.length=3->∃a0 a b,l=[a0,a,b]
 |[a0,a,b],_=>⟨a0,a,b,rfl⟩
theorem wb:∀{l:List α},l.length=4->∃a0 a b a3,l=[a0,a,b,a3]
 |[a0,a,b,a3],_=>⟨a0,a,b,a3,rfl⟩
theorem Dq:∀{l:List α},l.length=5->∃a0 a b a3 a4,l=[a0,a,b,a3,a4]
 |[a0,a,b,a3,a4],_=>⟨a0,a,b,a3,a4,rfl⟩
theorem Tj:∀{l:List α},l.length=6->∃a0 a b a3 a4 a5,l=[a0,a,b,a3,a4,a5]
 |[a0,a,b,a3,a4,a5],_=>⟨a0,a,b,a3,a4,a5,rfl⟩
section
variable {P:Program} {W:World} {t:TypeId}
theorem iF{k:IntKind}(a:P.underlying t=some (.int k)):Reads P W t (fun n:Int=>[.int k n]) (okI k):=by
 intro b enc fuel cs x h _;obtain⟨n,rfl,rfl,hw⟩:=DataW.trod_int a h;exact⟨n,hw,⟨⟨_,rfl,0,rfl,hw⟩,trivial⟩,rfl⟩
theorem LP(a:P.underlying t=some .bool):Reads P W t (fun b:Bool=>[.bool b]) okB:=by
 intro c enc fuel cs x h _;obtain⟨b,rfl,rfl⟩:=DataW.trod_bool a h;exact⟨b,trivial,⟨⟨_,rfl,0,rfl⟩,trivial⟩,rfl⟩
theorem aQ(a:P.underlying t=some .string):Reads P W t (fun s:a8=>[.str s]) okS:=by
 intro b enc fuel cs x h hw;obtain⟨s,rfl,rfl,_⟩:=DataW.trod_string a h;have hl:s.data.toList.length<=140737488351232:=hw s.data.toList.length (by simp[DataW.weights])
 exact⟨s.data.toList,hl,⟨⟨_,rfl,0,by simp,by grind [BIG]⟩,trivial⟩,rfl⟩
theorem C3{p:Nat->α->Prop}:∀n,(∀i,i<n->∃a,p i a)->∃l:List α,l.length=n/\∀i a,l[i]? = some a->p i a
 |0,_=>⟨[],rfl,fun i a h=>by simp at h⟩
 |n+1,h=>by
  obtain⟨l,hl,hp⟩:=C3 n (fun i hi=>h i kQ1);obtain⟨a,c⟩:=h n kQ1;refine⟨l++[a],by simp[hl],fun i b hb=>?_⟩
  grind
theorem C2{W:World}{b:Nat}{a:Addr}{n:Nat}(h:W.cells? b a n=some cs):cs.length=n/\∀j y,cs[j]? = some y->W.cell? (a.add j)=some y:=by
 unfold World.cells? at h;split at h
 ·have hl:=mapM_some_length h
  rw[List.length_range]at hl;refine⟨hl,fun j y hy=>?_⟩;have hj:j<n:=by
   grind
  have:=mapM_some_get h j j (by grind)
  grind
 grind
theorem xD{a:Type}{e:TypeId}:∀{l:List (DataW a)}{i:Nat}{d:DataW a},l[i]? = some d->∀n∈d.weights P e,n∈DataW.weightsAll P e l
 |b::l,0,d,h,n,hn=>by
  grind [DataW.weightsAll]
 |b::l,i+1,d,h,n,hn=>by
  simp only[List.getElem?_cons_succ]at h;simp only[DataW.weightsAll,ajO];exact .inr (xD h n hn)
 |[],_,_,h,_,_=>by simp at h
theorem aY{e:TypeId}{R:α->List D}{ok:α->Prop}{es:Nat}(A:P.underlying t=some (.slice e))(r:P.cellsOf e=es)(s:1<=P.bytesOf e)(f:∀a,(R a).length=es)(z:0<es)(F:Reads P W e R ok) :
  Reads P W t (fun l:List α=>[.li (l.map R)]) (okL ok):=by
 intro C enc fuel cs x h hw;rcases DataW.trod_slice A h with⟨rfl,rfl⟩|⟨a,len,cap,elems,rest,n,rfl,rfl,rfl,_,hlc,hcm,hel,hget,_,_⟩
 ·exact⟨[],⟨by simp,by simp⟩,⟨⟨_,rfl,lJ⟩,trivial⟩,rfl⟩
 rw[r]at hget;have c:∀n∈(DataW.slice (elems.map (·.1)) (rest.map (·.1))).weights P t,n<=reachBytes:=hw
 simp only[DataW.weights,A]at c;have y:len<=140737488351232:=by
  have h1:=c _ (List.mem_cons_self ..)
  simp only[ajH]at h1;have h2:len*1<=(elems.length+rest.length)*P.bytesOf e:=Nat.mul_le_mul kQ1 s
  grind [reachBytes]
 obtain⟨l,hl,hp⟩:=C3 (p:=fun i(a0:α)=>ok a0/\∃d,W.cells? 0 (a.add (i*es)) es=some d/\G3 (snap W) (R a0) d 0) len (fun i hi=>by
  have k:=hget i hi
  have w:i<elems.length:=by omega
  rw[ajA w]at k;simp only[ajP]at k;obtain⟨d,hc,v⟩:=k;obtain⟨a0,h1,h2,_⟩:=F C enc n d _ v (fun m hm=>c m (aj1 _ (ak8 _ (xD (i:=i) (by grind) m hm))))
  grind)
 refine⟨l,⟨by omega,fun a0 B=>?_⟩,⟨⟨_,rfl,?_⟩,trivial⟩,rfl⟩
 ·obtain⟨i,hi,rfl⟩:=ajU.1 B;exact(hp i _ (ajA hi)).1
 by_cases h0:len=0
 ·have:l=[]:=akG kQ1
  subst this;subst h0;exact⟨1,some a,cap,rfl,aj0 _,aj0 _,.inl rfl⟩
 have g:a.spot=none:=by
  have u:0<l.length:=by omega
  obtain⟨_,d,hc,hr⟩:=hp 0 _ (ajA u);obtain⟨E,q⟩:=C2 hc;have hi:0<d.length:=by omega
  have:=q 0 _ (ajA hi)
  grind [World.cell?_spot,Addr.add]
 obtain⟨b,o,sp⟩:=a;dsimp only at g;subst g;obtain⟨m,hm⟩:=Ge (H:=snap W) (l:=l.map R) (b:=b) (o:=o) (e:=es) (fun i hi=>by
  rw[ajH]at hi;have k:(l.map R).getD i []=R l[i]:=by grind
  rw[k];refine⟨f _,fun j hj=>?_⟩;obtain⟨_,d,hc,hr⟩:=hp i _ (ajA hi)
  grind [C2,tP,eH,FM])
 refine⟨m+1,mO.2 ⟨some ⟨b,o,none⟩,cap,by grind,by grind,by grind [BIG],.inr ⟨b,o,es,rfl,hm⟩⟩⟩
end
end Go.Am
end

section
namespace Go.Am
open Go.RowKit
theorem Lu{P:Program}{f:Nat}{fn:Func}{c:Code}(hf:P.funcs[f]? = some fn)(hb:fn.body=some c)(args:List Value)(k:List AV)(W:World)(u:args.length<=fn.ntmps)(q:k.length=args.length)
  (p:∀(i:Nat)v,k[i]? = some v->∃y,args[i]? = some y/\AR W (snap W) (fun _=>.blk 0) [] v y) (n:Globs (snap W)) (K:AV->Prop)
  (l:∀g:G,g.nt=fn.ntmps->AW P g c (agB P fn.results.toList K) ⟨cJ 0 k,[]⟩) :
  Calls P f args.toArray W (fun e w'=>∃v r H γ m,e=.returned v/\K r/\AR w' H γ m r v/\Below W.heap.size W w'):=by
 let g1:G:=⟨fn.ntmps,W,snap W,fun _=>0,fun _=>none,none,[]⟩
 refine calls_of_wp hf hb (Code.wp_mono (fun e a' w' hl=>?_) (l g1 rfl _ W ⟨snap W,fun _=>.blk 0,fun _ _=>0,?_⟩))
 ·obtain⟨s',hq,H',γ',F',hX'⟩:=hl;have fin:wA P s' fn.results.toList K->a'.defers=[]/\∃v,(results fn a'.tmps).run P w'=.ok v w'/\∃v0 r H γ m,Ending.returned v=.returned v0/\K r/\AR w' H γ m r v0/\Below W.heap.size W w':=by
   intro hq;obtain⟨y,v,s2,D,I,C,t,z,E,B⟩:=FF hX' rfl hq;have d:=t.fr
   dsimp only[g1]at d;exact⟨t.df.1,y,C,y,v.map T.canon,D,γ',s2.m,rfl,B,iC fe z,⟨d.os,d.tape,d.output,d.size,fun b hb=>d.block b hb rfl⟩⟩
  cases e with
  |normal=>exact fin hq
  |ret=>exact fin hq
  |_=>exact hq.elim
 refine⟨⟨fun b o y h=>acI b o y h,fun x hx=>by grind,by simp,fun b=>aj0 _,fun b hb=>absurd rfl hb,fun b hb=>absurd rfl hb⟩,⟨ajB _,rfl,rfl,rfl,fun _ _ _=>rfl,fun _ _ _ h=>h,fun b o h2 h3=>absurd h3 h2,fun b hb=>absurd rfl hb,oF⟩,?_,⟨rfl,fun j b e=>by grind,n⟩,fun i=>?_⟩
 ·grind
 rw[gN];simp only[aj0,if_true,Nat.sub_zero];cases hi:k[i]? with
 |none=>simp only[Option.getD_none];trivial
 |some v=>
  obtain⟨y,hy,har⟩:=p i v hi;have A:i<args.length:=(akH.1 hy).1
  simp only[akP];have hget:(args.toArray++Array.replicate (fn.ntmps-args.toArray.size) undef).getD i undef=y:=by
   simp_all[akL]
  grind [G.tv_none]
section
variable {P:Program} {W:World} {γ:Gam}
theorem QF{v:Value}{ds:List D}{cs:Array Value}(hv:v=.agg cs)(hr:G3 (snap W) ds v.cells.toList 0)(hl:v.cells.toList.length=ds.length):AR W (snap W) γ [] (.one (.agg (ds.map T.d))) v:=by
 subst hv;simp only[Value.cells]at hr hl;refine⟨cs,rfl,by grind,tS (by grind) (fun i t b=>?_)⟩;rw[ajD]at b;obtain⟨d,hd,rfl⟩:=ajL.1 b;have a:=(akH.1 hd).1
 obtain⟨y,h1,h2⟩:=tP hr i a;rw[akX]at h1;have:ds.getD i default=d:=by grind
 rw[this]at h2;exact⟨y,h1,fun _=>rfl,h2⟩
theorem YZ{w:World}{H:FH}{m:Mm}{v:Value}(h:AR w H γ m (o1 cB true) v):v=.bool true:=by
 obtain⟨_,h⟩:=h;exact ja h
end
end Go.Am
end
