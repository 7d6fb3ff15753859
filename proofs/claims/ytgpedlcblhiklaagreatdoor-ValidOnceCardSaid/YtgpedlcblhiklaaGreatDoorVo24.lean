/-
  Part 24: AmRead · AmCall.
-/
import Derived.Test.YtgpedlcblhiklaaGreatDoorVo23
import Derived.SizedLaws
set_option linter.unusedSimpArgs false
set_option linter.unusedVariables false
set_option linter.unusedSectionVars false
set_option linter.unnecessarySimpa false
section
namespace Go.Am
def snap(W:World):FH:=fun b o=>(W.cell? ⟨b,o,none⟩).map HV.c
theorem QK{W:World}{b o:Nat}{y:Value}(h:W.cell? ⟨b,o,none⟩=some y):snap W b o=some (.c y):=by grind [snap]
theorem acO{W:World}(b o:Nat)(y:HV)(h:snap W b o=some y):RdV W b o y:=by
 obtain⟨v,hv,rfl⟩:=ajF.1 h;exact hv
def Ip(H:FH):List D->List Value->Nat->Prop
 |[],_,_=>True
 |d::r,cs,o=>(∃y,cs[o]? = some y/\FDx H d y)/\Ip H r cs (o+1)
variable{H:FH}
theorem tP:∀{ds:List D}{cs:List Value}{o:Nat},Ip H ds cs o->∀j,j<ds.length->∃y,cs[o+j]? = some y/\FDx H (ds.getD j default) y
 |d::r,cs,o,⟨h,_⟩,0,_=>h
 |d::r,cs,o,⟨_,h⟩,j+1,hj=>by
  obtain⟨y,h1,h2⟩:=tP h j (by grind)
  grind
 |[],_,_,_,j,hj=>by grind
theorem PI:∀{ds:List D}{cs:List Value}{o:Nat},(∀j,j<ds.length->∃y,cs[o+j]? = some y/\FDx H (ds.getD j default) y)->Ip H ds cs o
 |[],_,_,_=>trivial
 |d::r,cs,o,h=>⟨h 0 (by simp),PI (fun j hj=>by
   obtain⟨y,h1,h2⟩:=h (j+1) (by grind)
   grind)⟩
theorem aj{ds:List D}{cs:List Value}{o n:Nat}(h:Ip H ds ((cs.drop o).take n) 0):Ip H ds cs o:=
 PI fun j hj=>by
  grind [tP]
variable{α:Type}
def Reads(P:Program)(W:World)(t:TypeId)(R:α->List D)(ok:α->Prop):Prop:=
 ∀(b:Type)(enc:TypeId×Value->b)(fuel:Nat)(cs:List Value)(x:DataW b×List MemPlace),DataW.trod enc P W 0 (fun _=>true) true fuel t cs=some x ->
  (∀n∈x.1.weights P t,n<=reachBytes)->∃a:α,ok a/\Ip (snap W) (R a) cs 0/\cs.length=(R a).length
def okI(k:IntKind)(n:Int):Prop:=(Lit.int k n).wf=true
def okS(l:List UInt8):Prop:=l.length<=140737488351232
def okL(p:α->Prop)(l:List α):Prop:=l.length<=140737488351232/\∀a∈l,p a
def okB(_:Bool):Prop:=True
theorem iY:∀{l:List α},l.length=2->∃a0 a,l=[a0,a]
 |[a0,a],_=>⟨a0,a,rfl⟩
theorem TE:∀{l:List α},l.length=3->∃a0 b a,l=[a0,b,a]
 |[a0,b,a],_=>⟨a0,b,a,rfl⟩
theorem wk:∀{l:List α},l.length=4->∃a0 b a a3,l=[a0,b,a,a3]
 |[a0,b,a,a3],_=>⟨a0,b,a,a3,rfl⟩
theorem Dx:∀{l:List α},l.length=5->∃a0 b a a3 a4,l=[a0,b,a,a3,a4]
 |[a0,b,a,a3,a4],_=>⟨a0,b,a,a3,a4,rfl⟩
theorem TF:∀{l:List α},l.length=6->∃a0 b a a3 a4 a5,l=[a0,b,a,a3,a4,a5]
 |[a0,b,a,a3,a4,a5],_=>⟨a0,b,a,a3,a4,a5,rfl⟩
section
variable {P:Program} {W:World} {t:TypeId}
theorem iN{k:IntKind}(a:P.underlying t=some (.int k)):Reads P W t (fun n:Int=>[.int k n]) (okI k):=by
 intro b enc fuel cs x h _;obtain⟨n,rfl,rfl,hw⟩:=DataW.trod_int a h;exact⟨n,hw,⟨⟨_,rfl,0,rfl,hw⟩,trivial⟩,rfl⟩
theorem Me(a:P.underlying t=some .bool):Reads P W t (fun b:Bool=>[.bool b]) okB:=by
 intro c enc fuel cs x h _;obtain⟨b,rfl,rfl⟩:=DataW.trod_bool a h;exact⟨b,trivial,⟨⟨_,rfl,0,rfl⟩,trivial⟩,rfl⟩
theorem aS(a:P.underlying t=some .string):Reads P W t (fun s:List UInt8=>[.str s]) okS:=by
 intro b enc fuel cs x h hw;obtain⟨s,rfl,rfl,_⟩:=DataW.trod_string a h;have hl:s.data.toList.length<=140737488351232:=hw s.data.toList.length (by simp[DataW.weights])
 exact⟨s.data.toList,hl,⟨⟨_,rfl,0,by simp,by grind [BIG]⟩,trivial⟩,rfl⟩
theorem Db{p:Nat->α->Prop}:∀n,(∀i,i<n->∃a,p i a)->∃l:List α,l.length=n/\∀i a,l[i]? = some a->p i a
 |0,_=>⟨[],rfl,fun i a h=>by simp at h⟩
 |n+1,h=>by
  obtain⟨l,hl,hp⟩:=Db n (fun i hi=>h i kQ1);obtain⟨a,c⟩:=h n kQ1;refine⟨l++[a],by simp[hl],fun i b hb=>?_⟩
  grind
theorem Da{W:World}{b:Nat}{a:Addr}{n:Nat}{cs:List Value}(h:W.cells? b a n=some cs):cs.length=n/\∀j y,cs[j]? = some y->W.cell? (a.add j)=some y:=by
 unfold World.cells? at h;split at h
 ·have hl:=mapM_some_length h
  rw[List.length_range]at hl;refine⟨hl,fun j y hy=>?_⟩;have hj:j<n:=by
   grind
  have:=mapM_some_get h j j (by grind)
  grind
 grind
theorem xU{a:Type}{e:TypeId}:∀{l:List (DataW a)}{i:Nat}{d:DataW a},l[i]? = some d->∀n∈d.weights P e,n∈DataW.weightsAll P e l
 |b::l,0,d,h,n,hn=>by
  grind [DataW.weightsAll]
 |b::l,i+1,d,h,n,hn=>by
  simp only[List.getElem?_cons_succ]at h;simp only[DataW.weightsAll,ai9];exact .inr (xU h n hn)
 |[],_,_,h,_,_=>by simp at h
theorem be{e:TypeId}{R:α->List D}{ok:α->Prop}{es:Nat}(A:P.underlying t=some (.slice e))(r:P.cellsOf e=es)(q:1<=P.bytesOf e)(k:∀a,(R a).length=es)(B:0<es)(he:Reads P W e R ok) :
  Reads P W t (fun l:List α=>[.li (l.map R)]) (okL ok):=by
 intro C enc fuel cs x h hw;rcases DataW.trod_slice A h with⟨rfl,rfl⟩|⟨a,len,cap,elems,rest,n,rfl,rfl,rfl,_,hlc,hcm,hel,hget,_,_⟩
 ·exact⟨[],⟨by simp,by simp⟩,⟨⟨_,rfl,lj⟩,trivial⟩,rfl⟩
 ·rw[r]at hget;have c:∀n∈(DataW.slice (elems.map (·.1)) (rest.map (·.1))).weights P t,n<=reachBytes:=hw
  simp only[DataW.weights,A]at c;have y:len<=140737488351232:=by
   have h1:=c _ (List.mem_cons_self ..)
   simp only[ai2]at h1;have h2:len*1<=(elems.length+rest.length)*P.bytesOf e:=Nat.mul_le_mul kQ1 q
   grind [reachBytes]
  obtain⟨l,hl,hp⟩:=Db (p:=fun i(a0:α)=>ok a0/\∃d,W.cells? 0 (a.add (i*es)) es=some d/\Ip (snap W) (R a0) d 0) len (fun i hi=>by
   have g:=hget i hi
   have u:i<elems.length:=by omega
   rw[aiY u]at g;simp only[ajL]at g;obtain⟨d,hc,v⟩:=g;obtain⟨a0,h1,h2,_⟩:=he C enc n d _ v (fun m w=>c m (ajM _ (ak0 _ (xU (i:=i) (by grind) m w))))
   grind)
  refine⟨l,⟨by omega,fun a0 E=>?_⟩,⟨⟨_,rfl,?_⟩,trivial⟩,rfl⟩
  ·obtain⟨i,hi,rfl⟩:=akY.1 E;exact(hp i _ (aiY hi)).1
  ·by_cases h0:len=0
   ·have:l=[]:=aj5 kQ1
    subst this;subst h0;exact⟨1,some a,cap,rfl,ajW _,ajW _,.inl rfl⟩
   ·have f:a.spot=none:=by
     have z:0<l.length:=by omega
     obtain⟨_,d,hc,hr⟩:=hp 0 _ (aiY z);obtain⟨F,s⟩:=Da hc;have hi:0<d.length:=by omega
     have:=s 0 _ (aiY hi)
     grind [World.cell?_spot,Addr.add]
    obtain⟨b,o,sp⟩:=a;dsimp only at f;subst f;obtain⟨m,w⟩:=GI (H:=snap W) (l:=l.map R) (b:=b) (o:=o) (e:=es) (fun i hi=>by
     rw[ai2]at hi;have g:(l.map R).getD i []=R l[i]:=by grind
     rw[g];refine⟨k _,fun j hj=>?_⟩;obtain⟨_,d,hc,hr⟩:=hp i _ (aiY hi)
     grind [Da,tP,dA,QK])
    refine⟨m+1,kj.2 ⟨some ⟨b,o,none⟩,cap,by grind,by grind,by grind [BIG],.inr ⟨b,o,es,rfl,w⟩⟩⟩
end
end Go.Am
end

section
namespace Go.Am
open Go.RowKit
theorem LV{P:Program}{f:Nat}{fn:Func}{c:Code}(hf:P.funcs[f]? = some fn)(hb:fn.body=some c)(args:List Value)(k:List AV)(W:World)(z:args.length<=fn.ntmps)(t:k.length=args.length)
  (n:∀(i:Nat)v,k[i]? = some v->∃y,args[i]? = some y/\AR W (snap W) (fun _=>.blk 0) [] v y) (l:Globs (snap W)) (K:AV->Prop)
  (p:∀g:G,g.nt=fn.ntmps->AW P g c (agL P fn.results.toList K) ⟨dV 0 k,[]⟩) :
  Calls P f args.toArray W (fun e w'=>∃v r H γ m,e=.returned v/\K r/\AR w' H γ m r v/\Below W.heap.size W w'):=by
 let g1:G:=⟨fn.ntmps,W,snap W,fun _=>0,fun _=>none,none,[]⟩
 refine calls_of_wp hf hb (Code.wp_mono (fun e a' w' hl=>?_) (p g1 rfl _ W ⟨snap W,fun _=>.blk 0,fun _ _=>0,?_⟩))
 ·obtain⟨s',hq,H',γ',F',hX'⟩:=hl;have fin:wK P s' fn.results.toList K->a'.defers=[]/\∃v,(results fn a'.tmps).run P w'=.ok v w'/\∃v0 r H γ m,Ending.returned v=.returned v0/\K r/\AR w' H γ m r v0/\Below W.heap.size W w':=by
   intro hq;obtain⟨y,v,s2,A,I,u,q,D,E,C⟩:=F7 hX' rfl hq;have d:=q.fr
   dsimp only[g1]at d;exact⟨q.df.1,y,u,y,v.map T.canon,A,γ',s2.m,rfl,C,iK fu D,⟨d.os,d.tape,d.output,d.size,fun b hb=>d.block b hb rfl⟩⟩
  cases e with
  |normal=>exact fin hq
  |ret=>exact fin hq
  |_=>exact hq.elim
 ·refine⟨⟨fun b o y h=>acO b o y h,fun x hx=>by grind,by simp,fun b=>ajW _,fun b hb=>absurd rfl hb,fun b hb=>absurd rfl hb⟩,⟨ai0 _,rfl,rfl,rfl,fun _ _ _=>rfl,fun _ _ _ h=>h,fun b o h2 h3=>absurd h3 h2,fun b hb=>absurd rfl hb,qY⟩,?_,⟨rfl,fun j b e=>by grind,l⟩,fun i=>?_⟩
  ·grind
  ·rw[jv];simp only[ajW,if_true,Nat.sub_zero];cases hi:k[i]? with
   |none=>simp only[Option.getD_none];trivial
   |some v=>
    obtain⟨y,hy,har⟩:=n i v hi;have B:i<args.length:=(akE.1 hy).1
    simp only[akG];have hget:(args.toArray++Array.replicate (fn.ntmps-args.toArray.size) undef).getD i undef=y:=by
     simp_all[akJ]
    grind [G.tv_none]
section
variable {P:Program} {W:World} {γ:Gam}
theorem QS{v:Value}{ds:List D}{cs:Array Value}(hv:v=.agg cs)(hr:Ip (snap W) ds v.cells.toList 0)(hl:v.cells.toList.length=ds.length):AR W (snap W) γ [] (.one (.agg (ds.map T.d))) v:=by
 subst hv;simp only[Value.cells]at hr hl;refine⟨cs,rfl,by grind,tR (by grind) (fun i t b=>?_)⟩;rw[ai4]at b;obtain⟨d,hd,rfl⟩:=ajF.1 b;have a:=(akE.1 hd).1
 obtain⟨y,h1,h2⟩:=tP hr i a;rw[ak2]at h1;have:ds.getD i default=d:=by grind
 rw[this]at h2;exact⟨y,h1,fun _=>rfl,h2⟩
theorem Y9{w:World}{H:FH}{m:Mm}{v:Value}(h:AR w H γ m (o1 cB true) v):v=.bool true:=by
 obtain⟨_,h⟩:=h;exact jl h
end
end Go.Am
end
