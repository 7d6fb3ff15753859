/-
  Part 22: AmRead · AmCall.
-/
import Derived.Test.YteooihiebpbaiaaGreatDoorVk21
import Derived.SizedLaws
set_option linter.unusedSimpArgs false
set_option linter.unusedVariables false
set_option linter.unusedSectionVars false
set_option linter.unnecessarySimpa false
section
namespace Go.Am
def snap(W:World):FH:=fun b o=>(W.cell? ⟨b,o,none⟩).map HV.c
theorem Ah{W:World}{b o:Nat}{y:Value}(h:W.cell? ⟨b,o,none⟩=some y):snap W b o=some (.c y):=by unfold snap;rw[h];rfl
theorem SK{W:World}(b o:Nat)(y:HV)(h:snap W b o=some y):RdV W b o y:=by
 obtain⟨v,hv,rfl⟩:=WW.1 h;exact hv
def Bh(H:FH):List D->List Value->Nat->Prop
 |[],_,_=>True
 |d::r,cs,o=>(∃y,cs[o]? = some y/\FDx H d y)/\Bh H r cs (o+1)
theorem pF{H:FH}:∀{ds:List D}{cs:List Value}{o:Nat},Bh H ds cs o->∀j,j<ds.length->∃y,cs[o+j]? = some y/\FDx H (ds.getD j default) y
 |d::r,cs,o,⟨h,_⟩,0,_=>h
 |d::r,cs,o,⟨_,h⟩,j+1,hj=>by
  obtain⟨y,h1,h2⟩:=pF h j (by simpa using hj);exact⟨y,by rw[<- h1];congr 1;omega,h2⟩
 |[],_,_,_,j,hj=>by simp at hj
theorem IF{H:FH}:∀{ds:List D}{cs:List Value}{o:Nat},(∀j,j<ds.length->∃y,cs[o+j]? = some y/\FDx H (ds.getD j default) y)->Bh H ds cs o
 |[],_,_,_=>trivial
 |d::r,cs,o,h=>⟨h 0 (by simp),IF (fun j hj=>by
   obtain⟨y,h1,h2⟩:=h (j+1) (by simpa using hj);exact⟨y,by rw[<- h1];congr 1;omega,h2⟩)⟩
theorem ak{H:FH}{ds:List D}{cs:List Value}{o n:Nat}(h:Bh H ds ((cs.drop o).take n) 0):Bh H ds cs o:=
 IF fun j hj=>by
  obtain⟨y,h1,h2⟩:=pF h j hj;rw[Xy]at h1;refine⟨y,?_,h2⟩;rw[List.getElem?_take]at h1;split at h1
  ·rw[Xc]at h1;exact h1
  ·cases h1
def Reads(P:Program)(W:World)(t:TypeId){α:Type}(R:α->List D)(ok:α->Prop):Prop:=
 ∀(Hh:Type)(enc:TypeId×Value->Hh)(fuel:Nat)(cs:List Value)(x:DataW Hh×List MemPlace),DataW.trod enc P W 0 (fun _=>true) true fuel t cs=some x ->
  (∀n∈x.1.weights P t,n<=reachBytes)->∃a:α,ok a/\Bh (snap W) (R a) cs 0/\cs.length=(R a).length
def okI(k:IntKind)(n:Int):Prop:=(Lit.int k n).wf=true
def okS(l:List UInt8):Prop:=l.length<=140737488351232
def okL{α:Type}(p:α->Prop)(l:List α):Prop:=l.length<=140737488351232/\∀a∈l,p a
def okB(_:Bool):Prop:=True
theorem fV{α:Type}:∀{l:List α},l.length=2->∃a0 a1,l=[a0,a1]
 |[a0,a1],_=>⟨a0,a1,rfl⟩
theorem LF{α:Type}:∀{l:List α},l.length=3->∃a0 a1 a2,l=[a0,a1,a2]
 |[a0,a1,a2],_=>⟨a0,a1,a2,rfl⟩
theorem rH{α:Type}:∀{l:List α},l.length=4->∃a0 a1 a2 a3,l=[a0,a1,a2,a3]
 |[a0,a1,a2,a3],_=>⟨a0,a1,a2,a3,rfl⟩
theorem yd{α:Type}:∀{l:List α},l.length=5->∃a0 a1 a2 a3 a4,l=[a0,a1,a2,a3,a4]
 |[a0,a1,a2,a3,a4],_=>⟨a0,a1,a2,a3,a4,rfl⟩
theorem LG{α:Type}:∀{l:List α},l.length=6->∃a0 a1 a2 a3 a4 a5,l=[a0,a1,a2,a3,a4,a5]
 |[a0,a1,a2,a3,a4,a5],_=>⟨a0,a1,a2,a3,a4,a5,rfl⟩
section
variable {P:Program} {W:World} {t:TypeId}
theorem fN{k:IntKind}(ht:P.underlying t=some (.int k)):Reads P W t (fun n:Int=>[.int k n]) (okI k):=by
 intro Hh enc fuel cs x h _;obtain⟨n,rfl,rfl,hw⟩:=DataW.trod_int ht h;exact⟨n,hw,⟨⟨_,rfl,0,rfl,hw⟩,trivial⟩,rfl⟩
theorem Ew(ht:P.underlying t=some .bool):Reads P W t (fun b:Bool=>[.bool b]) okB:=by
 intro Hh enc fuel cs x h _;obtain⟨b,rfl,rfl⟩:=DataW.trod_bool ht h;exact⟨b,trivial,⟨⟨_,rfl,0,rfl⟩,trivial⟩,rfl⟩
theorem aM(ht:P.underlying t=some .string):Reads P W t (fun s:List UInt8=>[.str s]) okS:=by
 intro Hh enc fuel cs x h hw;obtain⟨s,rfl,rfl,_⟩:=DataW.trod_string ht h;have hl:s.data.toList.length<=140737488351232:=hw s.data.toList.length (by simp[DataW.weights])
 exact⟨s.data.toList,hl,⟨⟨_,rfl,0,by simp,by unfold BIG;omega⟩,trivial⟩,rfl⟩
theorem xL{α:Type}{p:Nat->α->Prop}:∀n,(∀i,i<n->∃a,p i a)->∃l:List α,l.length=n/\∀i a,l[i]? = some a->p i a
 |0,_=>⟨[],rfl,fun i a h=>by simp at h⟩
 |n+1,h=>by
  obtain⟨l,hl,hp⟩:=xL n (fun i hi=>h i Z1);obtain⟨a,ha⟩:=h n Z1;refine⟨l++[a],by simp[hl],fun i b hb=>?_⟩;rcases W4 i n with hi|hi
  ·rw[X9 Z1]at hb;exact hp i b hb
  ·rw[XT Z1,hl]at hb;have:i-n=0:=by
    rcases W7 (i-n)with h|h
    ·exact h
    ·rw[W8 (by simp;omega)]at hb;cases hb
   rw[this]at hb;simp at hb;have:i=n:=by omega
   subst this;subst hb;exact ha
theorem xK{W:World}{base:Nat}{a:Addr}{n:Nat}{cs:List Value}(h:W.cells? base a n=some cs):cs.length=n/\∀j y,cs[j]? = some y->W.cell? (a.add j)=some y:=by
 unfold World.cells? at h;split at h
 ·have hl:=mapM_some_length h
  rw[X1]at hl;refine⟨hl,fun j y hy=>?_⟩;have hj:j<n:=by
   rw[<- hl];exact(Xh.1 hy).1
  have:=mapM_some_get h j j (by rw[List.getElem?_range hj])
  rw[this,hy]
 ·cases h
theorem sU{Hh:Type}{e:TypeId}:∀{l:List (DataW Hh)}{i:Nat}{d:DataW Hh},l[i]? = some d->∀n∈d.weights P e,n∈DataW.weightsAll P e l
 |d0::l,0,d,h,n,hn=>by
  simp only[Xi,WG]at h;subst h;simp only[DataW.weightsAll,WX];exact .inl hn
 |d0::l,i+1,d,h,n,hn=>by
  simp only[Xx]at h;simp only[DataW.weightsAll,WX];exact .inr (sU h n hn)
 |[],_,_,h,_,_=>by simp at h
theorem aU{e:TypeId}{α:Type}{R:α->List D}{ok:α->Prop}{es:Nat}(ht:P.underlying t=some (.slice e))(hce:P.cellsOf e=es)(hby:1<=P.bytesOf e)(hlen:∀a,(R a).length=es)(hpos:0<es)(he:Reads P W e R ok) :
  Reads P W t (fun l:List α=>[.li (l.map R)]) (okL ok):=by
 intro Hh enc fuel cs x h hw;rcases DataW.trod_slice ht h with⟨rfl,rfl⟩|⟨a,len,cap,elems,rest,n,rfl,rfl,rfl,_,hlc,hcm,hel,hget,_,_⟩
 ·exact⟨[],⟨by simp,by simp⟩,⟨⟨_,rfl,jj⟩,trivial⟩,rfl⟩
 ·rw[hce]at hget;have hweights:∀n∈(DataW.slice (elems.map (·.1)) (rest.map (·.1))).weights P t,n<=reachBytes:=hw
  simp only[DataW.weights,ht]at hweights;have hlenB:len<=140737488351232:=by
   have h1:=hweights _ (XK ..)
   simp only[WJ]at h1;have h2:len*1<=(elems.length+rest.length)*P.bytesOf e:=Nat.mul_le_mul Z1 hby
   unfold reachBytes at h1;omega
  obtain⟨l,hl,hp⟩:=xL (p:=fun i(a0:α)=>ok a0/\∃ci,W.cells? 0 (a.add (i*es)) es=some ci/\Bh (snap W) (R a0) ci 0) len (fun i hi=>by
   have hg:=hget i hi
   have hlt:i<elems.length:=by omega
   rw[WH hlt]at hg;simp only[Xd]at hg;obtain⟨ci,hc,htr⟩:=hg;obtain⟨a0,h1,h2,_⟩:=he Hh enc n ci _ htr (fun m hm=>hweights m (WV _ (Xr _ (sU (i:=i) (by rw[WK,WH hlt];rfl) m hm))));exact⟨a0,h1,ci,hc,h2⟩)
  refine⟨l,⟨by omega,fun a0 ha=>?_⟩,⟨⟨_,rfl,?_⟩,trivial⟩,rfl⟩
  ·obtain⟨i,hi,rfl⟩:=X0.1 ha;exact(hp i _ (WH hi)).1
  ·by_cases h0:len=0
   ·have:l=[]:=Xw Z1
    subst this;subst h0;exact⟨1,some a,cap,rfl,Xq _,Xq _,.inl rfl⟩
   ·have hsp:a.spot=none:=by
     have h00:0<l.length:=by omega
     obtain⟨_,ci,hc,hr⟩:=hp 0 _ (WH h00);obtain⟨hcl,hcg⟩:=xK hc;have hi:0<ci.length:=by omega
     have:=hcg 0 _ (WH hi)
     have:=World.cell?_spot this
     simpa[Addr.add]using this
    obtain⟨b,o,sp⟩:=a;dsimp only at hsp;subst hsp;obtain⟨m,hm⟩:=AF (H:=snap W) (l:=l.map R) (b:=b) (o:=o) (e:=es) (fun i hi=>by
     rw[WJ]at hi;have hg:(l.map R).getD i []=R l[i]:=by simp[List.getD,hi]
     rw[hg];refine⟨hlen _,fun j hj=>?_⟩;obtain⟨_,ci,hc,hr⟩:=hp i _ (WH hi);obtain⟨hcl,hcg⟩:=xK hc;obtain⟨y,h1,h2⟩:=pF hr j (by rw[hlen];exact hj);rw[Xy]at h1;have:=hcg j y h1
     exact⟨y,by rw[cH,cH]at this;exact Ah this,h2⟩)
    refine⟨m+1,kh.2 ⟨some ⟨b,o,none⟩,cap,by rw[WJ,hl],by rw[WJ,hl];exact hlc,by rw[WJ,hl];unfold BIG;omega,.inr ⟨b,o,es,rfl,hm⟩⟩⟩
end
end Go.Am
end

section
namespace Go.Am
open Go.RowKit
theorem D8{P:Program}{f:Nat}{fn:Func}{c:Code}(hf:P.funcs[f]? = some fn)(hb:fn.body=some c)(args:List Value)(avs:List AV)(W:World)(hle:args.length<=fn.ntmps)(hlen:avs.length=args.length)
  (hargs:∀(i:Nat)v,avs[i]? = some v->∃y,args[i]? = some y/\AR W (snap W) (fun _=>.blk 0) [] v y) (hglob:Globs (snap W)) (K:AV->Prop)
  (hbody:∀g:G,g.nt=fn.ntmps->AW P g c (Sz P fn.results.toList K) ⟨bv 0 avs,[]⟩) :
  Calls P f args.toArray W (fun e w'=>∃v r H γ m,e=.returned v/\K r/\AR w' H γ m r v/\Below W.heap.size W w'):=by
 let g1:G:=⟨fn.ntmps,W,snap W,fun _=>0,fun _=>none,none,[]⟩
 refine calls_of_wp hf hb (Code.wp_mono (fun e a' w' hl=>?_) (hbody g1 rfl _ W ⟨snap W,fun _=>.blk 0,fun _ _=>0,?_⟩))
 ·obtain⟨s',hq,H',γ',F',hX'⟩:=hl;have fin:qv P s' fn.results.toList K->a'.defers=[]/\∃v,(results fn a'.tmps).run P w'=.ok v w'/\∃v0 r H γ m,Ending.returned v=.returned v0/\K r/\AR w' H γ m r v0/\Below W.heap.size W w':=by
   intro hq;obtain⟨y,v,s2,H2,F2,e1,e2,e3,e4,e5⟩:=tC hX' rfl hq;have hfr:=e2.fr
   dsimp only[g1]at hfr;exact⟨e2.df.1,y,e1,y,v.map T.canon,H2,γ',s2.m,rfl,e5,dW ct e3,⟨hfr.os,hfr.tape,hfr.output,hfr.size,fun b hb=>hfr.block b hb rfl⟩⟩
  cases e with
  |normal=>exact fin hq
  |ret=>exact fin hq
  |_=>exact hq.elim
 ·refine⟨⟨fun b o y h=>SK b o y h,fun x hx=>by simp at hx,by simp,fun b=>Xq _,fun b hb=>absurd rfl hb,fun b hb=>absurd rfl hb⟩,⟨WN _,rfl,rfl,rfl,fun _ _ _=>rfl,fun _ _ _ h=>h,fun b o h2 h3=>absurd h3 h2,fun b hb=>absurd rfl hb,jE⟩,?_,⟨rfl,fun j b e=>by simp[g1]at e,hglob⟩,fun i=>?_⟩
  ·simp[g1];omega
  ·rw[dF];simp only[Xq,if_true,Yp];cases hi:avs[i]? with
   |none=>simp only[Yh];trivial
   |some v=>
    obtain⟨y,hy,har⟩:=hargs i v hi;have hlt:i<args.length:=(Xh.1 hy).1
    simp only[Xb];have hget:(args.toArray++Array.replicate (fn.ntmps-args.toArray.size) undef).getD i undef=y:=by
     rw[Xf,XD (by simpa using hlt)];simp[hy]
    rw[G.tv_none rfl,hget];exact har
section
variable {P:Program} {W:World} {γ:Gam}
theorem JC{v:Value}{ds:List D}{cs:Array Value}(hv:v=.agg cs)(hr:Bh (snap W) ds v.cells.toList 0)(hl:v.cells.toList.length=ds.length):AR W (snap W) γ [] (.one (.agg (ds.map T.d))) v:=by
 subst hv;simp only[Value.cells]at hr hl;refine⟨cs,rfl,by simpa using hl,pH (by simpa using hl) (fun i t ht=>?_)⟩;rw[WK]at ht;obtain⟨d,hd,rfl⟩:=WW.1 ht;have hlt:=(Xh.1 hd).1
 obtain⟨y,h1,h2⟩:=pF hr i hlt;rw[Xy]at h1;have:ds.getD i default=d:=by rw[List.getD,hd];rfl
 rw[this]at h2;exact⟨y,h1,fun _=>rfl,h2⟩
theorem Qd{w:World}{H:FH}{m:Mm}{v:Value}(h:AR w H γ m (o1 cB true) v):v=.bool true:=by
 obtain⟨_,h⟩:=h;exact gu h
end
end Go.Am
end
