/-
  Part 18: AmPkRc · AmPkR · AmPkY · AmSw · AmPan.
-/
import Derived.Test.YthhkhcolidkemaaGreatDoorCt17
set_option linter.unusedSimpArgs false
set_option linter.unusedVariables false
set_option linter.unusedSectionVars false
set_option linter.unnecessarySimpa false
open Lt
open Go.Proofs.Tryz
open Go.IntKind (i64)
section
namespace Go.Am
open Go
def uG(r:Lt.Read)(dst:List UInt8)(l:List (List UInt8)):Int×Lt.Read:=
 if r.ins=false then(3,r)
 else match ig dst l with
 |none=>(3,r)
 |some x=>if 1024<=r.Long then(2,r)else(0,{ r.block (λb=>{ b with Code:=b.Code++[x] })with Where:=if x.Op=31\/x.Op=34 then 7 else 6,Long:=r.Long+1 })
theorem NB(r:Lt.Read)(l:List (List UInt8))(hp:iS r l)(KK:(Int×Lt.Read)->Prop)(h:KK (bD r l)):GQ r l KK:=by
 obtain⟨hi,hl,hr⟩:=hp;have hr:l.length<=1099511627776:=hr
 have h0:0<l.length:=ak9.2 hl
 obtain⟨hw,⟨w,E,s⟩,_⟩:=id hi;have e0:bD r l=if Lt.sEq l&&!be (Lt.w0 l)then(3,r)else uG r (if Lt.sEq l then Lt.w0 l else []) (if Lt.sEq l then l.drop 2 else l):=rfl
 rw[e0]at h;unfold GQ;dsimp only;refine λo g=>?_
 have key:∀(l':List (List UInt8))(dst:List UInt8),0<l'.length->l'.length<=1099511627776->KK (uG r dst l')->o (l',⟨0,dst,[],[],[],[]⟩):=by
  intro l' dst i D hk;refine g _ ?_;clear g h e0 o;refine⟨⟨by decide,i⟩,?_⟩;simp only[ac,jval,bor,al9,if_true,bu];refine ifk (λhc=>?_) (λhc=>?_)
  .refine kk hk ?_;unfold uG;by_cases c:r.ins=false
   .grind
   rw[if_neg c]
   grind [ig]
  have c:¬ r.ins=false:=by grind
  have J:5<=r.Where:=by grind
  have C:r.Where<=8:=by grind
  have hop:¬ ((Lt.sOp (Lt.w0 l')).2&&((Lt.rOf (Lt.sOp (Lt.w0 l')).1).1.Dst==!decide (dst=[])))=false:=by grind
  clear hc;unfold uG ig at hk;rw[if_neg c,if_neg hop]at hk;have B:l'.getD 0 default=Lt.w0 l':=rfl
  simp only[B];generalize Lt.sOp (Lt.w0 l')=O at hk hop|-;obtain⟨op,q⟩:=O;generalize hfm:(Lt.rOf op).1=m at hk|-;simp only at hk|-
  obtain⟨hf,⟨_,⟨_,y,_⟩,_⟩,_,_,u⟩:=dM hi kQ1;obtain⟨d,A,I,_⟩:=il hi kQ1;have k:r.P.Funcs.length<=5000:=by omega
  have j:r.curF.Blocks.length<=5000:=by omega
  have n:r.curB.Code.length<=5000:=by omega
  have F:r.P.Funcs.getD (r.P.Funcs.length - 1) default=r.curF:=rfl
  have z:r.curF.Blocks.getD (r.curF.Blocks.length - 1) default=r.curB:=rfl
  have l1:∀x:Lt.Instr,([x]:List Lt.Instr).length=1:=λ_=>rfl
  simp only[ba hf k,cc hf,cf hf,Int.toNat_natCast,F,ba d j,cc d,cf d,z,true_and,l1,gy n (show 112<=200 by omega),ac];refine λt e=>?_
  have p:∀nm rest,rest.length<=1099511627776->KK (match(if (br rest false).2&&!(m.Named&&!be nm)&&decide (m.Least<=((br rest false).1.length:Int))&&decide (((br rest false).1.length:Int)<=m.Most)then some ⟨op,dst,nm,(br rest false).1,[],[]⟩else none:Option Lt.Instr)with
    |none=>(3,r)
    |some x=>if 1024<=r.Long then(2,r)else(0,{ r.block (λb=>{ b with Code:=b.Code++[x] })with Where:=if x.Op=31\/x.Op=34 then 7 else 6,Long:=r.Long+1 }))->t (rest,⟨op,dst,nm,[],[],[]⟩):=by
   intro nm rest f a;refine e _ ⟨f,?_⟩;clear e hk;refine ifk (λhc=>kk a ?_) (λhc=>?_)
   .grind
   rw[if_pos (by grind)]at a;refine ifk (λhl=>kk a ?_) (λhl=>?_)
   .grind
   have hl:¬ 1024<=r.Long:=by grind
   have G:i64.wrap (r.Long+1)=r.Long+1:=cN kQ1 kQ1
   simp only[G,and_self,ac,jval,bor];refine λ_ _=>kk a ?_
   show(if 1024<=r.Long then _ else _)=_
   rw[if_neg hl];by_cases v:op=31\/op=34
   .simp_all[Lt.Read.block,Lt.Read.func,Lt.last]
   simp_all[Lt.Read.block,Lt.Read.func,Lt.last]
  clear e
  grind [Bw,ak1,ak3]
 have es:((decide (2 < (l.length:Int)))&&(decide ((l.getD 1 default)=[61])))=Lt.sEq l:=by grind [Lt.sEq]
 refine λK H=>?_
 grind [bu,alE,amT]
theorem X6{r:Lt.Read}{l:List (List UInt8)}(h:(aV r l).1.1=false):aV r l=((false,0),r):=by grind [aV]
theorem Za{r:Lt.Read}{l:List (List UInt8)}(h:(bg r l).1.1=false):bg r l=((false,0),r):=by grind [bg]
theorem US{r:Lt.Read}{l:List (List UInt8)}(h:(aT r l).1.1=false):aT r l=((false,0),r):=by grind [aT]
theorem NF(r:Lt.Read)(l:List (List UInt8))(b:Bool)(hp:KW r l b)(KK:(Int×Lt.Read)->Prop)(h:KK (aG r l b)):GV r l b KK:=by
 have hp:iS r l:=hp
 obtain⟨hi,hl,hr⟩:=id hp;have hr:l.length<=1099511627776:=hr
 have h0:0<l.length:=ak9.2 hl
 have es:((decide (2 < (l.length:Int)))&&(decide ((l.getD 1 default)=[61])))=Lt.sEq l:=by grind [Lt.sEq]
 unfold GV;dsimp only;unfold aG at h;refine λf d=>?_
 have g:=d (Lt.sEq l) ?_
 .grind
 show(if Lt.sEq l=true then _ else _)
 refine ifk (λhs=>⟨hp,?_⟩) (λhs=>⟨⟨by decide,h0⟩,?_⟩)
 .simp_all
 rw[if_neg hs]at h;refine ifk (λhc=>?_) (λhc=>⟨hp,?_⟩)
 .simp only[ac,jval]
  grind
 rw[if_neg (by grind)]at h;by_cases c:(aV r l).1.1=true
 .simp_all[ac]
 rw[if_neg c]at h;have c:=Bool.eq_false_iff.2 c
 rw[c];simp only[X6 c,al9,if_true,am,ac];refine⟨hp,?_⟩;by_cases a:(bg r l).1.1=true
 .simp_all[ac]
 rw[if_neg a]at h;have a:=Bool.eq_false_iff.2 a
 simp only[Za a,al9,if_true,am,ac];refine⟨hp,?_⟩;by_cases e:(aT r l).1.1=true
 .simp_all[ac]
 simp_all[US,ac]
theorem NK(s:List UInt8)(KK:List Lt.RLine×Int×Int->Prop)(h:KK (bQ s)):GZ s KK:=by
 have hb:∀c d:UInt8,decide ((((c.toNat:Nat):Int))=((d.toNat:Nat):Int))=decide (c=d):=λc d=>by grind [UInt8.toNat_inj]
 unfold GZ;dsimp only;unfold bQ at h;refine λhl=>ifk (λhc=>?_) (λhc=>?_)
 .grind
 rw[if_neg (by grind)]at h;have hs:s.length<=4194304:=by grind
 clear hc;simp only[hb];refine ao _ (s.length+1) (λi x=>(i<=s.length/\∃k:Lt.Cut,x=(k.out,k.l,k.w,k.n,k.remark,k.bad,(i:Int))/\(k.out.length<=i/\k.l.length<=i/\k.w.length<=i/\1<=k.n/\k.n<=(i:Int)+1)/\KK (bR (s.drop i) k))\/(i=s.length+1/\∃a b c d e,∃o,x=(o,a,b,c,d,e,(i:Int))/\KK (o,0,0))) (λR i x hi hx D=>?_) (λR x hx=>?_) _ (Or.inl ⟨alJ _,⟨[],[],[],1,false,false⟩,rfl,⟨akK _,akK _,akK _,by decide,by decide⟩,h⟩)
 .rcases hx with⟨hi,k,rfl,⟨k1,k2,k3,k4,k5⟩,hk⟩|⟨y,_⟩
  .simp only[show decide ((i:Int)<=(s.length:Int))=true by grind,if_true,Int.toNat_natCast];refine λ_=>?_
   have w1:i64.wrap ((i:Int)+1)=((i+1:Nat):Int):=ae kQ1
   have K:i64.wrap (k.n+1)=k.n+1:=cN kQ1 kQ1
   rw[w1,K];have hw:∀q:List (List UInt8)->Prop,q k.word.l->aa (α:=List (List UInt8)) (λt=>(k.w.length<=4611686018427387904->if decide (0 < (k.w.length:Int))then((k.l.length+([k.w]:List (List UInt8)).length<=4611686018427387904/\(k.l.length+([k.w]:List (List UInt8)).length)*16<=140737488355328)/\t (k.l++([k.w]:List (List UInt8))))else(t k.l))) q:=by
    intro q h J F hl;refine ifk (λhc=>⟨⟨by grind,by grind⟩,F _ (kk h ?_)⟩) (λhc=>F _ (kk h ?_))
    .grind [Lt.Cut.word]
    unfold Lt.Cut.word;rw[if_pos (by cases L:k.w<;>grind)]
   refine λM r=>?_
   by_cases v:i=s.length\/s.getD i 0=10
   .refine λN A=>?_
    have g:=A true ?_
    .grind
    simp only[alK,akP,if_false,if_true,ac];refine λC f=>hw _ (f (k.word.l,[],k.bad) ?_)
    have m:KK (if k.bad then([],k.n,3)else if i=s.length then(k.line.out,0,0)else bR (s.drop (i+1)) k.line):=by
     by_cases y:i=s.length
     .rw[if_pos y];rw[y,alM]at hk;exact hk
     grind [akX,bR]
    refine ifk (λhb=>?_) (λhb=>?_)
    .grind
    rw[if_neg hb]at m;have p:k.word.l.length<=i+1:=by grind [Lt.Cut.word]
    refine λH z=>?_
    have g2:=z k.line.out ?_
    .refine λ_=>ifk (λhc=>⟨⟨by grind,by grind⟩,kk g2 ?_⟩) (λhc=>kk g2 ?_)
     .grind [Lt.Cut.line]
     unfold Lt.Cut.line;rw[if_pos (by cases L:k.word.l<;>grind)]
    refine r _ (D _ ?_);by_cases y:i=s.length
    .grind
    rw[if_neg y]at m;refine Or.inl ⟨by omega,k.line,rfl,⟨?_,alJ _,alJ _,?_,?_⟩,m⟩
    .grind [Lt.Cut.line]
    .show 1<=k.n+1;omega
    show k.n+1<=((i+1:Nat):Int)+1;omega
   have G:i<s.length:=by omega
   have I:¬ s.getD i 0=10:=λh=>v (Or.inr h)
   have ob:((0:Int)<=(i:Int)/\i<s.length)=True:=by grind
   have m:KK (bR (s.drop (i+1)) (k.byte (s.getD i 0))):=by grind [akX,bR]
   clear hk;have E:decide (((s.getD i 0).toNat:Int) < ((UInt8.toNat 33:Nat):Int))=decide ((s.getD i 0).toNat < 33):=decide_eq_decide.2 (by grind)
   have u:decide (((UInt8.toNat 126:Nat):Int) < ((s.getD i 0).toNat:Int))=decide (126 < (s.getD i 0).toNat):=decide_eq_decide.2 (by grind)
   simp only[show decide ((i:Int)=(s.length:Int))=false by grind,akP,if_false,ob,true_and,ap,ac,show decide (s.getD i 0=10)=false by grind,al9,if_true,jval,bor,E,u];simp only[ap]at hw;refine λ_ C f=>?_
   refine ifk (λhv=>hw _ (f (k.word.l,[],k.bad) (r _ (D _ (Or.inl ?_))))) (λhv=>⟨⟨by grind,by grind⟩,f _ (r _ (D _ (Or.inl ?_)))⟩)
   .refine⟨by omega,k.byte (s.getD i 0),?_,?_,m⟩
    .by_cases j:s.getD i 0=59
     .have B:=decide_eq_true j
      unfold Lt.Cut.byte;simp only[if_pos j,B];rfl
     have e:Lt.Cut.byte k (s.getD i 0)=k.word:=by grind [Lt.Cut.byte]
     have B:=decide_eq_false j
     simp only[e,B];rfl
    have p:k.word.l.length<=i+1:=by grind [Lt.Cut.word]
    by_cases j:s.getD i 0=59
    .unfold Lt.Cut.byte;rw[if_pos j];exact⟨by show k.out.length<=i+1;omega,p,alJ _,k4,by show k.n<=_;omega⟩
    have e:Lt.Cut.byte k (s.getD i 0)=k.word:=by grind [Lt.Cut.byte]
    rw[e];exact⟨by show k.out.length<=i+1;omega,p,alJ _,k4,by show k.n<=_;omega⟩
   grind [Lt.Cut.byte]
  omega
 grind
def Runs:Lt.Read->List (List (List UInt8))->Lt.Read->Prop
 |r,[],a=>r=a
 |r,w::t,a=>∃r1,(∀b,aG r w b=(0,r1))/\Runs r1 t a
theorem da:∀{a b:List (List (List UInt8))}{r r1 r2:Lt.Read},Runs r a r1->Runs r1 b r2->Runs r (a++b) r2
 |[],b,r,r1,r2,h1,h2=>by have:r=r1:=h1;grind
 |w::t,b,r,r1,r2,⟨q,hq,h1⟩,h2=>⟨q,hq,da h1 h2⟩
variable{r1:Lt.Read}
theorem pR{r:Lt.Read}{w:List (List UInt8)}(h:∀b,aG r w b=(0,r1)):Runs r [w] r1:=⟨r1,h,rfl⟩
theorem fu(r:Lt.Read):Runs r [] r:=rfl
theorem tJ:∀(L:List Lt.Line)(n:Int)(b:Bool)(r a:Lt.Read),Runs r (L.map λx=>x.Words) a ->
  cX (numb n L) b r=if a.out then(a.P,0,0)else(⟨false,[],[],[],[]⟩,0,3)
 |[],n,b,r,a,h=>by have:=h;subst this;rfl
 |x::t,n,b,r,a,⟨q,hq,h⟩=>by rw[numb,cX];simp only[hq b];exact tJ t _ _ q a h
theorem ff{r:Lt.Read}:¬ ((false,(0:Int)),r).1.1=true:=λh=>by grind
theorem nK{r:Lt.Read}{l:List (List UInt8)}{b:Bool}(a:Lt.sEq l=false)(hs:¬ Lt.w0 l=tu)(h:aV r l=((true,0),r1)):aG r l b=(0,r1):=by grind [aG]
theorem rE{r:Lt.Read}{l:List (List UInt8)}{b:Bool}(a:Lt.sEq l=false)(hs:¬ Lt.w0 l=tu)(c:aV r l=((false,0),r))(h:bg r l=((true,0),r1)):aG r l b=(0,r1):=by grind [aG]
theorem tx{r:Lt.Read}{l:List (List UInt8)}{b:Bool}(a:Lt.sEq l=false)(hs:¬ Lt.w0 l=tu)(c:aV r l=((false,0),r))(hp:bg r l=((false,0),r))(h:aT r l=((true,0),r1)):aG r l b=(0,r1):=by grind [aG]
theorem Ug{r:Lt.Read}{l:List (List UInt8)}{b:Bool}(hs:¬ Lt.w0 l=tu)(a:aV r l=((false,0),r))(hp:bg r l=((false,0),r))(h:aT r l=((false,0),r)):aG r l b=bD r l:=by grind [aG]
theorem mh{r:Lt.Read}{l:List (List UInt8)}(h1:¬ Lt.w0 l=oY)(h2:¬ Lt.w0 l=mF)(h3:¬ Lt.w0 l=iQ)(h4:¬ Lt.w0 l=gk)(h5:¬ Lt.w0 l=sG):aV r l=((false,0),r):=by grind [aV]
theorem yC{r:Lt.Read}{l:List (List UInt8)}(h1:¬ Lt.w0 l=mG)(h2:¬ Lt.w0 l=B4)(h3:¬ Lt.w0 l=oX)(h4:¬ Lt.w0 l=wH):bg r l=((false,0),r):=by grind [bg]
theorem ZQ{r:Lt.Read}{l:List (List UInt8)}(h1:¬ Lt.w0 l=Lt.kAt)(h2:¬ Lt.w0 l=nC)(h3:¬ Lt.w0 l=kj)(h4:¬ Lt.w0 l=dO)(h5:¬ Lt.w0 l=tj)(h6:¬ Lt.w0 l=sH):aT r l=((false,0),r):=by grind [aT]
theorem MZ{r:Lt.Read}{l:List (List UInt8)}(h:Lt.w0 l=oY):aV r l=((true,(fo r l).1),(fo r l).2):=by grind [aV]
theorem M0{r:Lt.Read}{l:List (List UInt8)}(h:Lt.w0 l=mF):aV r l=((true,(dZ r l).1),(dZ r l).2):=by grind [aV]
theorem Jv{r:Lt.Read}{l:List (List UInt8)}(h:Lt.w0 l=iQ):aV r l=((true,(cW r l).1),(cW r l).2):=by grind [aV]
theorem Ju{r:Lt.Read}{l:List (List UInt8)}(h:Lt.w0 l=gk):aV r l=((true,(cM r l).1),(cM r l).2):=by grind [aV]
theorem Tm{r:Lt.Read}{l:List (List UInt8)}(h:Lt.w0 l=sG):aV r l=((true,(gI r l).1),(gI r l).2):=by grind [aV]
theorem On{r:Lt.Read}{l:List (List UInt8)}(h:Lt.w0 l=mG):bg r l=((true,(dH r l).1),(dH r l).2):=by grind [bg]
theorem Zc{r:Lt.Read}{l:List (List UInt8)}(h:Lt.w0 l=B4):bg r l=((true,(lW r l).1),(lW r l).2):=by grind [bg]
theorem Om{r:Lt.Read}{l:List (List UInt8)}(h:Lt.w0 l=oX):bg r l=((true,(dY r l).1),(dY r l).2):=by grind [bg]
theorem Zb{r:Lt.Read}{l:List (List UInt8)}(h:Lt.w0 l=wH):bg r l=((true,(lM r l).1),(lM r l).2):=by grind [bg]
theorem ZP{r:Lt.Read}{l:List (List UInt8)}(hi:r.ins=true)(h:Lt.w0 l=Lt.kAt):aT r l=((true,(Lt.sAt r l).1),(Lt.sAt r l).2):=by grind [aT]
theorem UT{r:Lt.Read}{l:List (List UInt8)}(hi:r.ins=true)(h:Lt.w0 l=nC):aT r l=((true,(lL r l).1),(lL r l).2):=by grind [aT]
theorem gE{w:List UInt8}(h:Lt.Name w=true):¬ w=[61]:=by rintro rfl;revert h;decide
theorem LI{a:Lt.Arg}(h:bk a=true)(ok:a.ok):¬ aO a=[61]:=by
 have:=nW h ok
 have h2:(dG [61]).2=false:=by decide +kernel
 grind
theorem XL(a b:List UInt8):Lt.sEq [a,b]=false:=rfl
variable{a:List UInt8}
theorem jA{w:List UInt8}{l:List (List UInt8)}(h:¬ w=[61]):Lt.sEq (a::w::l)=false:=by grind [Lt.sEq]
theorem QG(w:List UInt8):mw w=Lt.kind w:=by grind [mw,Lt.kind,bb]
variable{v:Lt.Var}
theorem lS{k:List UInt8}(h1:Lt.Name v.Name=true)(h2:Lt.kind v.Type_=true):cx [k,v.Name,v.Type_]=true:=by grind [cx,bb,QG]
variable{α:Type}
theorem kQ[Inhabited α](l:List α)(x:α)(f:α->α):Lt.last (l++[x]) f=l++[f x]:=by grind [Lt.last]
def stP(s:Bool)(cs:List Lt.Class)(gs:List Lt.Var)(es:List Lt.Extern)(fs:List Lt.Func)(w n:Int):Lt.Read:=⟨⟨s,cs,gs,es,fs⟩,w,n⟩
def stF(p:Lt.Program)(fs:List Lt.Func)(f:Lt.Func)(w n:Int):Lt.Read:=⟨{ p with Funcs:=fs++[f] },w,n⟩
def stB(p:Lt.Program)(fs:List Lt.Func)(f:Lt.Func)(bs:List Lt.Block)(b:Lt.Block)(w n:Int):Lt.Read:=stF p fs { f with Blocks:=bs++[b] } w n
def stI(p:Lt.Program)(fs:List Lt.Func)(f:Lt.Func)(bs:List Lt.Block)(b:Lt.Block)(cs:List Lt.Instr)(x:Lt.Instr)(w n:Int):Lt.Read:=stB p fs f bs { b with Code:=cs++[x] } w n
section
variable (p:Lt.Program) (fs:List Lt.Func) (f:Lt.Func) (bs:List Lt.Block) (b:Lt.Block) (cs:List Lt.Instr) (x:Lt.Instr) (w n:Int)
theorem jC(g:Lt.Func->Lt.Func):(stF p fs f w n).func g=stF p fs (g f) w n:=by grind [Lt.Read.func,stF,kQ]
end
section
variable (p:Lt.Program) (fs:List Lt.Func) (f:Lt.Func) (bs:List Lt.Block) (b:Lt.Block) (cs:List Lt.Instr) (x:Lt.Instr) (w n:Int)
theorem fL(g:Lt.Block->Lt.Block):(stB p fs f bs b w n).block g=stB p fs f bs (g b) w n:=by grind [Lt.Read.block,stB,jC,kQ]
end
section
variable (p:Lt.Program) (fs:List Lt.Func) (f:Lt.Func) (bs:List Lt.Block) (b:Lt.Block) (cs:List Lt.Instr) (x:Lt.Instr) (w n:Int)
theorem ny(g:Lt.Instr->Lt.Instr):(stI p fs f bs b cs x w n).instr g=stI p fs f bs b cs (g x) w n:=by grind [Lt.Read.instr,stI,fL,kQ]
end
section
variable (p:Lt.Program) (fs:List Lt.Func) (f:Lt.Func) (bs:List Lt.Block) (b:Lt.Block) (cs:List Lt.Instr) (x:Lt.Instr) (w n:Int)
theorem oH:(stF p fs f w n).curF=f:=by grind [Lt.Read.curF,stF]
end
section
variable (p:Lt.Program) (fs:List Lt.Func) (f:Lt.Func) (bs:List Lt.Block) (b:Lt.Block) (cs:List Lt.Instr) (x:Lt.Instr) (w n:Int)
theorem ab8:(stB p fs f bs b w n).curB=b:=by grind [Lt.Read.curB,stB,oH]
end
section
variable (p:Lt.Program) (fs:List Lt.Func) (f:Lt.Func) (bs:List Lt.Block) (b:Lt.Block) (cs:List Lt.Instr) (x:Lt.Instr) (w n:Int)
theorem yw:(stI p fs f bs b cs x w n).curI=x:=by grind [Lt.Read.curI,stI,ab8]
end
variable{es:List Lt.Extern}{gs:List Lt.Var}
theorem OU{s:Bool}{cs:List Lt.Class}{fs:List Lt.Func}{w n:Int}{c:List UInt8}(ho:w<=2\/w=9)(hc:Lt.Name c=true)(hl:cs.length < 8) :
  Runs (stP s cs gs es fs w n) [[oY,c]] (stP s (cs++[⟨c,[]⟩]) gs es fs 1 n):=by
 grind [pR,nK,XL,MZ,fo,stP,bb]
theorem sa{l:List Lt.Var}{k:Int}(h:Lt.typed l k=true):∀v∈l,Lt.Name v.Name=true/\Lt.kind v.Type_=true:=by grind [Lt.typed]
theorem xT{s:Bool}{cs:List Lt.Class}{gs:List Lt.Var}{es:List Lt.Extern}{fs:List Lt.Func}{n:Int}:∀(l:List Lt.Var)(c:Lt.Class),(∀v∈l,Lt.Name v.Name=true/\Lt.kind v.Type_=true)->c.Fields.length+l.length<=8 ->
  Runs (stP s (cs++[c]) gs es fs 1 n) (l.map λv=>[mF,v.Name,v.Type_]) (stP s (cs++[{ c with Fields:=c.Fields++l }]) gs es fs 1 n)
 |[],c,_,_=>by simpa using fu _
 |v::l,c,h,hl=>by
  obtain⟨h1,h2⟩:=h v (by simp);have a:c.Fields.length+(l.length+1)<=8:=hl
  have ih:=xT (s:=s) (cs:=cs) (gs:=gs) (es:=es) (fs:=fs) (n:=n) l { c with Fields:=c.Fields++[v] } (λx hx=>h x (by grind)) (by grind)
  refine⟨stP s (cs++[{ c with Fields:=c.Fields++[v] }]) gs es fs 1 n,λb=>nK (jA (gE h1)) (by grind) ?_,by grind⟩;refine(M0 rfl).trans ?_;have:dZ (stP s (cs++[c]) gs es fs 1 n) [mF,v.Name,v.Type_]=(0,stP s (cs++[{ c with Fields:=c.Fields++[v] }]) gs es fs 1 n):=by
   unfold dZ;rw[lS h1 h2];have e:(stP s (cs++[c]) gs es fs 1 n).P.Classes=cs++[c]:=rfl
   rw[e,wC,kQ,if_neg (by show ¬ (decide ((1:Int)=1)&&true)=false;decide),if_neg kQ1];rfl
  grind
theorem xS{s:Bool}{gs:List Lt.Var}{es:List Lt.Extern}{fs:List Lt.Func}{n:Int}:∀(l cs:List Lt.Class)(w:Int),(w<=2\/w=9)->(∀c∈l,dk c=true)->cs.length+l.length<=8 ->
  ∃w',(w'<=2\/w'=9)/\Runs (stP s cs gs es fs w n) ((l.flatMap iL).map λx=>x.Words) (stP s (cs++l) gs es fs w' n)
 |[],cs,w,hw,_,_=>⟨w,hw,by grind [fu]⟩
 |c::l,cs,w,hw,h,hl=>by
  have hc:=h c (by simp)
  unfold dk at hc;simp only[akI]at hc;have hf:=gM (k:=8) hc.2
  have g:cs.length+(l.length+1)<=8:=hl
  obtain⟨w',f,ih⟩:=xS (s:=s) (gs:=gs) (es:=es) (fs:=fs) (n:=n) l (cs++[c]) 1 kQ1 (λx hx=>h x (by grind)) (by grind);refine⟨w',f,?_⟩;have a:=OU (s:=s) (gs:=gs) (es:=es) (fs:=fs) (n:=n) (cs:=cs) hw hc.1 kQ1
  have b:=xT (s:=s) (cs:=cs) (gs:=gs) (es:=es) (fs:=fs) (n:=n) c.Fields ⟨c.Name,[]⟩ (sa hc.2) (by grind)
  have e:((c::l).flatMap iL).map (λx=>x.Words)=([[oY,c.Name]]++c.Fields.map λv=>[mF,v.Name,v.Type_])++(l.flatMap iL).map λx=>x.Words:=by simp_all[iL,Lt.ln,lU]
  rw[e];have d:Runs (stP s (cs++[c]) gs es fs 1 n) ((l.flatMap iL).map λx=>x.Words) (stP s (cs++c::l) gs es fs w' n):=by grind
  exact da (da a b) d
theorem vK{s:Bool}{cs:List Lt.Class}{es:List Lt.Extern}{fs:List Lt.Func}{n:Int}:∀(l gs:List Lt.Var)(w:Int),(w<=2\/w=9)->(∀v∈l,Lt.Name v.Name=true/\Lt.kind v.Type_=true)->gs.length+l.length<=8 ->
  ∃w',(w'<=2\/w'=9)/\Runs (stP s cs gs es fs w n) (l.map λv=>[iQ,v.Name,v.Type_]) (stP s cs (gs++l) es fs w' n)
 |[],gs,w,hw,_,_=>⟨w,hw,by grind [fu]⟩
 |v::l,gs,w,hw,h,hl=>by
  obtain⟨h1,h2⟩:=h v (by simp);have c:gs.length+(l.length+1)<=8:=hl
  obtain⟨w',a,ih⟩:=vK (s:=s) (cs:=cs) (es:=es) (fs:=fs) (n:=n) l (gs++[v]) 2 kQ1 (λx hx=>h x (by grind)) (by grind);refine⟨w',a,stP s cs (gs++[v]) es fs 2 n,λb=>nK (jA (gE h1)) (by grind) ?_,by grind⟩;refine(Jv rfl).trans ?_;have:cW (stP s cs gs es fs w n) [iQ,v.Name,v.Type_]=(0,stP s cs (gs++[v]) es fs 2 n):=by
   unfold cW;rw[lS h1 h2];have ho:(Lt.Read.out (stP s cs gs es fs w n)&&true)=true:=by
    show((decide (w<=2)||decide (w=9))&&true)=true
    grind
   rw[ho,if_neg (by decide),if_neg (by show ¬ 8<=gs.length;omega)];rfl
  grind
theorem vJ{s:Bool}{cs:List Lt.Class}{gs:List Lt.Var}{fs:List Lt.Func}{n:Int}:∀(l es:List Lt.Extern)(w:Int),(w<=2\/w=9)->(∀x∈l,cH x=true)->es.length+l.length<=8 ->
  ∃w',(w'<=2\/w'=9)/\Runs (stP s cs gs es fs w n) (l.map λx=>[gk,x.Name,aQ x.N]) (stP s cs gs (es++l) fs w' n)
 |[],es,w,hw,_,_=>⟨w,hw,by grind [fu]⟩
 |v::l,es,w,hw,h,hl=>by
  have hv:=h v (by simp)
  unfold cH at hv;simp only[akI]at hv;obtain⟨⟨h1,h2⟩,h3⟩:=hv;have c:es.length+(l.length+1)<=8:=hl
  obtain⟨w',a,ih⟩:=vJ (s:=s) (cs:=cs) (gs:=gs) (fs:=fs) (n:=n) l (es++[v]) 2 kQ1 (λx hx=>h x (by grind)) (by grind);refine⟨w',a,stP s cs gs (es++[v]) fs 2 n,λb=>nK (jA (gE h1)) (by grind) ?_,by grind⟩;refine(Ju rfl).trans ?_;have:cM (stP s cs gs es fs w n) [gk,v.Name,aQ v.N]=(0,stP s cs gs (es++[v]) fs 2 n):=by
   unfold cM;have en:bd (Lt.w2 [gk,v.Name,aQ v.N])=(v.N,true):=jV (by grind [Lt.inR])
   have d:Lt.w1 [gk,v.Name,aQ v.N]=v.Name:=rfl
   rw[en,d,bb,h1];have ho:(Lt.Read.out (stP s cs gs es fs w n)&&decide (List.length [gk,v.Name,aQ v.N]=3)&&true&&((v.N,true).2&&decide (0<=(v.N,true).1)&&decide ((v.N,true).1<=8)))=true:=by
    show((decide (w<=2)||decide (w=9))&&true&&true&&(true&&decide (0<=v.N)&&decide (v.N<=8)))=true
    grind
   rw[ho,if_neg (by decide),if_neg (by show ¬ 8<=es.length;omega)];rfl
  grind
theorem UV{p:Lt.Program}{fs:List Lt.Func}{w n:Int}{t:List UInt8}(ho:w<=2\/w=9)(h1:Lt.Name a=true)(h2:Lt.kind t=true)(hl:fs.length < 8) :
  Runs ⟨{ p with Funcs:=fs },w,n⟩ [[sG,a,t]] (stF p fs ⟨a,t,[],[],[]⟩ 3 0):=by
 refine pR λb=>nK (jA (gE h1)) (by grind) ?_
 refine(Tm rfl).trans ?_;have:gI ⟨{ p with Funcs:=fs },w,n⟩ [sG,a,t]=(0,stF p fs ⟨a,t,[],[],[]⟩ 3 0):=by
  unfold gI;rw[lS (v:=⟨a,t⟩) h1 h2];have ho:(Lt.Read.out ⟨{ p with Funcs:=fs },w,n⟩&&true)=true:=by grind
  rw[ho,if_neg (by decide),if_neg (by grind)];rfl
 grind
theorem xW{p:Lt.Program}{fs:List Lt.Func}{n:Int}:∀(l:List Lt.Var)(f:Lt.Func),(∀v∈l,Lt.Name v.Name=true/\Lt.kind v.Type_=true)->f.Params.length+l.length<=6 ->
  Runs (stF p fs f 3 n) (l.map λv=>[mG,v.Name,v.Type_]) (stF p fs { f with Params:=f.Params++l } 3 n)
 |[],f,_,_=>by simpa using fu _
 |v::l,f,h,hl=>by
  obtain⟨h1,h2⟩:=h v (by simp);have a:f.Params.length+(l.length+1)<=6:=hl
  have ih:=xW (p:=p) (fs:=fs) (n:=n) l { f with Params:=f.Params++[v] } (λx hx=>h x (by grind)) (by grind)
  refine⟨stF p fs { f with Params:=f.Params++[v] } 3 n,λb=>rE (jA (gE h1)) (by grind) (mh (by grind) (by grind) (by grind) (by grind) (by grind)) ?_,by grind⟩;refine(On rfl).trans ?_;have:dH (stF p fs f 3 n) [mG,v.Name,v.Type_]=(0,stF p fs { f with Params:=f.Params++[v] } 3 n):=by unfold dH;rw[lS h1 h2,oH,jC,if_neg (by show ¬ (decide ((3:Int)=3)&&true)=false;decide),if_neg kQ1];rfl
  grind
theorem Ek{p:Lt.Program}{fs:List Lt.Func}{n:Int}:∀(l:List Lt.Var)(f:Lt.Func)(w:Int),(w=3\/w=4)->(∀v∈l,Lt.Name v.Name=true/\Lt.kind v.Type_=true)->f.Vars.length+l.length<=1024 ->
  ∃w',(w'=3\/w'=4)/\Runs (stF p fs f w n) (l.map λv=>[B4,v.Name,v.Type_]) (stF p fs { f with Vars:=f.Vars++l } w' n)
 |[],f,w,hw,_,_=>⟨w,hw,by simpa using fu _⟩
 |v::l,f,w,hw,h,hl=>by
  obtain⟨h1,h2⟩:=h v (by simp);have c:f.Vars.length+(l.length+1)<=1024:=hl
  obtain⟨w',a,ih⟩:=Ek (p:=p) (fs:=fs) (n:=n) l { f with Vars:=f.Vars++[v] } 4 (.inr rfl) (λx hx=>h x (by grind)) (by grind);refine⟨w',a,stF p fs { f with Vars:=f.Vars++[v] } 4 n,λb=>rE (jA (gE h1)) (by grind) (mh (by grind) (by grind) (by grind) (by grind) (by grind)) ?_,by grind⟩;refine(Zc rfl).trans ?_;have:lW (stF p fs f w n) [B4,v.Name,v.Type_]=(0,stF p fs { f with Vars:=f.Vars++[v] } 4 n):=by
   unfold lW;have ho:((decide ((stF p fs f w n).Where=3)||decide ((stF p fs f w n).Where=4))&&true)=true:=by
    show((decide (w=3)||decide (w=4))&&true)=true
    grind
   rw[lS h1 h2,oH,jC,ho,if_neg (by decide),if_neg kQ1];rfl
  grind
theorem OT{p:Lt.Program}{fs:List Lt.Func}{f:Lt.Func}{w n:Int}(hw:w=3\/w=4\/w=9)(h1:Lt.Name a=true)(hl:f.Blocks.length < 256) :
  Runs (stF p fs f w n) [[oX,a]] (stB p fs f f.Blocks ⟨a,[],[],⟨0,⟨0,[],0⟩,[],0⟩⟩ 5 n):=by
 refine pR λb=>rE (XL _ _) (by grind) (mh (by grind) (by grind) (by grind) (by grind) (by grind)) ?_
 grind [Om,dY,stF,stB,bb,oH,jC]
theorem Oo{x:Lt.Phi}(h:Lt.phi x=true)(ok:x.ok):aA (Cm x) 2 false=(x.Ins.map λi=>⟨i.Block,i.A⟩,true):=by
 obtain⟨_,_,_,h4⟩:=Oq h;unfold aA Cm;have a:=tH (objs:=false) (l:=x.Ins.map λi=>⟨i.Block,i.A⟩) (by
  intro b hb;obtain⟨i,hi,rfl⟩:=ak5.1 hb;have:=h4 i hi
  unfold oS at this;simp only[akI]at this;exact⟨this.1,this.2,ok.2 i hi⟩)
 grind [List.flatMap_map]
theorem WJ(l:List Lt.In):(l.map λi=>(⟨i.Block,i.A⟩:Lt.Bind)).map (λx=>(⟨x.Name,x.A⟩:Lt.In))=l:=by rw[alW];exact List.map_id _
theorem Ej{p:Lt.Program}{fs:List Lt.Func}{f:Lt.Func}{bs:List Lt.Block}:∀(l:List Lt.Phi)(b:Lt.Block)(n:Nat),(∀x∈l,Lt.phi x=true/\x.ok)->n+l.length<=1024 ->
  Runs (stB p fs f bs b 5 n) (l.map Cm) (stB p fs f bs { b with Phis:=b.Phis++l } 5 ((n+l.length:Nat):Int))
 |[],b,n,_,_=>by simpa using fu _
 |x::l,b,n,h,hl=>by
  obtain⟨h1,a⟩:=h x (by simp);obtain⟨hd,g,d,_⟩:=Oq h1;have e:n+(l.length+1)<=1024:=hl
  have ih:=Ej (p:=p) (fs:=fs) (f:=f) (bs:=bs) l { b with Phis:=b.Phis++[x] } (n+1) (λy hy=>h y (by grind)) kQ1
  refine⟨stB p fs f bs { b with Phis:=b.Phis++[x] } 5 ((n+1:Nat):Int),λc=>rE (jA (gE hd)) (by show ¬ wH=tu;decide) (mh (by show ¬ wH=_;decide) (by show ¬ wH=_;decide) (by show ¬ wH=_;decide) (by show ¬ wH=_;decide) (by show ¬ wH=_;decide)) ?_,by grind⟩;refine(Zb rfl).trans ?_;have:lM (stB p fs f bs b 5 n) (Cm x)=(0,stB p fs f bs { b with Phis:=b.Phis++[x] } 5 ((n+1:Nat):Int)):=by
   unfold lM;rw[Oo h1 a,bb];have ho:(decide ((stB p fs f bs b 5 (n:Int)).Where=5)&&((x.Ins.map λi=>(⟨i.Block,i.A⟩:Lt.Bind)),true).2&&!decide ((((x.Ins.map λi=>(⟨i.Block,i.A⟩:Lt.Bind)),true)).1.length=0)&&Lt.Name (Lt.w1 (Cm x)))=true:=by
    show(true&&true&&!decide ((x.Ins.map λi=>(⟨i.Block,i.A⟩:Lt.Bind)).length=0)&&Lt.Name x.Dst)=true
    grind
   rw[ho,if_neg (by decide),if_neg (by
    show ¬ (256 < (x.Ins.map λi=>(⟨i.Block,i.A⟩:Lt.Bind)).length\/1024<=(n:Int))
    grind),fL]
   simp only[WJ];rfl
  grind
def fi(i:Lt.Instr):List (List UInt8):=(Lt.Of i.Op).1.Word::(if i.Op=26\/i.Op=27 then(Lt.puts i.Args).getD 0 default::i.Name::(Lt.puts i.Args).drop 1 else(if(Lt.Of i.Op).1.Named then [i.Name]else [])++Lt.puts i.Args)
theorem Z4(i:Lt.Instr):Lt.words i=(if(Lt.Of i.Op).1.Dst then [i.Dst,[61]]else [])++fi i:=by grind [Lt.words,fi]
theorem bare(i:Lt.Instr)(h:Lt.instr i=true)(ok:i.ok):ig i.Dst (fi i)=some { i with Frames:=[],Objs:=[] }:=by
 have ho:=iP h
 obtain⟨_,k,f,l,d,j⟩:=pf i.Op;have hop:=ad9 ho.of
 have b:=Ec ho.aok ok.1
 unfold ig;have e:Lt.w0 (fi i)=(Lt.Of i.Op).1.Word:=rfl
 simp only[bb];have c:((Lt.Of i.Op).1.Dst==!decide (i.Dst=[]))=true:=by rw[ho.dst];simp
 have hr:Bw i.Op (fi i)=some (i.Name,Lt.puts i.Args):=by
  unfold Bw;by_cases hc:i.Op=26\/i.Op=27
  .have hl:=ho.least hc
   rw[if_pos hc];unfold fi;rw[if_pos hc];cases g:i.Args with
   |nil=>grind
   |cons a r=>rfl
  grind [fi,InstrOk.nm]
 grind [InstrOk.nmN,InstrOk.lo,InstrOk.hi]
theorem ahQ{op:Int}(h:(Lt.Of op).2=true)(hd:(Lt.Of op).1.Dst=false):op=27\/op=30\/op=33\/op=34:=by
 by_cases hc:1<=op/\op<=34
 .grind [Lt.Of]
 rw[<- (pf op).1]at h
 grind [Lt.rOf]
variable{objs:Bool}
theorem Zr{l:List Lt.Arg}(h:cb l objs=true)(ok:wg l):∀w∈Lt.puts l,¬ w=[61]:=by
 intro w hw;obtain⟨a,b,rfl⟩:=ak5.1 hw;have:=akZ.1 h a b
 unfold bw at this;simp only[akI]at this;exact LI this.1 (ok a b)
variable{i:Lt.Instr}
theorem ag4(h:Lt.instr i=true)(ok:i.ok):Lt.sEq (fi i)=false:=by
 have ho:=iP h
 have hp:=Zr ho.aok ok.1
 grind [fi,InstrOk.least,Lt.puts,gE,InstrOk.nmN,Lt.sEq]
theorem UU{p:Lt.Program}{fs:List Lt.Func}{f:Lt.Func}{bs:List Lt.Block}{b:Lt.Block}{w:Int}{n:Nat}(hw:5<=w/\w<=8)(h:Lt.instr i=true)(ok:i.ok)(hl:n+1<=1024) :
  Runs (stB p fs f bs b w n) [Lt.words i] (stI p fs f bs b b.Code { i with Frames:=[],Objs:=[] } (if i.Op=31\/i.Op=34 then 7 else 6) ((n+1:Nat):Int)):=by
 have ho:=iP h
 have hb:=bare i h ok
 have a:(stB p fs f bs b w (n:Int)).ins=true:=by
  show(decide (5<=w)&&decide (w<=8))=true
  grind
 refine pR λc=>?_
 rw[Z4];cases hd:(Lt.Of i.Op).1.Dst with
 |true=>
  rw[if_pos rfl];have hN:=ho.dstN hd
  have d:Lt.sEq ([i.Dst,[61]]++fi i)=true:=by rfl
  unfold aG;rw[d,if_pos rfl];unfold bD;have e0:Lt.w0 ([i.Dst,[61]]++fi i)=i.Dst:=rfl
  have j:([i.Dst,[61]]++fi i).drop 2=fi i:=rfl
  rw[d,e0,bb,hN,a,if_neg (by decide),if_neg (by decide),if_pos rfl,if_pos rfl,j,hb];simp only
  rw[if_neg (by show ¬ (1024:Int)<=(n:Int);omega),fL];rfl
 |false=>
  rw[if_neg (by decide),amM];have d:=ag4 h ok
  have g:i.Dst=[]:=by grind [InstrOk.dst]
  have e0:Lt.w0 (fi i)=(Lt.Of i.Op).1.Word:=rfl
  have hk:∀k∈[tu,oY,mF,iQ,gk,sG,mG,B4,oX,wH,Lt.kAt,nC,kj,dO,tj,sH],¬ Lt.w0 (fi i)=k:=by rw[e0];rcases ahQ ho.of hd with e|e|e|e<;>rw[e]<;>decide +kernel
  rw[Ug (hk _ (by simp)) (mh (hk _ (by simp)) (hk _ (by simp)) (hk _ (by simp)) (hk _ (by simp)) (hk _ (by simp))) (yC (hk _ (by simp)) (hk _ (by simp)) (hk _ (by simp)) (hk _ (by simp))) (ZQ (hk _ (by simp)) (hk _ (by simp)) (hk _ (by simp)) (hk _ (by simp)) (hk _ (by simp)) (hk _ (by simp)))];unfold bD;rw[d,a,amA,if_neg (by decide),if_neg (by decide),if_neg (by decide),if_neg (by decide)];rw[g]at hb;rw[hb];simp only
  rw[if_neg (by show ¬ (1024:Int)<=(n:Int);omega),fL];simp only[g];rfl
theorem Jh{x:Lt.Frame}(h:Lt.frame x=true)(ok:x.ok):aA (j0 x) 4 true=(x.Vars,true):=by
 obtain⟨_,_,_,_,_,h4⟩:=Ag h;unfold aA j0;have a:=tH (objs:=true) (l:=x.Vars) (by
  intro b hb;have:=h4 b hb
  unfold ji at this;simp only[akI]at this;exact⟨this.1,this.2,ok.2 b hb⟩)
 grind
theorem xU{p:Lt.Program}{fs:List Lt.Func}{f:Lt.Func}{bs:List Lt.Block}{b:Lt.Block}{cs:List Lt.Instr}{n:Int}:∀(l:List Lt.Frame)(i:Lt.Instr),(∀x∈l,Lt.frame x=true/\x.ok)->i.Frames.length+l.length<=16 ->
  Runs (stI p fs f bs b cs i 7 n) (l.map j0) (stI p fs f bs b cs { i with Frames:=i.Frames++l } 7 n)
 |[],i,_,_=>by simpa using fu _
 |x::l,i,h,hl=>by
  obtain⟨h1,a⟩:=h x (by simp);obtain⟨hf,hb,k,g,e,_⟩:=Ag h1;have ih:=xU (p:=p) (fs:=fs) (f:=f) (bs:=bs) (b:=b) (cs:=cs) (n:=n) l { i with Frames:=i.Frames++[x] } (λy hy=>h y (by grind)) (by grind)
  refine⟨stI p fs f bs b cs { i with Frames:=i.Frames++[x] } 7 n,λc=>tx (jA (gE hf)) (by show ¬ Lt.kAt=tu;decide) (mh (by show ¬ Lt.kAt=_;decide) (by show ¬ Lt.kAt=_;decide) (by show ¬ Lt.kAt=_;decide) (by show ¬ Lt.kAt=_;decide) (by show ¬ Lt.kAt=_;decide)) (yC (by show ¬ Lt.kAt=_;decide) (by show ¬ Lt.kAt=_;decide) (by show ¬ Lt.kAt=_;decide) (by show ¬ Lt.kAt=_;decide)) ?_,by grind⟩;refine(ZP (by rfl) rfl).trans ?_;have:Lt.sAt (stI p fs f bs b cs i 7 n) (j0 x)=(0,stI p fs f bs b cs { i with Frames:=i.Frames++[x] } 7 n):=by
   unfold Lt.sAt;have en:bd (Lt.w3 (j0 x))=(x.At,true):=jV (by grind [Lt.inR])
   have d:Lt.w1 (j0 x)=x.Func:=rfl
   have j:Lt.w2 (j0 x)=x.Block:=rfl
   rw[Jh h1 a,bb,bb,en,d,j,hf,hb,yw,ny];have ho:(decide ((stI p fs f bs b cs i 7 n).Where=7)&&(x.Vars,true).2&&true&&true&&((x.At,true).2&&decide (0<=(x.At,true).1)&&decide ((x.At,true).1<=1024)))=true:=by
    show(true&&true&&true&&true&&(true&&decide (0<=x.At)&&decide (x.At<=1024)))=true
    grind
   rw[ho,if_neg (by decide),if_neg (by grind)]
  grind
theorem Ei{p:Lt.Program}{fs:List Lt.Func}{f:Lt.Func}{bs:List Lt.Block}{b:Lt.Block}{cs:List Lt.Instr}{n:Int}:∀(l:List Lt.Virt)(i:Lt.Instr)(w:Int),(w=7\/w=8)->(∀x∈l,Lt.virt x=true/\x.ok)->i.Objs.length+l.length<=99 ->
  ∃w',(w'=7\/w'=8)/\Runs (stI p fs f bs b cs i w n) (l.map qM) (stI p fs f bs b cs { i with Objs:=i.Objs++l } w' n)
 |[],i,w,hw,_,_=>⟨w,hw,by simpa using fu _⟩
 |x::l,i,w,hw,h,hl=>by
  obtain⟨h1,e⟩:=h x (by simp);obtain⟨hc,h8,hv⟩:=Rj h1;have g:i.Objs.length+(l.length+1)<=99:=hl
  obtain⟨w',a,ih⟩:=Ei (p:=p) (fs:=fs) (f:=f) (bs:=bs) (b:=b) (cs:=cs) (n:=n) l { i with Objs:=i.Objs++[x] } 8 (.inr rfl) (λy hy=>h y (by grind)) (by grind);refine⟨w',a,stI p fs f bs b cs { i with Objs:=i.Objs++[x] } 8 n,λc=>tx (jA (gE hc)) (by show ¬ nC=tu;decide) (mh (by show ¬ nC=_;decide) (by show ¬ nC=_;decide) (by show ¬ nC=_;decide) (by show ¬ nC=_;decide) (by show ¬ nC=_;decide)) (yC (by show ¬ nC=_;decide) (by show ¬ nC=_;decide) (by show ¬ nC=_;decide) (by show ¬ nC=_;decide)) ?_,by grind⟩;have d:(stI p fs f bs b cs i w n).ins=true:=by
   show(decide (5<=w)&&decide (w<=8))=true
   grind
  refine(UT d rfl).trans ?_;have:lL (stI p fs f bs b cs i w n) (qM x)=(0,stI p fs f bs b cs { i with Objs:=i.Objs++[x] } 8 n):=by
   unfold lL;have k:(qM x).drop 2=Lt.puts x.Vals:=rfl
   have j:Lt.w1 (qM x)=x.Class:=rfl
   have el:(qM x).length=x.Vals.length+2:=by simp[qM,Lt.puts]
   rw[k,Ec hv e,bb,j,hc,yw,ny,el];have ho:(decide (7<=(stI p fs f bs b cs i w n).Where)&&decide (2<=x.Vals.length+2)&&decide (x.Vals.length+2<=10)&&true&&(x.Vals,true).2)=true:=by
    show(decide (7<=w)&&decide (2<=x.Vals.length+2)&&decide (x.Vals.length+2<=10)&&true&&true)=true
    grind
   rw[ho,if_neg (by decide),if_neg kQ1];rfl
  grind
theorem Lr{p:Lt.Program}{fs:List Lt.Func}{f:Lt.Func}{bs:List Lt.Block}{b:Lt.Block}{w:Int}{n:Nat}(hw:5<=w/\w<=8)(h:Lt.instr i=true)(ok:i.ok)(hl:n+1<=1024) :
  ∃w',(5<=w'/\w'<=8)/\Runs (stB p fs f bs b w n) ((ll i).map λx=>x.Words) (stB p fs f bs { b with Code:=b.Code++[i] } w' ((n+1:Nat):Int)):=by
 have ho:=iP h
 have a:=UU (p:=p) (fs:=fs) (f:=f) (bs:=bs) (b:=b) hw h ok hl
 have e:(ll i).map (λx=>x.Words)=[Lt.words i]++(i.Frames.map j0++i.Objs.map qM):=by simp[ll,Lt.ln,Function.comp_def]
 rw[e];by_cases hc:i.Op=31\/i.Op=34
 .rw[if_pos hc]at a;have b1:=xU (p:=p) (fs:=fs) (f:=f) (bs:=bs) (b:=b) (cs:=b.Code) (n:=((n+1:Nat):Int)) i.Frames { i with Frames:=[],Objs:=[] } (λx hx=>⟨ho.fr x hx,ok.2.1 x hx⟩) (by simpa using ho.frames)
  obtain⟨w',j,b2⟩:=Ei (p:=p) (fs:=fs) (f:=f) (bs:=bs) (b:=b) (cs:=b.Code) (n:=((n+1:Nat):Int)) i.Objs { i with Objs:=[] } 7 (.inl rfl) (λx hx=>⟨ho.ob x hx,ok.2.2 x hx⟩) (by simpa using ho.objs);exact⟨w',by omega,da a (da b1 b2)⟩
 rw[if_neg hc]at a;obtain⟨d,c⟩:=ho.none kQ1;refine⟨6,by omega,?_⟩;have g:({ i with Frames:=[],Objs:=[] }:Lt.Instr)=i:=by rw[<- d,<- c]
 rw[g]at a;rw[d,c];exact a
theorem BE{p:Lt.Program}{fs:List Lt.Func}{f:Lt.Func}{bs:List Lt.Block}:∀(l:List Lt.Instr)(b:Lt.Block)(w:Int)(n:Nat),(5<=w/\w<=8)->(∀i∈l,Lt.instr i=true/\i.ok)->n+l.length<=1024 ->
  ∃w',(5<=w'/\w'<=8)/\Runs (stB p fs f bs b w n) ((l.flatMap ll).map λx=>x.Words) (stB p fs f bs { b with Code:=b.Code++l } w' ((n+l.length:Nat):Int))
 |[],b,w,n,hw,_,_=>⟨w,hw,by simpa using fu _⟩
 |i::l,b,w,n,hw,h,hl=>by
  obtain⟨h1,c⟩:=h i (by simp);have d:n+(l.length+1)<=1024:=hl
  obtain⟨w1,hw1,a⟩:=Lr (p:=p) (fs:=fs) (f:=f) (bs:=bs) (b:=b) hw h1 c (n:=n) kQ1;obtain⟨w2,g,ih⟩:=BE (p:=p) (fs:=fs) (f:=f) (bs:=bs) l { b with Code:=b.Code++[i] } w1 (n+1) hw1 (λy hy=>h y (by grind)) kQ1;have e:n+1+l.length=n+(i::l).length:=by grind
  rw[e]at ih
  grind [da]
variable{t:Lt.Term}
theorem ZV(h:fJ t=true)(ok:t.ok):fC (ko t)=some t:=by
 rcases rj h with⟨x,rfl,h1⟩|⟨a,x,y,rfl,h1,h2,h3⟩|⟨a,rfl,h1⟩|⟨n,rfl⟩
 .grind [ko,fC,bb]
 .have e:ko ⟨2,a,[x,y],0⟩=[dO,aO a,x,y]:=by rfl
  have b:=nW (by grind [bw]) ok.1
  rw[e];unfold fC;rw[if_neg (by grind),if_pos (show Lt.w0 [dO,aO a,x,y]=dO from rfl),bb,bb,if_pos (by
   show(true&&(Lt.Name x&&Lt.Name y)&&dC false (aO a))=true
   rw[h2,h3,q9 h1 ok.1];rfl)]
  grind [aO]
 .have e:ko ⟨3,a,[],0⟩=[tj,aO a]:=by rfl
  have b:=nW (by grind [bw]) ok.1
  rw[e];unfold fC;rw[if_neg (by grind),if_neg (by grind),if_pos (show Lt.w0 [tj,aO a]=tj from rfl),if_pos (by
   show(true&&dC false (aO a))=true
   rw[q9 h1 ok.1];rfl)]
  grind
 have e:ko ⟨4,⟨0,[],0⟩,[],n⟩=[sH,aQ n]:=by rfl
 have b:=jV ok.2
 grind [fC]
theorem ZR{p:Lt.Program}{fs:List Lt.Func}{f:Lt.Func}{bs:List Lt.Block}{b:Lt.Block}{w n:Int}(hw:5<=w/\w<=8)(h:fJ t=true)(ok:t.ok) :
  Runs (stB p fs f bs b w n) [ko t] (stB p fs f bs { b with End:=t } 9 n):=by
 have g:(stB p fs f bs b w n).ins=true:=by
  show(decide (5<=w)&&decide (w<=8))=true
  grind
 have key:lK (stB p fs f bs b w n) (ko t)=(0,stB p fs f bs { b with End:=t } 9 n):=by unfold lK;rw[ZV h ok];simp only[fL];rfl
 have hk:Lt.sEq (ko t)=false/\(Lt.w0 (ko t)=kj\/Lt.w0 (ko t)=dO\/Lt.w0 (ko t)=tj\/Lt.w0 (ko t)=sH):=by
  rcases rj h with⟨x,rfl,h1⟩|⟨a,x,y,rfl,h1,h2,h3⟩|⟨a,rfl,h1⟩|⟨n,rfl⟩
  .exact⟨rfl,.inl rfl⟩
  .unfold bw at h1;simp only[akI]at h1;exact⟨jA (LI h1.1 ok.1),.inr (.inl rfl)⟩
  .exact⟨rfl,.inr (.inr (.inl rfl))⟩
  exact⟨rfl,.inr (.inr (.inr rfl))⟩
 obtain⟨d,hk⟩:=hk;have hn:∀k∈[tu,oY,mF,iQ,gk,sG,mG,B4,oX,wH,Lt.kAt,nC],¬ Lt.w0 (ko t)=k:=by rcases hk with e|e|e|e<;>rw[e]<;>decide
 refine pR λc=>tx d (hn _ (by simp)) (mh (hn _ (by simp)) (hn _ (by simp)) (hn _ (by simp)) (hn _ (by simp)) (hn _ (by simp))) (yC (hn _ (by simp)) (hn _ (by simp)) (hn _ (by simp)) (hn _ (by simp))) ?_
 grind [aT]
theorem Lq{p:Lt.Program}{fs:List Lt.Func}{f:Lt.Func}{w:Int}{n:Nat}{b:Lt.Block}(hw:w=3\/w=4\/w=9)(h:Lt.block b=true)(ok:b.ok)(hb:f.Blocks.length < 256)(hl:n+(b.Phis.length+b.Code.length)<=1024) :
  Runs (stF p fs f w n) ((dV b).map λx=>x.Words) (stF p fs { f with Blocks:=f.Blocks++[b] } 9 ((n+(b.Phis.length+b.Code.length):Nat):Int)):=by
 obtain⟨hn,d,hp,hc⟩:=zA h;obtain⟨o1,o2,o3⟩:=ok;have c:=OT (p:=p) (fs:=fs) (f:=f) (n:=(n:Int)) hw hn hb
 have g:=Ej (p:=p) (fs:=fs) (f:=f) (bs:=f.Blocks) b.Phis ⟨b.Name,[],[],⟨0,⟨0,[],0⟩,[],0⟩⟩ n (λx hx=>⟨hp x hx,o1 x hx⟩) kQ1
 obtain⟨w',a,a3⟩:=BE (p:=p) (fs:=fs) (f:=f) (bs:=f.Blocks) b.Code ⟨b.Name,b.Phis,[],⟨0,⟨0,[],0⟩,[],0⟩⟩ 5 (n+b.Phis.length) kQ1 (λx hx=>⟨hc x hx,o2 x hx⟩) kQ1;have a4:=ZR (p:=p) (fs:=fs) (f:=f) (bs:=f.Blocks) (b:=⟨b.Name,b.Phis,b.Code,⟨0,⟨0,[],0⟩,[],0⟩⟩) (n:=((n+b.Phis.length+b.Code.length:Nat):Int)) a d o3
 have e:(dV b).map (λx=>x.Words)=[[oX,b.Name]]++(b.Phis.map Cm++((b.Code.flatMap ll).map (λx=>x.Words)++[ko b.End])):=by simp_all[dV,Lt.ln]
 rw[e,<- Nat.add_assoc];exact da c (da g (da a3 a4))
theorem vI{p:Lt.Program}{fs:List Lt.Func}:∀(l:List Lt.Block)(f:Lt.Func)(w:Int)(n:Nat),(w=3\/w=4\/w=9)->(∀b∈l,Lt.block b=true/\b.ok)->f.Blocks.length+l.length<=256->n+longs l<=1024 ->
  Runs (stF p fs f w n) ((l.flatMap dV).map λx=>x.Words) (stF p fs { f with Blocks:=f.Blocks++l } (if l=[]then w else 9) ((n+longs l:Nat):Int))
 |[],f,w,n,_,_,_,_=>by simp_all[longs,fu]
 |b::l,f,w,n,hw,h,hb,hl=>by
  obtain⟨h1,c⟩:=h b (by simp);have d:f.Blocks.length+(l.length+1)<=256:=hb
  have el:longs (b::l)=(b.Phis.length+b.Code.length)+longs l:=by rfl
  have a:=Lq (p:=p) (fs:=fs) (f:=f) hw h1 c kQ1 (n:=n) kQ1
  have ih:=vI (p:=p) (fs:=fs) l { f with Blocks:=f.Blocks++[b] } 9 (n+(b.Phis.length+b.Code.length)) kQ1 (λy hy=>h y (by grind)) (by grind) kQ1
  grind [da]
theorem OV{p:Lt.Program}{fs:List Lt.Func}{w n:Int}{f:Lt.Func}(hw:w<=2\/w=9)(h:aF f=true)(ok:f.ok)(hl:fs.length < 8) :
  Runs ⟨{ p with Funcs:=fs },w,n⟩ ((gu f).map λx=>x.Words) ⟨{ p with Funcs:=fs++[f] },9,(longs f.Blocks:Int)⟩:=by
 have ho:=yA h
 have a:=UV (p:=p) (fs:=fs) (n:=n) hw ho.name ho.res hl
 have c:=xW (p:=p) (fs:=fs) (n:=0) f.Params ⟨f.Name,f.Result,[],[],[]⟩ (sa ho.params) (by simp_all[gM,FuncOk.params])
 obtain⟨w',d,a3⟩:=Ek (p:=p) (fs:=fs) (n:=0) f.Vars ⟨f.Name,f.Result,f.Params,[],[]⟩ 3 (.inl rfl) (sa ho.vars) (by simp_all[gM,FuncOk.vars]);have a4:=vI (p:=p) (fs:=fs) f.Blocks ⟨f.Name,f.Result,f.Params,f.Vars,[]⟩ w' 0 kQ1 (λb hb=>⟨ho.bl b hb,ok b hb⟩) (by simpa using ho.len) (by simpa using ho.long)
 simp only[if_neg ho.ne,am1]at a4;have e:(gu f).map (λx=>x.Words)=[[sG,f.Name,f.Result]]++(f.Params.map (λv=>[mG,v.Name,v.Type_])++(f.Vars.map (λv=>[B4,v.Name,v.Type_])++(f.Blocks.flatMap dV).map λx=>x.Words)):=by simp[gu,Lt.ln,lU,Function.comp_def]
 rw[e];exact da a (da c (da a3 a4))
theorem xV{p:Lt.Program}:∀(l fs:List Lt.Func)(w n:Int),(w<=2\/w=9)->(∀f∈l,aF f=true/\f.ok)->fs.length+l.length<=8 ->
  ∃w' n',(w'<=2\/w'=9)/\Runs ⟨{ p with Funcs:=fs },w,n⟩ ((l.flatMap gu).map λx=>x.Words) ⟨{ p with Funcs:=fs++l },w',n'⟩
 |[],fs,w,n,hw,_,_=>⟨w,n,hw,by grind [fu]⟩
 |f::l,fs,w,n,hw,h,hl=>by
  obtain⟨h1,b⟩:=h f (by simp);have c:fs.length+(l.length+1)<=8:=hl
  have a:=OV (p:=p) (n:=n) hw h1 b (fs:=fs) kQ1
  obtain⟨w',n',d,ih⟩:=xV (p:=p) l (fs++[f]) 9 (longs f.Blocks) (.inr rfl) (λy hy=>h y (by grind)) (by grind)
  grind [da]
def D8(p:Lt.Program):List Lt.Line:=p.Classes.flatMap iL++lU iQ p.Globals++p.Externs.map rl++p.Funcs.flatMap gu
theorem OW{p:Lt.Program}(h:aY p=true)(ok:p.ok):∃w n,(w<=2\/w=9)/\Runs ⟨⟨p.SSA,[],[],[],[]⟩,0,0⟩ ((D8 p).map λx=>x.Words) ⟨p,w,n⟩:=by
 have ho:=FP h
 obtain⟨w1,hw1,j⟩:=xS (s:=p.SSA) (gs:=[]) (es:=[]) (fs:=[]) (n:=0) p.Classes [] 0 kQ1 ho.cl (by simpa using ho.nc);obtain⟨w2,c,g⟩:=vK (s:=p.SSA) (cs:=p.Classes) (es:=[]) (fs:=[]) (n:=0) p.Globals [] w1 hw1 (sa ho.glob) (by simp_all[gM,ProgOk.glob]);obtain⟨w3,a,a3⟩:=vJ (s:=p.SSA) (cs:=p.Classes) (gs:=p.Globals) (fs:=[]) (n:=0) p.Externs [] w2 c ho.ex (by simpa using ho.ne);obtain⟨i,d,b,a4⟩:=xV (p:=p) p.Funcs [] w3 0 a (λf hf=>⟨ho.fn f hf,ok f hf⟩) (by simpa using ho.nf);refine⟨i,d,b,?_⟩;have e:(D8 p).map (λx=>x.Words)=(p.Classes.flatMap iL).map (λx=>x.Words)++(p.Globals.map (λv=>[iQ,v.Name,v.Type_])++(p.Externs.map (λx=>[gk,x.Name,aQ x.N])++(p.Funcs.flatMap gu).map λx=>x.Words)):=by simp[D8,Lt.ln,lU,rl,Lt.number,Function.comp_def]
 rw[e];exact da j (da g (da a3 a4))
theorem Ol{p:Lt.Program}(h:aY p=true)(ok:p.ok)(hl:(jx p).length<=4194304):dI (jx p)=(p,0,0):=by
 have e:=D2 h
 rw[e]at hl|-;obtain⟨w,n,hw,hr⟩:=OW h ok;have a:(⟨p,w,n⟩:Lt.Read).out=true:=by grind
 unfold dI;rw[OR (Oz h) hl];simp only[if_true];have el:jS p=(if p.SSA then [Lt.ln [tu]]else [])++D8 p:=by grind [jS,D8]
 rw[el];cases hs:p.SSA with
 |true=>
  rw[hs]at hr;show cX (⟨1,[tu]⟩::numb (1+1) (D8 p)) true _=_
  have h1:aG ⟨⟨false,[],[],[],[]⟩,0,0⟩ [tu] true=(0,⟨⟨true,[],[],[],[]⟩,0,0⟩):=rfl
  rw[cX,h1,if_pos rfl,tJ _ _ _ _ _ hr,a];rfl
 |false=>rw[hs]at hr;rw[if_neg (by decide),amM,tJ _ _ _ _ _ hr,a];rfl
theorem AH(bs:List Lt.Block)(b:Lt.Block):longs (bs++[b])=longs bs+(b.Phis.length+b.Code.length):=by simp[longs]
theorem C7:∀(l:List Lt.Block)(n:Nat),n+longs l<=1024->(∀b∈l,Lt.block b=true)->Lt.blocks l n=true
 |[],_,_,_=>rfl
 |b::r,n,h,hb=>by
  have e:longs (b::r)=(b.Phis.length+b.Code.length)+longs r:=by rfl
  rw[Lt.blocks,hb b (by simp),C7 r _ kQ1 (λx hx=>hb x (by grind))]
  grind
def ahH(f:Lt.Func):Prop:=Lt.Name f.Name=true/\Lt.kind f.Result=true/\Lt.typed f.Params 6=true/\Lt.typed f.Vars 1024=true
structure Open (f:Lt.Func) (bs:List Lt.Block) (b:Lt.Block) (w n:Int):Prop where
 hd:ahH f
 len:bs.length+1<=256
 long:n=((longs bs+(b.Phis.length+b.Code.length):Nat):Int)
 most:n<=1024
 bl:bs.all Lt.block=true
 nm:Lt.Name b.Name=true
 ph:b.Phis.all Lt.phi=true
 cd:b.Code.all Lt.instr=true
 fin:w=9->fJ b.End=true
 ins:6<=w->w<=8->∃cs c,b.Code=cs++[c]/\(7<=w->c.Op=31\/c.Op=34)
theorem QR{f:Lt.Func}{bs:List Lt.Block}{b:Lt.Block}{w n:Int}(hw:5<=w)(h:Open f bs b w n):qb { f with Blocks:=bs++[b] } w n:=by
 have hl:=h.long
 have hm:=h.most
 refine⟨h.hd,⟨by simpa using h.len,by omega,hm⟩,λ_=>by omega,λ_=>⟨bs,b,rfl,h.bl,?_,⟨h.nm,h.ph,h.cd⟩,h.fin,h.ins⟩⟩
 grind [longs]
theorem wS{f:Lt.Func}{w n:Int}(hw:5<=w)(h:qb f w n):∃bs b,f.Blocks=bs++[b]/\Open f bs b w n:=by
 obtain⟨h1,⟨h2,h3,h4⟩,_,h5⟩:=h;obtain⟨bs,b,e,hb,hn,⟨k1,k2,k3⟩,hf,hi⟩:=h5 hw;refine⟨bs,b,e,⟨h1,by grind,?_,h4,hb,k1,k2,k3,hf,hi⟩⟩
 grind [longs]
theorem KN{f:Lt.Func}{n:Int}(h:qb f 9 n):aF f=true:=by
 obtain⟨bs,b,e,o⟩:=wS kQ1 h;obtain⟨h1,h2,h3,h4⟩:=o.hd;have hl:=o.long
 have hm:=o.most
 have hn:=o.len
 unfold aF;have hb:∀x∈f.Blocks,Lt.block x=true:=by
  rw[e];intro x hx;rcases akS.1 hx with hx|hx
  .exact akZ.1 o.bl x hx
  grind [Lt.block,Open.nm,Open.fin,Open.ph,Open.cd]
 grind [C7,AH,decide]
theorem vg{r:Lt.Read}(h:Lt.Inv r)(ho:r.out=true):r.P.Funcs.all aF=true:=by
 obtain⟨_,_,_,_,h2,h3⟩:=h
 grind [KN]
theorem Tx{r:Lt.Read}(h:Lt.Inv r)(ho:r.out=true):aY r.P=true:=by
 have hf:=vg h ho
 obtain⟨_,⟨h1,h2,h3⟩,⟨h4,h5,h6⟩,_⟩:=h
 grind [aY]
theorem E5{p:Lt.Program}{fs:List Lt.Func}{f f':Lt.Func}{w w' n n':Int}(h:Lt.Inv (stF p fs f w n))(hw:3<=w)(h1:3<=w')(h2:w'<=9)(hp:qb f' w' n'):Lt.Inv (stF p fs f' w' n'):=by
 obtain⟨_,⟨d,a,a3⟩,⟨a4,a5,g⟩,_,_,c⟩:=h;obtain⟨i,j,e,hf,_⟩:=c hw;obtain⟨b,_⟩:=List.append_inj' e rfl;subst b;refine⟨⟨by show 0<=w';omega,h2⟩,⟨d,a,by show(fs++[f']).length<=8;grind⟩,⟨a4,a5,g⟩,λh=>?_,λh=>?_,λ_=>⟨fs,f',rfl,hf,hp⟩⟩
 .have:w'=1:=h
  omega
 have:w'<=2:=h
 omega
theorem lx{r:Lt.Read}(h:Lt.Inv r)(hw:3<=r.Where):∃p fs f,r=stF p fs f r.Where r.Long/\qb f r.Where r.Long:=by obtain⟨_,_,_,_,_,a⟩:=h;obtain⟨fs,f,e,_,hp⟩:=a hw;refine⟨r.P,fs,f,?_,hp⟩;unfold stF;rw[<- e]
theorem fF{r:Lt.Read}(h:Lt.Inv r)(hw:5<=r.Where):∃p fs f bs b,r=stB p fs f bs b r.Where r.Long/\Open f bs b r.Where r.Long:=by obtain⟨p,fs,f,e,hp⟩:=lx h kQ1;obtain⟨bs,b,a,o⟩:=wS hw hp;refine⟨p,fs,f,bs,b,?_,o⟩;unfold stB;rw[<- a];exact e
theorem uT{p:Lt.Program}{fs:List Lt.Func}{f:Lt.Func}{bs a:List Lt.Block}{b b':Lt.Block}{w w' n n':Int}(h:Lt.Inv (stB p fs f bs b w n))(hw:5<=w)(h1:5<=w')(h2:w'<=9)(o:Open f a b' w' n'):Lt.Inv (stB p fs f a b' w' n'):=E5 h kQ1 kQ1 h2 (QR h1 o)
theorem pv{l:List Lt.Var}{k:Nat}(h:Lt.typed l k=true)(hl:l.length<k)(h1:Lt.Name v.Name=true)(h2:Lt.kind v.Type_=true):Lt.typed (l++[v]) k=true:=by grind [Lt.typed]
theorem lR{l:List (List UInt8)}(h:cx l=true):Lt.Name (Lt.w1 l)=true/\Lt.kind (Lt.w2 l)=true:=by grind [cx,bb,QG]
theorem Ra{l:List α}(h:l≠[]):∃i x,l=i++[x]:=⟨l.dropLast,l.getLast h,(List.dropLast_concat_getLast h).symm⟩
theorem zh{s:Bool}{cs:List Lt.Class}{fs:List Lt.Func}{w n:Int}(h0:0<=w)(h9:w<=9)(e:cs.length<=8)(c:es.length<=8)(a3:fs.length<=8)(a4:Lt.typed gs 8=true)(a5:cs.all dk=true)(g:es.all cH=true)
  (d:w=1->cs≠[]) (b:w<=2->fs.all aF=true) (a9:3<=w->∃a f,fs=a++[f]/\a.all aF=true/\qb f w n):Lt.Inv ⟨⟨s,cs,gs,es,fs⟩,w,n⟩:=⟨⟨h0,h9⟩,⟨e,c,a3⟩,⟨a4,a5,g⟩,d,b,a9⟩
theorem Tu{r:Lt.Read}{l:List (List UInt8)}(h:Lt.Inv r)(hz:(fo r l).1=0):Lt.Inv (fo r l).2:=by
 unfold fo at hz|-;split at hz
 .cases hz
 rename_i a;rw[if_neg a];split at hz
 .cases hz
 rename_i c;rw[if_neg c];simp only[akV,akI,bb]at a;have hf:=vg h a.1.1
 obtain⟨_,⟨e,b,a3⟩,⟨a4,a5,d⟩,_⟩:=h;refine zh (by decide) (by decide) (by grind) b a3 a4 ?_ d (λ_=>by simp) (λ_=>hf) (λh=>absurd h (by decide));rw[List.all_append,a5];simp only[akW];unfold dk;rw[a.2];rfl
theorem Tv{r:Lt.Read}{l:List (List UInt8)}(h:Lt.Inv r)(hz:(dZ r l).1=0):Lt.Inv (dZ r l).2:=by
 unfold dZ at hz|-;split at hz
 .cases hz
 rename_i a;rw[if_neg a];split at hz
 .cases hz
 rename_i d;rw[if_neg d];simp only[akV,akI,decide_eq_true_eq]at a;obtain⟨a,p⟩:=a;obtain⟨g,f⟩:=lR p;obtain⟨a0,⟨q,m,a3⟩,⟨a4,a5,s⟩,o,j,a9⟩:=h;obtain⟨i,c,e⟩:=Ra (o a);rw[e,wC]at d;rw[e]at a5 q;rw[List.all_append]at a5;simp only[akI,akW,amV,and_true]at a5;obtain⟨n,b⟩:=a5;unfold dk at b;simp only[akI]at b;have key:Lt.last r.P.Classes (λc=>{ c with Fields:=c.Fields++[⟨Lt.w1 l,Lt.w2 l⟩] })=i++[{ c with Fields:=c.Fields++[⟨Lt.w1 l,Lt.w2 l⟩] }]:=by rw[e,kQ]
 rw[key];refine zh a0.1 a0.2 (by grind) m a3 a4 ?_ s (λ_=>by simp) j (λh=>by omega)
 .rw[List.all_append,n];unfold dk;have:=pv (k:=8) (v:=⟨Lt.w1 l,Lt.w2 l⟩) b.2 kQ1 g f
  grind
theorem uY{n k:Nat}(h:(if k<=n then(2:Int)else 0)=0):n<k:=by omega
theorem M4{r:Lt.Read}{l:List (List UInt8)}(h:Lt.Inv r)(hz:(cW r l).1=0):Lt.Inv (cW r l).2:=by
 unfold cW at hz|-;split at hz
 .cases hz
 rename_i a;rw[if_neg a];have e:=uY hz
 simp only[akV,akI]at a;obtain⟨c,b⟩:=lR a.2;have hf:=vg h a.1
 obtain⟨_,⟨f,d,a3⟩,⟨a4,a5,g⟩,_⟩:=h;exact zh (w:=2) (by decide) (by decide) f d a3 (pv (k:=8) a4 e c b) a5 g (λh=>absurd h (by decide)) (λ_=>hf) (λh=>absurd h (by decide))
theorem M3{r:Lt.Read}{l:List (List UInt8)}(h:Lt.Inv r)(hz:(cM r l).1=0):Lt.Inv (cM r l).2:=by
 unfold cM at hz|-;split at hz
 .cases hz
 rename_i a;rw[if_neg a];simp only[akV,akI,bb]at a;have hf:=vg h a.1.1.1
 obtain⟨_,⟨b,d,a3⟩,⟨a4,a5,c⟩,_⟩:=h
 grind [zh,cH]
theorem Yg{r:Lt.Read}{l:List (List UInt8)}(h:Lt.Inv r)(hz:(gI r l).1=0):Lt.Inv (gI r l).2:=by
 unfold gI at hz|-;split at hz
 .cases hz
 rename_i a;rw[if_neg a];simp only[akV,akI]at a;obtain⟨c,b⟩:=lR a.2;have hf:=vg h a.1
 obtain⟨_,⟨e,d,a3⟩,⟨a4,a5,f⟩,_⟩:=h;exact zh (w:=3) (n:=0) (by decide) (by decide) e d (by grind) a4 a5 f (λh=>absurd h (by decide)) (λh=>absurd h (by decide)) (λ_=>⟨r.P.Funcs,_,rfl,hf,⟨⟨c,b,by rfl,by rfl⟩,⟨by simp,by decide,by decide⟩,λ_=>⟨rfl,rfl⟩,λh=>absurd h (by decide)⟩⟩)
theorem Tw{r:Lt.Read}{l:List (List UInt8)}(h:Lt.Inv r)(hz:(dH r l).1=0):Lt.Inv (dH r l).2:=by
 unfold dH at hz|-;split at hz
 .cases hz
 rename_i a;have b:=uY hz;simp only[akV,akI,decide_eq_true_eq]at a;obtain⟨a,g⟩:=a;obtain⟨d,c⟩:=lR g;obtain⟨p,fs,f,e,hp⟩:=lx h kQ1;rw[e,oH]at b;rw[e]at h;obtain⟨⟨k1,k2,k3,k4⟩,k5,k6,_⟩:=hp;have key:=E5 (f':={ f with Params:=f.Params++[⟨Lt.w1 l,Lt.w2 l⟩] }) (w':=3) (n':=r.Long) h kQ1 kQ1 kQ1 ⟨⟨k1,k2,pv (k:=6) k3 b d c,k4⟩,k5,λ_=>k6 kQ1,λh=>absurd h (by decide)⟩
 grind [jC]
theorem acY{r:Lt.Read}{l:List (List UInt8)}(h:Lt.Inv r)(hz:(lW r l).1=0):Lt.Inv (lW r l).2:=by
 unfold lW at hz|-;split at hz
 .cases hz
 rename_i a;have b:=uY hz;simp only[akV,akI,decide_eq_true_eq,alO]at a;obtain⟨a,g⟩:=a;obtain⟨d,c⟩:=lR g;obtain⟨p,fs,f,e,hp⟩:=lx h kQ1;rw[e,oH]at b;rw[e]at h;obtain⟨⟨k1,k2,k3,k4⟩,k5,k6,_⟩:=hp;have key:=E5 (f':={ f with Vars:=f.Vars++[⟨Lt.w1 l,Lt.w2 l⟩] }) (w':=4) (n':=r.Long) h kQ1 kQ1 kQ1 ⟨⟨k1,k2,k3,pv (k:=1024) k4 b d c⟩,k5,λ_=>k6 kQ1,λh=>absurd h (by decide)⟩
 grind [stF,jC]
theorem Tr{r:Lt.Read}{l:List (List UInt8)}(h:Lt.Inv r)(hz:(dY r l).1=0):Lt.Inv (dY r l).2:=by
 unfold dY at hz|-;split at hz
 .cases hz
 rename_i c;rw[if_neg c];have d:=uY hz
 simp only[akV,akI,decide_eq_true_eq,alO,bb]at c;obtain⟨⟨c,_⟩,j⟩:=c;obtain⟨p,fs,f,e,hp⟩:=lx h kQ1;rw[e,oH]at d;rw[e]at h;have i:r.func (λf=>{ f with Blocks:=f.Blocks++[⟨Lt.w1 l,[],[],⟨0,⟨0,[],0⟩,[],0⟩⟩] })=stF p fs { f with Blocks:=f.Blocks++[⟨Lt.w1 l,[],[],⟨0,⟨0,[],0⟩,[],0⟩⟩] } r.Where r.Long:=by grind [jC]
 rw[i];have a:f.Blocks.all Lt.block=true/\r.Long=((longs f.Blocks:Nat):Int)/\r.Long<=1024:=by
  by_cases h9:r.Where=9
  .rw[h9]at hp;have hs:=yA (KN hp)
   obtain⟨bs,b,g,o⟩:=wS kQ1 hp;exact⟨akZ.2 hs.bl,by rw[o.long,g,AH],o.most⟩
  obtain⟨_,_,k6,_⟩:=hp;obtain⟨k7,k8⟩:=k6 kQ1;rw[k7,k8];exact⟨rfl,rfl,by decide⟩
 refine E5 h kQ1 kQ1 kQ1 (QR kQ1 ⟨hp.1,by omega,?_,a.2.2,a.1,j,rfl,rfl,λh=>absurd h (by decide),λh=>absurd h (by decide)⟩);show r.Long=_
 grind
theorem pb{l:List (List UInt8)}{k:Int}(h:(aA l k objs).2=true):(∀b∈(aA l k objs).1,Lt.Name b.Name=true/\bw objs b.A=true)/\((aA l k objs).1.flatMap λb=>[b.Name,aO b.A])=l.drop k.toNat:=by grind [aA,xF]
theorem acX{r:Lt.Read}{l:List (List UInt8)}(h:Lt.Inv r)(hz:(lM r l).1=0):Lt.Inv (lM r l).2:=by
 unfold lM at hz|-;split at hz
 .cases hz
 rename_i a;rw[if_neg a];split at hz
 .cases hz
 rename_i c;rw[if_neg c];simp only[akV,akI,decide_eq_true_eq,bb]at a;obtain⟨⟨⟨a,g⟩,i⟩,j⟩:=a;obtain⟨p,fs,f,bs,b,e,o⟩:=fF h kQ1;rw[e]at h;have d:({ r.block (λb=>{ b with Phis:=b.Phis++[⟨Lt.w1 l,(aA l 2 false).1.map λx=>⟨x.Name,x.A⟩⟩] })with Long:=r.Long+1 }:Lt.Read)=stB p fs f bs { b with Phis:=b.Phis++[⟨Lt.w1 l,(aA l 2 false).1.map λx=>⟨x.Name,x.A⟩⟩] } 5 (r.Long+1):=by
  have:r.block (λb=>{ b with Phis:=b.Phis++[⟨Lt.w1 l,(aA l 2 false).1.map λx=>⟨x.Name,x.A⟩⟩] })=stB p fs f bs { b with Phis:=b.Phis++[⟨Lt.w1 l,(aA l 2 false).1.map λx=>⟨x.Name,x.A⟩⟩] } r.Where r.Long:=by grind [fL]
  rw[this,a];rfl
 rw[d];have hl:=o.long
 refine uT h kQ1 kQ1 kQ1 ⟨o.hd,o.len,?_,by omega,o.bl,o.nm,?_,o.cd,λh=>absurd h (by decide),λh=>absurd h (by decide)⟩
 all_goals grind [Open.ph,Lt.phi,pb,oS]
theorem Lf{dst:List UInt8}{l:List (List UInt8)}{x:Lt.Instr}(h:ig dst l=some x)(hd:dst≠[]->Lt.Name dst=true):Lt.instr x=true/\x.Frames=[]/\x.Objs=[]:=by
 unfold ig at h;split at h
 .cases h
 rename_i b;simp only[akV,akI]at b;obtain⟨_,o2,o3⟩:=Lh b.1;obtain⟨_,j,f,c,e,i⟩:=pf (Lt.sOp (Lt.w0 l)).1;split at h
 .cases h
 rename_i nm rest hr;split at h
 .rename_i a;simp only[akI]at a;obtain⟨⟨⟨a,c3⟩,g⟩,k⟩:=a;rw[c,bb]at c3;have d:=(pj a).1
  have hN:(Lt.Of (Lt.sOp (Lt.w0 l)).1).1.Named=!decide (nm=[]):=by grind [Bw,Lt.Of,Lt.Name]
  grind [Lt.instr]
 grind
theorem JB{r:Lt.Read}{l:List (List UInt8)}(h:Lt.Inv r)(hz:(bD r l).1=0):Lt.Inv (bD r l).2:=by
 unfold bD at hz|-;split at hz
 .cases hz
 rename_i d;rw[if_neg d];split at hz
 .cases hz
 rename_i c;rw[if_neg c];cases hs:ig (if Lt.sEq l then Lt.w0 l else []) (if Lt.sEq l then l.drop 2 else l)with
 |none=>omega
 |some x=>
  rw[hs]at hz;simp only at hz|-
  split at hz
  .cases hz
  rename_i a;rw[if_neg a];have i:5<=r.Where/\r.Where<=8:=by grind
  obtain⟨hx,hf,ho⟩:=Lf hs (by grind [bb])
  obtain⟨p,fs,f,bs,b,e,o⟩:=fF h kQ1;rw[e]at h;have g:({ r.block (λb=>{ b with Code:=b.Code++[x] })with Where:=if x.Op=31\/x.Op=34 then 7 else 6,Long:=r.Long+1 }:Lt.Read)=stB p fs f bs { b with Code:=b.Code++[x] } (if x.Op=31\/x.Op=34 then 7 else 6) (r.Long+1):=by
   have:r.block (λb=>{ b with Code:=b.Code++[x] })=stB p fs f bs { b with Code:=b.Code++[x] } r.Where r.Long:=by grind [fL]
   rw[this];rfl
  rw[g];have hl:=o.long
  have hw:∀{k:Int},k=(if x.Op=31\/x.Op=34 then(7:Int)else 6)->5<=k/\k<=8/\(7<=k->x.Op=31\/x.Op=34):=by omega
  obtain⟨w1,w2,w3⟩:=hw rfl;refine uT h kQ1 w1 kQ1 ⟨o.hd,o.len,?_,by omega,o.bl,o.nm,o.ph,?_,λh=>by omega,λ_ _=>⟨b.Code,x,rfl,w3⟩⟩
  all_goals grind [Open.cd]
theorem Av{c:Lt.Instr}{fr:List Lt.Frame}{ob:List Lt.Virt}(h:Lt.instr c=true)(ho:c.Op=31\/c.Op=34)(h1:fr.length<=16)(h2:ob.length<=99)(h3:∀x∈fr,Lt.frame x=true)(h4:∀x∈ob,Lt.virt x=true):Lt.instr { c with Frames:=fr,Objs:=ob }=true:=by grind [Lt.instr]
theorem ahL{r:Lt.Read}{l:List (List UInt8)}(h:Lt.Inv r)(hz:(Lt.sAt r l).1=0):Lt.Inv (Lt.sAt r l).2:=by
 unfold Lt.sAt at hz|-;split at hz
 .cases hz
 rename_i g;rw[if_neg g];split at hz
 .cases hz
 rename_i d;rw[if_neg d];simp only[akV,akI,decide_eq_true_eq,bb]at g;obtain⟨p,fs,f,bs,b,e,o⟩:=fF h kQ1;obtain⟨cs,c,a,hop⟩:=o.ins kQ1 kQ1;have hop:=hop kQ1
 have e':r=stI p fs f bs b cs c r.Where r.Long:=by unfold stI;rw[<- a];exact e
 have hc:=o.cd
 rw[a,List.all_append]at hc;simp only[akI,akW,amV,and_true]at hc;have i:=iP hc.2
 rw[e',yw]at d;rw[e]at h;have j:r.instr (λx=>{ x with Frames:=x.Frames++[⟨Lt.w1 l,Lt.w2 l,(bd (Lt.w3 l)).1,(aA l 4 true).1⟩] })=stI p fs f bs b cs { c with Frames:=c.Frames++[⟨Lt.w1 l,Lt.w2 l,(bd (Lt.w3 l)).1,(aA l 4 true).1⟩] } r.Where r.Long:=by grind [ny]
 rw[j];have hl:=o.long
 refine uT h kQ1 kQ1 kQ1 ⟨o.hd,o.len,?_,o.most,o.bl,o.nm,o.ph,?_,λh=>by omega,λ_ _=>⟨cs,_,rfl,λ_=>hop⟩⟩
 all_goals grind [Av,InstrOk.objs,InstrOk.ob,InstrOk.fr,pb,Lt.frame,ji]
theorem acW{r:Lt.Read}{l:List (List UInt8)}(h:Lt.Inv r)(hi:r.ins=true)(hz:(lL r l).1=0):Lt.Inv (lL r l).2:=by
 unfold lL at hz|-;split at hz
 .cases hz
 rename_i d;rw[if_neg d];have g:=uY hz
 have k:5<=r.Where/\r.Where<=8:=by grind
 simp only[akV,akI,decide_eq_true_eq,bb]at d;obtain⟨p,fs,f,bs,b,e,o⟩:=fF h kQ1;obtain⟨cs,c,a,hop⟩:=o.ins kQ1 kQ1;have hop:=hop kQ1
 have e':r=stI p fs f bs b cs c r.Where r.Long:=by unfold stI;rw[<- a];exact e
 have hc:=o.cd
 rw[a,List.all_append]at hc;simp only[akI,akW,amV,and_true]at hc;have i:=iP hc.2
 rw[e',yw]at g;rw[e]at h;have j:({ r.instr (λx=>{ x with Objs:=x.Objs++[⟨Lt.w1 l,(br (l.drop 2) true).1⟩] })with Where:=8 }:Lt.Read)=stI p fs f bs b cs { c with Objs:=c.Objs++[⟨Lt.w1 l,(br (l.drop 2) true).1⟩] } 8 r.Long:=by
  have:r.instr (λx=>{ x with Objs:=x.Objs++[⟨Lt.w1 l,(br (l.drop 2) true).1⟩] })=stI p fs f bs b cs { c with Objs:=c.Objs++[⟨Lt.w1 l,(br (l.drop 2) true).1⟩] } r.Where r.Long:=by grind [ny]
  rw[this];rfl
 rw[j];have hl:=o.long
 refine uT h kQ1 kQ1 kQ1 ⟨o.hd,o.len,?_,o.most,o.bl,o.nm,o.ph,?_,λh=>by omega,λ_ _=>⟨cs,_,rfl,λ_=>hop⟩⟩
 all_goals grind [Av,InstrOk.frames,InstrOk.fr,InstrOk.ob,pj,Lt.virt]
theorem ON{l:List (List UInt8)}(h:fC l=some t):fJ t=true:=by grind [fC,bb,fJ,DI,sW]
theorem acV{r:Lt.Read}{l:List (List UInt8)}(h:Lt.Inv r)(hi:r.ins=true)(hz:(lK r l).1=0):Lt.Inv (lK r l).2:=by
 have d:5<=r.Where/\r.Where<=8:=by grind
 unfold lK at hz|-;cases hs:fC l with
 |none=>grind
 |some t=>
  have a:=ON hs
  obtain⟨p,fs,f,bs,b,e,o⟩:=fF h kQ1;rw[e]at h;have c:({ r.block (λb=>{ b with End:=t })with Where:=9 }:Lt.Read)=stB p fs f bs { b with End:=t } 9 r.Long:=by
   have:r.block (λb=>{ b with End:=t })=stB p fs f bs { b with End:=t } r.Where r.Long:=by grind [fL]
   rw[this];rfl
  show Lt.Inv ({ r.block (λb=>{ b with End:=t })with Where:=9 }:Lt.Read)
  rw[c];exact uT h kQ1 kQ1 kQ1 ⟨o.hd,o.len,o.long,o.most,o.bl,o.nm,o.ph,o.cd,λ_=>a,λh1 h2=>absurd h2 kQ1⟩
theorem Yh{r:Lt.Read}{l:List (List UInt8)}(h:Lt.Inv r)(hz:(aV r l).1.2=0):Lt.Inv (aV r l).2:=by grind [aV,Tu,Tv,M4,M3,Yg]
theorem Yi{r:Lt.Read}{l:List (List UInt8)}(h:Lt.Inv r)(hz:(bg r l).1.2=0):Lt.Inv (bg r l).2:=by grind [bg,Tw,acY,Tr,acX]
theorem Ty{r:Lt.Read}{l:List (List UInt8)}(h:Lt.Inv r)(hz:(aT r l).1.2=0):Lt.Inv (aT r l).2:=by grind [aT,ahL,acW,acV]
theorem qh{r:Lt.Read}{l:List (List UInt8)}{b:Bool}(h:Lt.Inv r)(hz:(aG r l b).1=0):Lt.Inv (aG r l b).2:=by
 unfold aG at hz|-;split at hz
 .grind [JB]
 rename_i c;rw[if_neg c];split at hz
 .rename_i c;rw[if_pos c];split at hz
  .cases hz
  rename_i c;rw[if_neg c];exact h
 grind [Yh,Yi,Ty,JB]
theorem Yf:Lt.Inv ⟨⟨false,[],[],[],[]⟩,0,0⟩:=⟨⟨by decide,by decide⟩,⟨by decide,by decide,by decide⟩,⟨rfl,rfl,rfl⟩,λh=>absurd h (by decide),λ_=>rfl,λh=>absurd h (by decide)⟩
theorem vh:∀(L:List Lt.RLine)(b:Bool)(r:Lt.Read),Lt.Inv r->(cX L b r).2.2=0->aY (cX L b r).1=true
 |[],b,r,h,hz=>by grind [cX,Tx]
 |x::t,b,r,h,hz=>by
  rw[cX]at hz|-;split at hz
  .rename_i c;rw[if_pos c];exact vh t false _ (qh h c) hz
  grind
variable{s:List UInt8}
theorem xG(h:(dI s).2.2=0):aY (dI s).1=true:=by grind [dI,vh,Yf]
theorem Zy{p:Lt.Program}(ok:p.ok)(hl:(jx p).length<=4194304):D4 p=aY p:=by grind [D4,Ol,xG]
theorem ag1:∀(s:List UInt8)(k:Lt.Cut)(B:Nat),(∀x∈k.out,x.Words≠[]/\x.Words.length<=B)->k.l.length+s.length+1<=B->∀x∈(bR s k).1,x.Words≠[]/\x.Words.length<=B
 |s,k,B=>by
  have hw:∀k:Lt.Cut,k.word.l.length<=k.l.length+1/\k.word.out=k.out:=by grind [Lt.Cut.word]
  have b:∀k:Lt.Cut,(∀x∈k.out,x.Words≠[]/\x.Words.length<=B)->k.l.length+1<=B->∀x∈k.line.out,x.Words≠[]/\x.Words.length<=B:=by grind [Lt.Cut.line]
  have a:∀(k:Lt.Cut)(c:UInt8),(k.byte c).l.length<=k.l.length+1/\(k.byte c).out=k.out:=by grind [Lt.Cut.byte]
  induction s generalizing k with
  |nil=>grind [bR]
  |cons c r ih=>
   intro h hl x hx;have d:k.l.length+(r.length+1)+1<=B:=hl
   rw[bR]at hx;split at hx
   .split at hx
    .cases hx
    exact ih k.line (b k h kQ1) (by show 0+r.length+1<=B;omega) x hx
   have hb:=a k c
   exact ih (k.byte c) (by grind) kQ1 x hx
theorem Lo(s:List UInt8):∀x∈(bQ s).1,x.Words≠[]/\x.Words.length<=1099511627776:=by
 intro x hx;unfold bQ at hx;split at hx
 .cases hx
 exact ag1 s _ _ (by simp) (by grind) x hx
theorem NI(s:List UInt8)(KK:Lt.Program×Int×Int->Prop)(h:KK (dI s)):GX s KK:=by
 unfold GX;unfold dI at h;have a:=Lo s
 generalize bQ s=S at h a|-;obtain⟨L,at_,c⟩:=S;dsimp only at h a|-;refine ifk (λhc=>?_) (λhc=>?_)
 .grind
 rw[if_pos (by grind)]at h;refine u6 (λhl=>?_);refine ao _ L.length (λi x=>∃r,x=((i:Int),r)/\Lt.Inv r/\KK (cX (L.drop i) (decide ((i:Int)=0)) r)) (λR i x hi hx b=>?_) (λR x hx=>?_) _ ⟨_,rfl,Yf,h⟩
 .obtain⟨r,rfl,hI,hk⟩:=hx;simp only[aW hi];obtain⟨o1,o2⟩:=a _ (az L hi);refine⟨⟨akQ i,hi⟩,⟨hI,o1,o2⟩,?_⟩;rw[akX hi]at hk;have e:L.getD i default=L[i]:=by grind
  rw[<- e,cX]at hk;refine ifk (λhc=>?_) (λhc=>b _ ⟨_,by rw[ae kQ1],?_,?_⟩)
  .grind
  .exact qh hI (by grind)
  have e0:decide (((i+1:Nat):Int)=0)=false:=by rfl
  simp_all
 obtain⟨r,rfl,hI,hk⟩:=hx;rw[alM,cX]at hk;simp only[aX,ac]
 grind
theorem TW(p:Lt.Program)(hp:nP p)(KK:Bool->Prop)(h:KK (D4 p)):aaG p KK:=by
 unfold D4 at h;refine⟨hp,ifk (λhc=>?_) (λhc=>?_)⟩
 .rw[hc,alH]at h;exact h
 grind
theorem kW(h:(bd s).2=true):aQ (bd s).1=s:=by
 unfold bd at h|-;split at h
 .rename_i hc;rw[if_pos hc];exact hc
 grind
theorem lm{β:Type}(c:Bool)(x:β)(n:Int)(K:β->Prop)(KP:Value->Prop):exQ (if c then .ok x else .error (Lt.flt n)) K KP=if c then K x else KP (Lt.flt n):=by cases c<;>rfl
theorem Uc(w:List UInt8)(KK:List UInt8->Prop)(KP:Value->Prop)(h:exQ (cU w) KK KP):PV w KK KP:=by
 unfold PV;unfold cU at h;rw[lm]at h
 grind
theorem Ua(w:List UInt8)(KK:List UInt8->Prop)(KP:Value->Prop)(h:exQ (iY w) KK KP):PT w KK KP:=by
 unfold PT;unfold iY at h;rw[lm]at h;simp only[ac,aX,aK]
 grind [mw,bb]
theorem YH(l:List Int)(n:Int)(KK:Bool->Prop)(h:KK (i9 l n)):afX l n KK:=by
 refine λhl=>s8 l hl (λ(_:Unit) i=>i) (λt _=>t.contains n) KK _ (λR _ i hi ih h=>?_) (λR _ h=>?_) () h
 .simp only[aW hi];refine⟨⟨akQ i,hi⟩,?_⟩;by_cases hc:l.getD i default=n
  .grind
  rw[if_neg (by grind)];refine ih () ?_
  grind
 grind
theorem Kk(w:List UInt8)(a b:Int)(KK:Int->Prop)(KP:Value->Prop)(h:exQ (si w a b) KK KP):C0 w a b KK KP:=by
 unfold C0;unfold si at h;rw[lm]at h
 grind [fG]
theorem YF(w:List UInt8)(o:Bool)(KK:Lt.Arg->Prop)(KP:Value->Prop)(h:exQ (BP w o) KK KP):V9 w o KK KP:=by
 unfold V9;unfold BP at h;rw[lm]at h;unfold dC at h;dsimp +instances only [se]
 cases h1:(dG w).2<;>cases o<;>by_cases h2:(dG w).1.Kind=5<;>simpa[h1,h2,ac,aK]using h
theorem Az(s:List UInt8)(KK:Lt.Arg×Bool->Prop)(h:KK (lV s)):uk s KK:=by grind [uk,lV,Ad,fG]
section
variable {r:Lt.Reader} {w:Int} (K:Unit->Lt.Reader->Prop) (KP:Value->Lt.Reader->Prop)
theorem gp(c:Prop)[Decidable c](x y:Int×Lt.Read):exP (iD r (if c then x else y) w) K KP=if c then exP (iD r x w) K KP else exP (iD r y w) K KP:=by grind
end
section
variable {r:Lt.Reader} {w:Int} (K:Unit->Lt.Reader->Prop) (KP:Value->Lt.Reader->Prop)
theorem nQ(x:Lt.Read):exP (iD r (3,x) w) K KP=KP (Lt.flt 3) r:=rfl
end
section
variable {r:Lt.Reader} {w:Int} (K:Unit->Lt.Reader->Prop) (KP:Value->Lt.Reader->Prop)
theorem Q2(x:Lt.Read):exP (iD r (2,x) w) K KP=KP (Lt.flt 2) r:=rfl
end
section
variable {r:Lt.Reader} {w:Int} (K:Unit->Lt.Reader->Prop) (KP:Value->Lt.Reader->Prop)
theorem Q1(x:Lt.Read):exP (iD r (0,x) w) K KP=K () ⟨x.P,r.at_,w,r.first,x.Long⟩:=rfl
end
section
variable {r:Lt.Reader} {w:Int} (K:Unit->Lt.Reader->Prop) (KP:Value->Lt.Reader->Prop)
theorem tP(c:Prop)[Decidable c](x:Lt.Read):exP (iD r (if c then 2 else 0,x) w) K KP=if c then KP (Lt.flt 2) r else K () ⟨x.P,r.at_,w,r.first,x.Long⟩:=by split<;>rfl
end
theorem Ap{r:Lt.Reader}(hw:0<=r.where_/\r.where_<=7):i9 [0,1] r.where_=r.abs.out:=by grind [i9,Lt.Reader.abs]
theorem eI(w:List UInt8)(K:List UInt8->Prop)(KP:Value->Prop):exQ (cU w) K KP=if be w=true then K w else KP (Lt.flt 3):=by unfold cU;rw[lm,bb]
theorem pD(r:Lt.Reader):r.abs.P=r.p:=rfl
theorem aiP(r:Lt.Reader):r.abs.Long=r.long:=rfl
theorem NS(r:Lt.Reader)(l:List (List UInt8))(hp:bP r l)(KK:Unit×Lt.Reader->Prop)(KP:Value->Lt.Reader->Prop)(h:exP (Gc r l) (λz x=>KK (z,x)) KP):G5 r l KK KP:=by
 obtain⟨⟨hi,hw,_,_⟩,a,hr⟩:=hp;unfold G5;unfold Gc at h;unfold fo at h;simp only[gp,nQ,Q2]at h;simp only[Ap hw,eI];generalize be (Lt.w1 l)=nm at h|-;generalize r.abs.out=o at h|-;cases o with
 |false=>grind
 |true=>
  refine ifk (λhc=>by grind) (λ_=>λ_=>?_);by_cases h2:l.length=2
  .refine ifk (λhc=>by grind) (λ_=>⟨⟨by decide,by omega⟩,trivial,?_⟩);cases nm with
   |false=>grind
   |true=>
    rw[if_neg (by simp[h2])]at h;simp only[ac,am,and_self];refine λ_=>ifk (λhc=>?_) (λhc=>?_)
    .grind [pD]
    rw[if_neg (show ¬ 8<=r.abs.P.Classes.length by grind [pD])]at h;have h8:r.p.Classes.length < 8:=by grind
    rw[ak1];exact⟨⟨by omega,by omega⟩,h⟩
  grind
theorem p8(w:List UInt8)(K:List UInt8->Prop)(KP:Value->Prop):exQ (iY w) K KP=if mw w=true then K w else KP (Lt.flt 3):=by unfold iY;rw[lm]
theorem Kj(r:Lt.Reader)(l:List (List UInt8))(hp:bP r l)(KK:Unit×Lt.Reader->Prop)(KP:Value->Lt.Reader->Prop)(h:exP (yK r l) (λz x=>KK (z,x)) KP):CZ r l KK KP:=by
 obtain⟨⟨hi,hw,_,_⟩,b,hr⟩:=hp;have h8:=hi.1
 unfold CZ;unfold yK cW cx at h;simp only[gp,nQ,tP]at h;dsimp only;simp only[Ap hw,eI,p8,show l.getD 1 default=Lt.w1 l from rfl,show l.getD 2 default=Lt.w2 l from rfl,show l.getD 1 []=Lt.w1 l from rfl,show l.getD 2 []=Lt.w2 l from rfl,ac,am,ap,aX,aK,and_self,true_and]at h|-;generalize be (Lt.w1 l)=nm at h|-;generalize mw (Lt.w2 l)=a at h|-;generalize r.abs.out=o at h|-;cases o with
 |false=>grind
 |true=>
  refine ifk (λhc=>by grind) (λ_=>λ_=>?_);by_cases h3:l.length=3
  .refine ifk (λhc=>by grind) (λ_=>⟨⟨by decide,by omega⟩,⟨by decide,by omega⟩,?_⟩);cases nm with
   |false=>grind
   |true=>
    cases a with
    |false=>grind
    |true=>
     rw[if_neg (by simp[h3])]at h;simp only[if_true];refine λ_=>ifk (λhc=>?_) (λhc=>?_)
     .grind [pD]
     rw[if_neg (show ¬ 8<=r.abs.P.Globals.length by grind [pD])]at h;have h9:r.p.Globals.length < 8:=by grind
     rw[ak1];exact⟨⟨by omega,by omega⟩,h⟩
  grind
theorem Cf(r:Lt.Reader)(l:List (List UInt8))(hp:bP r l)(KK:Unit×Lt.Reader->Prop)(KP:Value->Lt.Reader->Prop)(h:exP (sg r l) (λz x=>KK (z,x)) KP):xv r l KK KP:=by
 obtain⟨⟨hi,hw,_,_⟩,b,hr⟩:=hp;have h8:=hi.1
 unfold xv;unfold sg gI cx at h;simp only[gp,nQ,tP]at h;dsimp only;simp only[Ap hw,eI,p8,show l.getD 1 default=Lt.w1 l from rfl,show l.getD 2 default=Lt.w2 l from rfl,show l.getD 1 []=Lt.w1 l from rfl,show l.getD 2 []=Lt.w2 l from rfl,ac,am,ap,aX,aK,and_self,true_and]at h|-;generalize be (Lt.w1 l)=nm at h|-;generalize mw (Lt.w2 l)=a at h|-;generalize r.abs.out=o at h|-;cases o with
 |false=>grind
 |true=>
  refine ifk (λhc=>by grind) (λ_=>λ_=>?_);by_cases h3:l.length=3
  .refine ifk (λhc=>by grind) (λ_=>⟨⟨by decide,by omega⟩,⟨by decide,by omega⟩,?_⟩);cases nm with
   |false=>grind
   |true=>
    cases a with
    |false=>grind
    |true=>
     rw[if_neg (by simp[h3])]at h;simp only[if_true];refine λ_=>ifk (λhc=>?_) (λhc=>?_)
     .grind [pD]
     rw[if_neg (show ¬ 8<=r.abs.P.Funcs.length by grind [pD])]at h;have h9:r.p.Funcs.length < 8:=by grind
     rw[ak1];exact⟨⟨by omega,by omega⟩,h⟩
  grind
theorem Aa(w:List UInt8)(a b:Int)(K:Int->Prop)(KP:Value->Prop):exQ (si w a b) K KP=if (bd w).2&&decide (a<=(bd w).1)&&decide ((bd w).1<=b)then K (bd w).1 else KP (Lt.flt 3):=by unfold si;rw[lm,Bool.and_assoc]
theorem Ki(r:Lt.Reader)(l:List (List UInt8))(hp:bP r l)(KK:Unit×Lt.Reader->Prop)(KP:Value->Lt.Reader->Prop)(h:exP (yJ r l) (λz x=>KK (z,x)) KP):CY r l KK KP:=by
 obtain⟨⟨hi,hw,_,_⟩,b,hr⟩:=hp;unfold CY;unfold yJ cM at h;simp only[gp,nQ,tP]at h;dsimp only;simp only[Ap hw,eI,Aa,show l.getD 1 default=Lt.w1 l from rfl,show l.getD 2 default=Lt.w2 l from rfl,ac,am,ap,aX,aK,and_self,true_and]at h|-;generalize be (Lt.w1 l)=nm at h|-;generalize((bd (Lt.w2 l)).2&&decide (0<=(bd (Lt.w2 l)).1)&&decide ((bd (Lt.w2 l)).1<=8))=a at h|-;generalize r.abs.out=o at h|-;cases o with
 |false=>grind
 |true=>
  refine ifk (λhc=>by grind) (λ_=>λ_=>?_);by_cases h3:l.length=3
  .refine ifk (λhc=>by grind) (λ_=>⟨⟨by decide,by omega⟩,⟨by decide,by omega⟩,?_⟩);cases nm with
   |false=>grind
   |true=>
    cases a with
    |false=>grind
    |true=>
     rw[if_neg (by simp[h3])]at h;simp only[if_true];refine λ_=>ifk (λhc=>?_) (λhc=>?_)
     .grind [pD]
     rw[if_neg (show ¬ 8<=r.abs.P.Externs.length by grind [pD])]at h;have h9:r.p.Externs.length < 8:=by grind
     rw[ak1];exact⟨⟨by omega,by omega⟩,h⟩
  grind
theorem YJ(r:Lt.Reader)(l:List (List UInt8))(hp:bP r l)(KK:Unit×Lt.Reader->Prop)(KP:Value->Lt.Reader->Prop)(h:exP (aeQ r l) (λz x=>KK (z,x)) KP):Wc r l KK KP:=by
 unfold Wc;unfold aeQ at h;simp only[gp,nQ,Q1]at h
 grind [aiP]
theorem Aq{r:Lt.Reader}(hw:0<=r.where_/\r.where_<=7){n:Int}(h2:2<=n)(h7:n<=7):i9 [n] r.where_=decide (r.abs.Where=n+1):=by grind [i9,Lt.Reader.abs]
theorem NV(r:Lt.Reader)(l:List (List UInt8))(hp:bP r l)(KK:Unit×Lt.Reader->Prop)(KP:Value->Lt.Reader->Prop)(h:exP (Gh r l) (λz x=>KK (z,x)) KP):G8 r l KK KP:=by
 obtain⟨⟨hi,hw,_,_⟩,d,hr⟩:=hp;unfold G8;unfold Gh dH cx at h;simp only[gp,nQ,tP]at h;dsimp only;simp only[Aq hw (n:=2) (by decide) (by decide),eI,p8,show l.getD 1 default=Lt.w1 l from rfl,show l.getD 2 default=Lt.w2 l from rfl,show l.getD 1 []=Lt.w1 l from rfl,show l.getD 2 []=Lt.w2 l from rfl,ac,am,ap,aX,aK,and_self,true_and]at h|-;generalize be (Lt.w1 l)=nm at h|-;generalize mw (Lt.w2 l)=c at h|-;by_cases e:r.abs.Where=3
 .obtain⟨hf,_,a,_⟩:=dM hi kQ1;have hf:r.p.Funcs≠[]:=hf
  have b:r.p.Funcs.length<=5000:=by have:r.p.Funcs.length<=8:=hi.2.1.2.2;omega
  have a:(r.p.Funcs.getD (r.p.Funcs.length - 1) default).Params.length<=6:=a
  simp only[ba hf b,cf hf,cc hf,Int.toNat_natCast,true_and,and_self];refine ifk (λhc=>by grind) (λ_=>λ_=>?_);by_cases h3:l.length=3
  .refine ifk (λhc=>by grind) (λ_=>⟨⟨by decide,by omega⟩,⟨by decide,by omega⟩,?_⟩);cases nm with
   |false=>grind
   |true=>
    cases c with
    |false=>grind
    |true=>
     rw[if_neg (by grind)]at h;simp only[if_true];refine λ_=>λ_=>ifk (λhc=>?_) (λhc=>?_)
     .rw[if_pos (show 6<=r.abs.curF.Params.length from(show 6<=(r.p.Funcs.getD (r.p.Funcs.length - 1) default).Params.length by grind))]at h;exact h
     rw[if_neg (show ¬ 6<=r.abs.curF.Params.length from(show ¬ 6<=(r.p.Funcs.getD (r.p.Funcs.length - 1) default).Params.length by grind))]at h;rw[ak1];exact⟨⟨by omega,by omega⟩,h⟩
  grind
 grind
theorem ahF{r:Lt.Reader}(hw:0<=r.where_/\r.where_<=7):i9 [2,3] r.where_=(decide (r.abs.Where=3)||decide (r.abs.Where=4)):=by
 have a:=Aq hw (n:=2) (by decide) (by decide)
 have b:=Aq hw (n:=3) (by decide) (by decide)
 grind [i9]
theorem ajI{r:Lt.Reader}(hw:0<=r.where_/\r.where_<=7):i9 [1] r.where_=decide (r.abs.Where=1):=by grind [i9,Lt.Reader.abs]
theorem NT(r:Lt.Reader)(l:List (List UInt8))(hp:bP r l)(KK:Unit×Lt.Reader->Prop)(KP:Value->Lt.Reader->Prop)(h:exP (Gf r l) (λz x=>KK (z,x)) KP):G6 r l KK KP:=by
 obtain⟨⟨hi,hw,_,_⟩,d,hr⟩:=hp;unfold G6;unfold Gf dZ cx at h;simp only[gp,nQ,Q2,Q1]at h;dsimp only;simp only[ajI hw,eI,p8,show l.getD 1 default=Lt.w1 l from rfl,show l.getD 2 default=Lt.w2 l from rfl,show l.getD 1 []=Lt.w1 l from rfl,show l.getD 2 []=Lt.w2 l from rfl,ac,am,ap,aX,aK,and_self,true_and]at h|-;generalize be (Lt.w1 l)=nm at h|-;generalize mw (Lt.w2 l)=c at h|-;by_cases b:r.abs.Where=1
 .have hf:r.abs.P.Classes≠[]:=hi.2.2.2.1 b
  have hf:r.p.Classes≠[]:=hf
  have a:r.p.Classes.length<=5000:=by have:r.p.Classes.length<=8:=hi.2.1.1;omega
  simp only[ba hf a,cf hf,cc hf,Int.toNat_natCast,true_and,and_self];refine ifk (λhc=>by grind) (λ_=>λ_=>?_);by_cases h3:l.length=3
  .refine ifk (λhc=>by grind) (λ_=>⟨⟨by decide,by omega⟩,⟨by decide,by omega⟩,?_⟩);cases nm with
   |false=>grind
   |true=>
    cases c with
    |false=>grind
    |true=>
     rw[if_neg (by grind)]at h;simp only[if_true];refine λ_=>λ_=>ifk (λhc=>?_) (λhc=>?_)
     .rw[if_pos (show 8<=(r.abs.P.Classes.getD (r.abs.P.Classes.length - 1) default).Fields.length from(show 8<=(r.p.Classes.getD (r.p.Classes.length - 1) default).Fields.length by grind))]at h;exact h
     rw[if_neg (show ¬ 8<=(r.abs.P.Classes.getD (r.abs.P.Classes.length - 1) default).Fields.length from(show ¬ 8<=(r.p.Classes.getD (r.p.Classes.length - 1) default).Fields.length by grind))]at h;have h9:(r.p.Classes.getD (r.p.Classes.length - 1) default).Fields.length < 8:=by grind
     rw[ak1];exact⟨⟨by omega,by omega⟩,h⟩
  grind
 grind
theorem Cg(r:Lt.Reader)(l:List (List UInt8))(hp:bP r l)(KK:Unit×Lt.Reader->Prop)(KP:Value->Lt.Reader->Prop)(h:exP (so r l) (λz x=>KK (z,x)) KP):xw r l KK KP:=by
 obtain⟨⟨hi,hw,_,_⟩,d,hr⟩:=hp;unfold xw;unfold so lW cx at h;simp only[gp,nQ,tP]at h;dsimp only;simp only[ahF hw,eI,p8,show l.getD 1 default=Lt.w1 l from rfl,show l.getD 2 default=Lt.w2 l from rfl,show l.getD 1 []=Lt.w1 l from rfl,show l.getD 2 []=Lt.w2 l from rfl,ac,am,ap,aX,aK,and_self,true_and]at h|-;generalize be (Lt.w1 l)=nm at h|-;generalize mw (Lt.w2 l)=c at h|-;by_cases e:(r.abs.Where=3\/r.abs.Where=4)
 .have hb:(decide (r.abs.Where=3)||decide (r.abs.Where=4))=true:=by grind
  obtain⟨hf,_,_,a,_⟩:=dM hi kQ1;have hf:r.p.Funcs≠[]:=hf
  have b:r.p.Funcs.length<=5000:=by have:r.p.Funcs.length<=8:=hi.2.1.2.2;omega
  have a:(r.p.Funcs.getD (r.p.Funcs.length - 1) default).Vars.length<=1024:=a
  simp only[ba hf b,cf hf,cc hf,Int.toNat_natCast,true_and,and_self];refine ifk (λhc=>by grind) (λ_=>λ_=>?_);by_cases h3:l.length=3
  .refine ifk (λhc=>by grind) (λ_=>⟨⟨by decide,by omega⟩,⟨by decide,by omega⟩,?_⟩);cases nm with
   |false=>grind
   |true=>
    cases c with
    |false=>grind
    |true=>
     rw[if_neg (by grind)]at h;simp only[if_true];refine λ_=>λ_=>ifk (λhc=>?_) (λhc=>?_)
     .rw[if_pos (show 1024<=r.abs.curF.Vars.length from(show 1024<=(r.p.Funcs.getD (r.p.Funcs.length - 1) default).Vars.length by grind))]at h;exact h
     rw[if_neg (show ¬ 1024<=r.abs.curF.Vars.length from(show ¬ 1024<=(r.p.Funcs.getD (r.p.Funcs.length - 1) default).Vars.length by grind))]at h;rw[ak1];exact⟨⟨by omega,by omega⟩,h⟩
  grind
 grind
theorem OS{c e f d n:Bool}{a:Prop}{B:Unit->Prop}(hb:(c||e||(f&&d))=true)(hn:n=true)(h:B ()) :
  aa (λb:Unit->Prop=>if c then(if !true then a else b ())else(if e then(if !true then a else b ())else(if f then(if d then(if !n then a else b ())else(if !false then a else b ()))else(if !false then a else b ())))) B:=by
 intro J g
 grind
theorem NX(r:Lt.Reader)(l:List (List UInt8))(hp:bP r l)(KK:Unit×Lt.Reader->Prop)(KP:Value->Lt.Reader->Prop)(h:exP (Gi r l) (λz x=>KK (z,x)) KP):G9 r l KK KP:=by
 obtain⟨⟨hi,hw,_,_⟩,f,hr⟩:=hp;unfold G9;unfold Gi dY at h;simp only[gp,nQ,tP]at h;dsimp only;simp only[eI,show l.getD 1 default=Lt.w1 l from rfl]at h|-;generalize be (Lt.w1 l)=nm at h|-;have a:(decide (r.abs.Where=3)||decide (r.abs.Where=4)||decide (r.abs.Where=9))=(decide (r.where_=2)||decide (r.where_=3)||(decide (r.where_=0)&&decide (0<=r.long))):=by grind [Lt.Reader.abs]
 by_cases b:(decide (r.abs.Where=3)||decide (r.abs.Where=4)||decide (r.abs.Where=9))=true
 .have g:r.abs.Where=3\/r.abs.Where=4\/r.abs.Where=9:=by grind
  obtain⟨hf,_,_,_,c⟩:=dM hi kQ1;have hf:r.p.Funcs≠[]:=hf
  have d:r.p.Funcs.length<=5000:=by have:r.p.Funcs.length<=8:=hi.2.1.2.2;omega
  have c:(r.p.Funcs.getD (r.p.Funcs.length - 1) default).Blocks.length<=256:=c
  have e:0<r.p.Funcs.length:=ak9.2 hf
  simp only[b,alH]at h;rw[a]at b;simp only[ba hf d,cf hf,cc hf,Int.toNat_natCast,true_and,and_self];refine OS b (by grind) (λ_=>?_);by_cases h2:l.length=2
  .refine ifk (λhc=>by grind) (λ_=>⟨⟨by decide,by omega⟩,?_⟩);cases nm with
   |false=>grind
   |true=>
    rw[if_neg (by simp[h2])]at h;simp only[if_true,ac,am,and_self];refine λ_=>λ_=>ifk (λhc=>?_) (λhc=>?_)
    .rw[if_pos (show 256<=r.abs.curF.Blocks.length from(show 256<=(r.p.Funcs.getD (r.p.Funcs.length - 1) default).Blocks.length by grind))]at h;exact h
    rw[if_neg (show ¬ 256<=r.abs.curF.Blocks.length from(show ¬ 256<=(r.p.Funcs.getD (r.p.Funcs.length - 1) default).Blocks.length by grind))]at h;rw[ak1];exact⟨⟨by omega,by omega⟩,h⟩
  grind
 have b:(decide (r.abs.Where=3)||decide (r.abs.Where=4)||decide (r.abs.Where=9))=false:=by grind
 rw[b]at h;rw[a]at b;simp only[Bool.or_eq_false_iff,Bool.and_eq_false_iff,decide_eq_false_iff_not]at b;obtain⟨⟨b2,b3⟩,b0⟩:=b;have h':KP (Lt.flt 3) r:=by grind
 simp only[b2,b3,decide_false,akP,if_false];rcases b0 with b0|b0
 .simpa[b0,aK]using h'
 simp only[aX,aK,b0,decide_false,akP,if_false,al9,if_true]
 grind
theorem aaQ:∀k:Fin 35,1<=k.1->(Lt.Of (k.1:Int)).1.Word=gw.getD k.1 default:=by decide +kernel
theorem ac7(w:List UInt8)(KK:Int×Bool->Prop)(h:KK (Lt.yOp w)):aeY w KK:=by
 unfold aeY;unfold Lt.yOp Lt.sOp at h;have d:gw.length=35:=rfl
 have key:∀k i,1<=i->i+k=35->KK (FZ w (gw.drop i) (i:Int))->mj (λ(c:Int->Prop) a=>if decide (a<=34)then(if decide (((Lt.Of a).1).Word=w)then(KK (a,true))else(c (i64.wrap (a+1))))else(KK (0,false))) (k+1) (i:Int):=by
  intro k;induction k with
  |zero=>
   intro i h1 hi h;have e:i=35:=by omega
   subst e;exact h
  |succ k ih=>
   intro i h1 hi h;have b:i<gw.length:=by omega
   rw[akX b]at h;have e:gw.getD i default=gw[i]:=by grind
   rw[<- e]at h;show(if decide ((i:Int)<=34)then _ else _)
   rw[if_pos (by grind)];simp only[FZ]at h;have hw:=aaQ ⟨i,by omega⟩ h1
   grind [ae]
 exact⟨35,key 34 1 (akK 1) rfl h⟩
theorem T8(l:List (List UInt8))(objs:Bool)(hp:dE l objs)(KK:List Lt.Arg->Prop)(KP:Value->Prop)(h:exQ (sL l objs) KK KP):PP l objs KK KP:=by
 have hp:l.length<=1099511627776:=hp
 unfold PP;unfold sL br at h;rw[lm]at h;refine λhl=>ao _ l.length (λi x=>x=((l.take i).map (λw=>(dG w).1),(i:Int))/\(l.take i).all (dC objs)=true) (λR i x hi hx ih=>?_) (λR x hx=>?_) _ ⟨rfl,rfl⟩
 .obtain⟨rfl,a⟩:=hx;dsimp only;rw[if_pos (aW hi)];simp only[Int.toNat_natCast];refine⟨⟨akQ i,hi⟩,trivial,?_⟩;unfold BP;rw[lm]
  grind [aZ,ae]
 grind
theorem yx(w:List UInt8)(o:Bool)(K:Lt.Arg->Prop)(KP:Value->Prop):exQ (BP w o) K KP=if dC o w=true then K (dG w).1 else KP (Lt.flt 3):=by unfold BP;rw[lm]
theorem I2(l:List (List UInt8))(o:Bool)(K:List Lt.Arg->Prop)(KP:Value->Prop):exQ (sL l o) K KP=if(br l o).2=true then K (br l o).1 else KP (Lt.flt 3):=by unfold sL;rw[lm]
theorem X5{r:Lt.Reader}(hw:0<=r.where_/\r.where_<=7):i9 [4,5,6,7] r.where_=r.abs.ins:=by grind [i9,Lt.Reader.abs]
theorem ahG{r:Lt.Reader}(hw:0<=r.where_/\r.where_<=7):i9 [6,7] r.where_=(decide (7<=r.abs.Where)&&r.abs.ins):=by grind [i9,Lt.Reader.abs]
theorem XM(n:Nat):decide (Int.tmod (n:Int) 2=0)=decide (n % 2=0):=by grind
theorem Oi{σ:Type}(l:List (List UInt8))(objs:Bool)(st:List Lt.Bind->σ)(body:(Int×σ->Prop)->Int×σ->Prop)(E:Prop)(fin:List Lt.Bind->Prop)
  (hs:∀R i a,i+1<l.length->a.length<=i->(if be (l.getD i default)=true then(if dC objs (l.getD (i+1) default)=true then R (((i+2:Nat):Int),st (a++[⟨l.getD i default,(dG (l.getD (i+1) default)).1⟩]))else E)else E)->body R ((i:Int),st a))
  (f:∀R a,a.length<=l.length->fin a->body R ((l.length:Int),st a)) :
  ∀n i a,l.length=i+2*n->a.length<=i->(match bv objs (l.drop i)with|some x=>fin (a++x)|none=>E)->mj body (n+1) ((i:Int),st a):=by
 intro n;induction n with
 |zero=>
  intro i a hi b h;have e:i=l.length:=by omega
  subst e;rw[alM]at h;exact f _ a b (by grind [bv])
 |succ n ih=>
  intro i a hi b h;have h3:i+1<l.length:=by omega
  have h4:i<l.length:=by omega
  have hd:l.drop i=l.getD i default::l.getD (i+1) default::l.drop (i+2):=by grind [akX]
  rw[hd,bv]at h;refine hs _ i a h3 b ?_;refine ifk (λd=>ifk (λc=>?_) (λc=>?_)) (λd=>?_)
  .rw[if_pos (by grind)]at h;refine ih (i+2) _ kQ1 (by grind) ?_
   grind
  all_goals grind
theorem Us{l:List (List UInt8)}{f:Nat}(hf:f<=l.length){E:Prop}{fin:List Lt.Bind->Prop}
  (h1:(aA l (f:Int) objs).2=false->E) (h2:(aA l (f:Int) objs).2=true->fin (aA l (f:Int) objs).1) :
  match bv objs (l.drop f)with|some x=>fin ([]++x)|none=>E:=by
 grind [aA]
theorem DT{σ:Type}(l:List (List UInt8))(f:Nat)(objs:Bool)(st:List Lt.Bind->σ)(body:(Int×σ->Prop)->Int×σ->Prop)(E:Prop)(fin:List Lt.Bind->Prop)
  (hs:∀R i a,i+1<l.length->a.length<=i->(if be (l.getD i default)=true then(if dC objs (l.getD (i+1) default)=true then R (((i+2:Nat):Int),st (a++[⟨l.getD i default,(dG (l.getD (i+1) default)).1⟩]))else E)else E)->body R ((i:Int),st a))
  (b:∀R a,a.length<=l.length->fin a->body R ((l.length:Int),st a)) (n:Nat) (hn:l.length=f+2*n)
  (h1:(aA l (f:Int) objs).2=false->E) (h2:(aA l (f:Int) objs).2=true->fin (aA l (f:Int) objs).1):ab body ((f:Int),st []):=
 ⟨_,Oi l objs st body E fin hs b n f [] hn (alJ _) (Us kQ1 h1 h2)⟩
theorem YI(r:Lt.Reader)(l:List (List UInt8))(hp:bP r l)(KK:Unit×Lt.Reader->Prop)(KP:Value->Lt.Reader->Prop)(h:exP (aeP r l) (λz x=>KK (z,x)) KP):Wb r l KK KP:=by
 obtain⟨⟨hi,hw,m,_⟩,w,hr⟩:=hp;have hr:l.length<=1099511627776:=hr
 unfold Wb;unfold aeP lM at h;simp only[gp,nQ,Q2,Q1]at h;dsimp only;simp only[Aq hw (n:=4) (by decide) (by decide),eI,yx,XM,ac,am,ap,aX,aK,and_self,true_and];by_cases u:r.abs.Where=5
 .obtain⟨hf,_,_,_,k⟩:=dM hi kQ1;obtain⟨a,s,_⟩:=il hi kQ1;have hf:r.p.Funcs≠[]:=hf
  have e:r.p.Funcs.length<=5000:=by have:r.p.Funcs.length<=8:=hi.2.1.2.2;omega
  have d:r.abs.curF.Blocks.length<=5000:=by omega
  have y:r.p.Funcs.getD (r.p.Funcs.length - 1) default=r.abs.curF:=rfl
  have q:r.abs.curF.Blocks.getD (r.abs.curF.Blocks.length - 1) default=r.abs.curB:=rfl
  have v:i64.wrap (r.long+1)=r.long+1:=cN kQ1 kQ1
  simp only[ba hf e,cf hf,cc hf,Int.toNat_natCast,y,ba a d,cc a,cf a,q,true_and,and_self,ak1,gy (show r.abs.curB.Phis.length<=5000 by omega) (show 40<=200 by omega),v,show l.getD 1 default=Lt.w1 l from rfl];refine ifk (λhc=>by grind) (λ_=>λ_=>?_);by_cases h4:4<=l.length/\l.length % 2=0
  .obtain⟨n,hn⟩:∃n,l.length=2+2*(n+1):=⟨l.length / 2 - 2,by omega⟩
   rw[if_pos (by grind)];refine⟨by decide,ifk (λhc=>by grind) (λ_=>⟨⟨by decide,by omega⟩,?_⟩)⟩;cases C:be (Lt.w1 l)with
   |false=>grind
   |true=>
    rw[if_pos rfl];refine DT l 2 false (λc=>(⟨Lt.w1 l,c.map λx=>⟨x.Name,x.A⟩⟩:Lt.Phi)) _ (KP (Lt.flt 3) r) (λx=>if 256<x.length\/1024<=r.long then KP (Lt.flt 2) r else KK ((),⟨(r.abs.block (λb=>{ b with Phis:=b.Phis++[⟨Lt.w1 l,x.map λx=>⟨x.Name,x.A⟩⟩] })).P,r.at_,4,r.first,r.long+1⟩)) (λR i c h1 t g=>?_) (λR c t g=>?_) (n+1) hn (λhc=>?_) (λhc=>?_)
    .simp only[aW (show i<l.length by omega),if_true,Int.toNat_natCast,show i64.wrap ((i:Int)+1)=((i+1:Nat):Int)from ae kQ1,show i64.wrap ((i:Int)+2)=((i+2:Nat):Int)by grind [cN]]
     grind
    .simp only[kw,akP,if_false];refine λ_ _=>?_
     rw[akT,cN kQ1 kQ1];refine ifk (λo=>?_) (λo=>ifk (λB=>?_) (λB=>λ_ _=>?_))
     .grind
     .grind
     rw[if_neg (by grind)]at g;have D:r.where_=4:=by
      have:=Aq hw (n:=4) (by decide) (by decide)
      grind [i9]
     rw[D];exact g
    .grind
    have j:=eh (l:=l) (f:=2) (objs:=false) hc (by decide)
    rw[if_neg (by grind)]at h;exact h
  grind [eh]
 grind
theorem NU(r:Lt.Reader)(l:List (List UInt8))(hp:bP r l)(KK:Unit×Lt.Reader->Prop)(KP:Value->Lt.Reader->Prop)(h:exP (Gg r l) (λz x=>KK (z,x)) KP):G7 r l KK KP:=by
 obtain⟨⟨hi,hw,s,_⟩,D,hr⟩:=hp;have hr:l.length<=1099511627776:=hr
 unfold G7;unfold Gg Lt.sAt at h;simp only[gp,nQ,Q2,Q1]at h;dsimp only;simp only[Aq hw (n:=6) (by decide) (by decide),eI,yx,Aa,XM,ac,am,ap,aX,aK,and_self,true_and];by_cases C:r.abs.Where=7
 .obtain⟨hf,_,_,_,o⟩:=dM hi kQ1;obtain⟨a,w,F,_⟩:=il hi kQ1;obtain⟨c,v,_⟩:=qU hi kQ1 kQ1;have hf:r.p.Funcs≠[]:=hf
  have g:r.p.Funcs.length<=5000:=by have:r.p.Funcs.length<=8:=hi.2.1.2.2;omega
  have f:r.abs.curF.Blocks.length<=5000:=by omega
  have j:r.abs.curB.Code.length<=5000:=by omega
  have E:r.p.Funcs.getD (r.p.Funcs.length - 1) default=r.abs.curF:=rfl
  have t:r.abs.curF.Blocks.getD (r.abs.curF.Blocks.length - 1) default=r.abs.curB:=rfl
  have m:r.abs.curB.Code.getD (r.abs.curB.Code.length - 1) default=r.abs.curI:=rfl
  simp only[ba hf g,cf hf,cc hf,Int.toNat_natCast,E,ba a f,cc a,cf a,t,ba c j,cc c,cf c,m,true_and,and_self,ak1,gy (show r.abs.curI.Frames.length<=5000 by omega) (show 64<=200 by omega),show l.getD 1 default=Lt.w1 l from rfl,show l.getD 2 default=Lt.w2 l from rfl,show l.getD 3 default=Lt.w3 l from rfl];refine ifk (λhc=>by grind) (λ_=>λ_=>?_);by_cases h4:4<=l.length/\l.length % 2=0
  .obtain⟨n,hn⟩:∃n,l.length=4+2*n:=⟨l.length / 2 - 2,by omega⟩
   rw[if_pos (by grind)];refine⟨by decide,ifk (λhc=>by grind) (λ_=>⟨⟨by decide,by omega⟩,⟨by decide,by omega⟩,⟨by decide,by omega⟩,?_⟩)⟩;cases q:be (Lt.w1 l)with
   |false=>grind
   |true=>
   cases A:be (Lt.w2 l)with
   |false=>grind
   |true=>
   cases u:((bd (Lt.w3 l)).2&&decide (0<=(bd (Lt.w3 l)).1)&&decide ((bd (Lt.w3 l)).1<=1024))with
   |false=>grind
   |true=>
    rw[if_pos rfl,if_pos rfl,if_pos rfl];refine DT l 4 true (λb=>(⟨Lt.w1 l,Lt.w2 l,(bd (Lt.w3 l)).1,b⟩:Lt.Frame)) _ (KP (Lt.flt 3) r) (λx=>if 16<x.length\/16<=r.abs.curI.Frames.length then KP (Lt.flt 2) r else KK ((),⟨(r.abs.instr (λy=>{ y with Frames:=y.Frames++[⟨Lt.w1 l,Lt.w2 l,(bd (Lt.w3 l)).1,x⟩] })).P,r.at_,6,r.first,r.long⟩)) (λR i b h1 B e=>?_) (λR b B e=>?_) n hn (λhc=>?_) (λhc=>?_)
    .simp only[aW (show i<l.length by omega),if_true,Int.toNat_natCast,show i64.wrap ((i:Int)+1)=((i+1:Nat):Int)from ae kQ1,show i64.wrap ((i:Int)+2)=((i+2:Nat):Int)by grind [cN]];refine λ_=>⟨⟨akQ i,by omega⟩,⟨akQ _,h1⟩,?_⟩
     refine ifk (λd=>?_) (λd=>?_)
     .rw[if_pos d]at e;refine ifk (λk=>?_) (λk=>?_)
      all_goals grind
     grind
    .simp only[kw,akP,if_false];refine λ_ _=>?_
     rw[cN kQ1 kQ1];refine ifk (λd=>?_) (λd=>λ_ _ _ _=>ifk (λk=>?_) (λk=>?_))
     .grind
     .grind
     rw[if_neg (by grind)]at e;have G:r.where_=6:=by
      have:=Aq hw (n:=6) (by decide) (by decide)
      grind [i9]
     rw[G];exact e
    .grind
    rw[if_neg (by grind)]at h;exact h
  grind [eh]
 grind
theorem Kl(r:Lt.Reader)(l:List (List UInt8))(hp:bP r l)(KK:Unit×Lt.Reader->Prop)(KP:Value->Lt.Reader->Prop)(h:exP (sk r l) (λz x=>KK (z,x)) KP):C1 r l KK KP:=by
 obtain⟨⟨hi,hw,s,_⟩,w,hr⟩:=hp;have hr:l.length<=1099511627776:=hr
 unfold C1;unfold sk lL at h;simp only[gp,nQ,tP]at h;dsimp only;simp only[ahG hw,eI,I2,ac,am,ap,aX,aK,and_self,true_and];by_cases g:7<=r.abs.Where/\r.abs.Where<=8
 .obtain⟨hf,_,_,_,m⟩:=dM hi kQ1;obtain⟨a,u,A,_⟩:=il hi kQ1;obtain⟨b,_,k⟩:=qU hi kQ1 kQ1;have hf:r.p.Funcs≠[]:=hf
  have f:r.p.Funcs.length<=5000:=by have:r.p.Funcs.length<=8:=hi.2.1.2.2;omega
  have e:r.abs.curF.Blocks.length<=5000:=by omega
  have i:r.abs.curB.Code.length<=5000:=by omega
  have y:r.p.Funcs.getD (r.p.Funcs.length - 1) default=r.abs.curF:=rfl
  have t:r.abs.curF.Blocks.getD (r.abs.curF.Blocks.length - 1) default=r.abs.curB:=rfl
  have j:r.abs.curB.Code.getD (r.abs.curB.Code.length - 1) default=r.abs.curI:=rfl
  have n:r.abs.ins=true:=by grind
  have o:(l.drop 2).take (l.length - 2)=l.drop 2:=alE (by grind)
  simp only[ba hf f,cf hf,cc hf,Int.toNat_natCast,y,ba a e,cc a,cf a,t,ba b i,cc b,cf b,j,o,true_and,and_self,ak1,gy (show r.abs.curI.Objs.length<=5000 by omega) (show 40<=200 by omega),show l.getD 1 default=Lt.w1 l from rfl];refine ifk (λhc=>by grind) (λ_=>λ_=>?_);rw[if_neg (by grind),decide_eq_true g.1]at h;simp only[alH]at h;by_cases h2:2<=l.length
  .rw[if_pos (by grind)];by_cases d:l.length<=10
   .refine ifk (λhc=>by grind) (λ_=>⟨⟨by decide,by omega⟩,by decide,⟨h2,akK _⟩,?_⟩);rw[decide_eq_true h2,decide_eq_true d]at h;simp only[alH]at h;cases q:be (Lt.w1 l)with
    |false=>grind
    |true=>
     rw[if_pos rfl];refine⟨by show(l.drop 2).length<=1099511627776;grind,?_⟩;cases v:(br (l.drop 2) true).2 with
     |false=>grind
     |true=>
      rw[if_pos rfl];rw[if_neg (by grind)]at h;refine λ_ _ _ _=>ifk (λc=>?_) (λc=>?_)
      .grind
      rw[if_neg (by grind)]at h;exact h
   grind
  grind
 grind
theorem ZD{r:Lt.Reader}{w:Int}(K:Unit->Lt.Reader->Prop)(KP:Value->Lt.Reader->Prop)(o:Option α)(X:α->Lt.Read)(Y:Lt.Read) :
  exP (iD r (match o with|some t=>(0,X t)|none=>(3,Y)) w) K KP=match o with|some t=>K () ⟨(X t).P,r.at_,w,r.first,(X t).Long⟩|none=>KP (Lt.flt 3) r:=by cases o<;>rfl
theorem YG(r:Lt.Reader)(l:List (List UInt8))(hp:bP r l)(KK:Unit×Lt.Reader->Prop)(KP:Value->Lt.Reader->Prop)(h:exP (Ge r l) (λz x=>KK (z,x)) KP):Wa r l KK KP:=by
 obtain⟨⟨hi,hw,o,_⟩,f,hr⟩:=hp;have hr:l.length<=1099511627776:=hr
 have h0:0<l.length:=ak9.2 f
 unfold Wa;unfold Ge at h;simp only[gp,nQ,ZD]at h;dsimp only;dsimp +instances only [fG]
 simp only[X5 hw,eI,yx,ac,am,ap,aX,aK,and_self,true_and];cases n:r.abs.ins with
 |false=>grind
 |true=>
 rw[if_neg (by grind)]at h;have t:5<=r.abs.Where/\r.abs.Where<=8:=by grind
 obtain⟨hf,_,_,_,m⟩:=dM hi kQ1;obtain⟨b,s,w,_⟩:=il hi kQ1;have hf:r.p.Funcs≠[]:=hf
 have e:r.p.Funcs.length<=5000:=by have:r.p.Funcs.length<=8:=hi.2.1.2.2;omega
 have d:r.abs.curF.Blocks.length<=5000:=by omega
 have u:r.p.Funcs.getD (r.p.Funcs.length - 1) default=r.abs.curF:=rfl
 have q:r.abs.curF.Blocks.getD (r.abs.curF.Blocks.length - 1) default=r.abs.curB:=rfl
 simp only[ba hf e,cf hf,cc hf,Int.toNat_natCast,u,ba b d,cc b,cf b,q,true_and,and_self,implies_true,forall_const,show l.getD 0 default=Lt.w0 l from rfl,show l.getD 1 default=Lt.w1 l from rfl,show l.getD 2 default=Lt.w2 l from rfl,show l.getD 3 default=Lt.w3 l from rfl];refine ifk (λhc=>by grind) (λ_=>⟨⟨by decide,h0⟩,?_⟩);refine ifk (λk=>?_) (λk=>ifk (λi=>?_) (λi=>ifk (λj=>?_) (λj=>?_)))
 .have k:Lt.w0 l=kj:=by grind
  have hT:qO l=if decide (l.length=2)&&be (Lt.w1 l)then some ⟨1,⟨0,[],0⟩,[Lt.w1 l],0⟩else none:=by grind [qO,fC]
  rw[hT]at h;refine λ_=>ifk (λc=>?_) (λc=>?_)
  .rw[if_neg (by grind)]at h;exact h
  have h2:l.length=2:=by grind
  refine⟨⟨by decide,by omega⟩,ifk (λa=>?_) (λa=>?_)⟩
  .rw[if_pos (by grind)]at h;exact λ_ _=>h
  rw[if_neg (by grind)]at h;exact h
 .have g:¬ Lt.w0 l=kj:=by grind
  have i:Lt.w0 l=dO:=by grind
  have hT:qO l=if decide (l.length=4)&&(be (Lt.w2 l)&&be (Lt.w3 l))&&dC false (Lt.w1 l)then some ⟨2,(dG (Lt.w1 l)).1,[Lt.w2 l,Lt.w3 l],0⟩else none:=by grind [qO,fC]
  rw[hT]at h;refine λ_=>ifk (λc=>?_) (λc=>?_)
  .rw[if_neg (by grind)]at h;exact h
  have h2:l.length=4:=by grind
  refine⟨⟨by decide,by omega⟩,⟨by decide,by omega⟩,⟨by decide,by omega⟩,ifk (λa=>ifk (λv=>ifk (λc3=>?_) (λc3=>?_)) (λv=>?_)) (λa=>?_)⟩
  .rw[if_pos (by grind)]at h;exact λ_ _=>h
  .rw[if_neg (by grind)]at h;exact h
  .rw[if_neg (by grind)]at h;exact h
  rw[if_neg (by grind)]at h;exact h
 .have g:¬ Lt.w0 l=kj:=by grind
  have n2:¬ Lt.w0 l=dO:=by grind
  have j:Lt.w0 l=tj:=by grind
  have hT:qO l=if decide (l.length=2)&&dC false (Lt.w1 l)then some ⟨3,(dG (Lt.w1 l)).1,[],0⟩else none:=by grind [qO,fC]
  rw[hT]at h;refine λ_=>ifk (λc=>?_) (λc=>?_)
  .rw[if_neg (by grind)]at h;exact h
  have h2:l.length=2:=by grind
  refine⟨⟨by decide,by omega⟩,ifk (λa=>?_) (λa=>?_)⟩
  .rw[if_pos (by grind)]at h;exact λ_ _=>h
  rw[if_neg (by grind)]at h;exact h
 have g:¬ Lt.w0 l=kj:=by grind
 have n2:¬ Lt.w0 l=dO:=by grind
 have y:¬ Lt.w0 l=tj:=by grind
 have hT:qO l=if decide (l.length=2)&&(bd (Lt.w1 l)).2 then some ⟨4,⟨0,[],0⟩,[],(bd (Lt.w1 l)).1⟩else none:=by grind [qO]
 rw[hT]at h;refine λ_=>ifk (λc=>?_) (λc=>?_)
 .rw[if_neg (by grind)]at h;exact h
 have h2:l.length=2:=by grind
 refine⟨⟨by decide,by omega⟩,ifk (λa=>?_) (λa=>?_)⟩
 .have a:(bd (Lt.w1 l)).2=false:=by grind
  rw[if_neg (by grind)]at h;exact h
 have a:(bd (Lt.w1 l)).2=true:=by grind
 rw[if_pos (by grind)]at h;exact λ_ _=>h
theorem OM(w:List UInt8)(l:List (List UInt8))(o:Bool):br (w::l) o=if dC o w=true then(if(br l o).2=true then((dG w).1::(br l o).1,true)else([],false))else([],false):=by grind [br]
theorem T9(r:Lt.Reader)(l:List (List UInt8))(hp:bP r l)(KK:Unit×Lt.Reader->Prop)(KP:Value->Lt.Reader->Prop)(h:exP (xY r l) (λz x=>KK (z,x)) KP):PS r l KK KP:=by
 obtain⟨⟨hi,hw,T,_⟩,F,hr⟩:=hp;have hr:l.length<=1099511627776:=hr
 have h0:0<l.length:=ak9.2 F
 have e0:bD r.abs l=if Lt.sEq l&&!be (Lt.w0 l)then(3,r.abs)else uG r.abs (if Lt.sEq l then Lt.w0 l else []) (if Lt.sEq l then l.drop 2 else l):=rfl
 unfold PS;unfold xY at h;rw[e0]at h;dsimp only;simp only[X5 hw,eI,yx,I2];cases w:r.abs.ins with
 |false=>
  have h3:KP (Lt.flt 3) r:=by unfold uG at h;rw[if_pos w]at h;split at h<;>exact h
  exact h3
 |true=>
 have ab:5<=r.abs.Where/\r.abs.Where<=8:=by grind
 obtain⟨hf,_,_,_,Q⟩:=dM hi kQ1;obtain⟨g,W,ad,_⟩:=il hi kQ1;have hf:r.p.Funcs≠[]:=hf
 have B:r.p.Funcs.length<=5000:=by have:r.p.Funcs.length<=8:=hi.2.1.2.2;omega
 have y:r.abs.curF.Blocks.length<=5000:=by omega
 have E:r.abs.curB.Code.length<=5000:=by omega
 have ef:r.p.Funcs.getD (r.p.Funcs.length - 1) default=r.abs.curF:=rfl
 have V:r.abs.curF.Blocks.getD (r.abs.curF.Blocks.length - 1) default=r.abs.curB:=rfl
 have l1:∀x:Lt.Instr,([x]:List Lt.Instr).length=1:=λ_=>rfl
 have wl:i64.wrap (r.long+1)=r.long+1:=cN kQ1 kQ1
 simp only[ba hf B,cf hf,cc hf,Int.toNat_natCast,ef,ba g y,cc g,cf g,V,l1,gy E (show 112<=200 by omega),wl,true_and,and_self,show l.getD 0 default=Lt.w0 l from rfl,show l.getD 1 default=Lt.w1 l from rfl];refine ifk (λhc=>by grind) (λ_=>?_);refine λH t=>?_
 have key:∀(l':List (List UInt8))(dst:List UInt8),0<l'.length->l'.length<=1099511627776->exP (iD r (uG r.abs dst l') ((uG r.abs dst l').2.Where - 1)) (λz x=>KK (z,x)) KP->H (l',⟨0,dst,[],[],[],[]⟩):=by
  intro l' dst v aa hk;refine t _ ?_;clear t h e0 H;have hk:match ig dst l' with
    |none=>KP (Lt.flt 3) r
    |some x=>if 1024<=r.long then KP (Lt.flt 2) r else KK ((),⟨(r.abs.block (λb=>{ b with Code:=b.Code++[x] })).P,r.at_,(if x.Op=31\/x.Op=34 then 7 else 6) - 1,r.first,r.long+1⟩):=by
   unfold uG at hk;rw[if_neg (by grind)]at hk;cases hs:ig dst l' with
   |none=>rw[hs]at hk;exact hk
   |some x=>
    rw[hs]at hk;simp only[show r.abs.Long=r.long from rfl]at hk|-;by_cases hl:1024<=r.long
    .rw[if_pos hl]at hk|-;exact hk
    rw[if_neg hl]at hk|-;exact hk
  unfold ig Bw at hk;have Z:l'.getD 0 default=Lt.w0 l':=rfl
  refine⟨⟨by decide,v⟩,?_⟩;unfold Lt.yOp;simp only[Z];obtain⟨_,_,Y,e4,M,N⟩:=pf (Lt.sOp (Lt.w0 l')).1;simp only[<- Y,<- e4,<- M,<- N];have f:(Lt.sOp (Lt.w0 l')).1=26\/(Lt.sOp (Lt.w0 l')).1=27->(Lt.rOf (Lt.sOp (Lt.w0 l')).1).1.Named=true:=by rintro(e|e)<;>rw[e]<;>rfl
  generalize Lt.sOp (Lt.w0 l')=O at hk f|-;obtain⟨op,s⟩:=O;simp only at hk f|-
  generalize(Lt.rOf op).1=C at hk f|-;cases A:s with
  |false=>grind
  |true=>
  rw[A]at hk;refine ifk (λhc=>by grind) (λ_=>?_);refine ifk (λhc=>?_) (λhc=>?_)
  .grind
  rw[if_neg (by grind)]at hk;have S:(l'.drop 1).take (l'.length - 1)=l'.drop 1:=alE (by grind)
  rw[S];refine⟨by decide,⟨by omega,akK _⟩,λI m=>?_⟩;have K:∀nm gs,(if decide (C.Least<=(gs.length:Int))&&decide ((gs.length:Int)<=C.Most)then(if 1024<=r.long then KP (Lt.flt 2) r else KK ((),⟨(r.abs.block (λb=>{ b with Code:=b.Code++[(⟨op,dst,nm,gs,[],[]⟩:Lt.Instr)] })).P,r.at_,(if op=31\/op=34 then 7 else 6) - 1,r.first,r.long+1⟩))else KP (Lt.flt 3) r)->I ⟨op,dst,nm,gs,[],[]⟩:=by
   intro nm gs d;refine m _ ?_;clear m hk I;refine λ_=>ifk (λU=>ifk (λc2=>?_) (λc2=>?_)) (λU=>?_)
   .grind
   .rw[if_pos (by grind)]at d;refine ifk (λhl=>?_) (λhl=>?_)
    .grind
    rw[if_neg (by grind)]at d;simp only[implies_true,forall_const,ac,jval,bor];refine λ_ _=>?_
    by_cases o:op=31\/op=34
    .rw[if_pos (by grind)];rw[if_pos o]at d;exact d
    rw[if_neg (by grind)];rw[if_neg o]at d;exact d
   grind
  clear m;refine λJ8 n=>?_
  have g8:=n (decide (op=26)||decide (op=27)) ?_
  .grind
  clear n J8;refine ifk (λc=>?_) (λc=>?_)
  .have c:op=26\/op=27:=by grind
   have a:=f c
   rw[if_pos c]at hk;refine λ_=>ifk (λc3=>?_) (λc3=>?_)
   .grind
   have h3:3<=l'.length:=by grind
   rw[if_neg kQ1]at hk;simp only[a,alH,OM,Bool.not_not]at hk;have k:(l'.drop 1).getD 1 default=Lt.w2 l':=by grind
   have D:((l'.drop 1).drop 0).take (1 - 0)=[Lt.w1 l']:=by grind [akX]
   have j:((l'.drop 1).drop 2).take ((l'.drop 1).length - 2)=l'.drop 3:=by grind [List.drop_drop,amT]
   rw[k,D,j];refine⟨⟨by decide,by grind⟩,?_⟩;have L:∀{P:Prop},(be (Lt.w2 l')=false->KP (Lt.flt 3) r)/\(be (Lt.w2 l')=true->P)->(if be (Lt.w2 l')=true then P else KP (Lt.flt 3) r):=by grind
   refine L ⟨λhn=>?_,λhn=>?_⟩
   .grind
   rw[hn]at hk;refine⟨by decide,⟨by decide,by grind⟩,by decide,⟨by grind,akK _⟩,λ_=>?_⟩;refine ao _ 1 (λi x=>(i=0/\x=(([]:List Lt.Arg),(0:Int)))\/(i=1/\x=([(dG (Lt.w1 l')).1],(1:Int))/\dC false (Lt.w1 l')=true)) (λR i x hi hx X=>?_) (λR x hx=>?_) _ (Or.inl ⟨rfl,rfl⟩)
   .rcases hx with⟨rfl,rfl⟩|⟨h1,_⟩
    .show(if decide ((0:Int) < (([Lt.w1 l']:List (List UInt8)).length:Int))=true then _ else _)
     rw[if_pos (by simp)];refine⟨⟨Int.le_refl _,Nat.one_pos⟩,?_⟩;show(if dC false (Lt.w1 l')=true then _ else _)
     refine ifk (λu=>?_) (λu=>?_)
     .exact⟨⟨by omega,by grind⟩,X _ (Or.inr ⟨rfl,rfl,u⟩)⟩
     grind
    omega
   rcases hx with⟨h1,_⟩|⟨_,rfl,u⟩
   .omega
   show(if decide ((1:Int) < (([Lt.w1 l']:List (List UInt8)).length:Int))=true then _ else _)
   rw[if_neg (by simp)];rw[if_pos u]at hk;refine⟨by show(l'.drop 3).length<=1099511627776;grind,?_⟩;refine ifk (λq=>?_) (λq=>?_)
   .rw[if_pos q]at hk;have J:(br (l'.drop 3) false).1.length<=1099511627776:=by grind [br]
    grind
   grind
  have c:¬ (op=26\/op=27):=by grind
  rw[if_neg c]at hk;refine ifk (λa=>?_) (λa=>?_)
  .rw[if_pos a]at hk;refine λ_=>ifk (λc3=>?_) (λc3=>?_)
   .grind
   have h3:2<=l'.length:=by grind
   rw[if_neg kQ1]at hk;simp only[a,alH,Bool.not_not]at hk;have k:(l'.drop 1).getD 0 default=Lt.w1 l':=by grind
   have j:((l'.drop 1).drop 1).take ((l'.drop 1).length - 1)=l'.drop 2:=by grind [List.drop_drop,amT]
   rw[k,j];refine⟨⟨by decide,by grind⟩,?_⟩;refine ifk (λhn=>?_) (λhn=>?_)
   .rw[hn]at hk;refine⟨by decide,⟨by grind,akK _⟩,by show(l'.drop 2).length<=1099511627776;grind,?_⟩
    grind
   grind
  rw[if_neg a]at hk;have a:C.Named=false:=Bool.eq_false_iff.2 a
  simp only[a,amA,al9,amO]at hk;refine⟨by show(l'.drop 1).length<=1099511627776;grind,?_⟩
  grind
 have es:((decide (2 < (l.length:Int)))&&(decide (Lt.w1 l=[61])))=Lt.sEq l:=by grind [Lt.sEq]
 refine λJ3 G=>?_
 have L:=G (Lt.sEq l) ?_
 .grind
 show(if Lt.sEq l=true then _ else _)
 by_cases hs:Lt.sEq l=true
 .rw[if_pos hs];rw[hs]at h;have h2:2<l.length:=by grind
  refine⟨⟨by decide,h0⟩,?_⟩;refine ifk (λhc=>⟨by decide,⟨by omega,akK _⟩,?_⟩) (λhc=>?_)
  .grind [alE,amT]
  rw[Bool.eq_false_iff.2 hc]at h;exact h
 grind
def hd(p:Lt.Program):Nat:=p.Classes.length+p.Globals.length+p.Externs.length
def Rel(w:Int)(r:Lt.Reader)(x:Lt.Read):Prop:=
 (r.heads<hd x.P/\((w=1/\x.Where=1)\/(w=0/\x.Where=2))) \/
 (¬ r.heads<hd x.P/\(0<=x.Long/\x.Long<=1024)/\((2<=w/\w<=7/\x.Where=w+1)\/(w=0/\x.Where=9))) \/
 (¬ r.heads<hd x.P/\w=r.where_/\x.Where=r.abs.Where/\x.Long=r.long)
theorem tz{r:Lt.Reader}(h:r.inv)(hw:3<=r.abs.Where):0<=r.long:=by
 obtain⟨_,_,_,h4⟩:=h
 grind [Lt.Reader.abs]
section
variable {r:Lt.Reader} {l:List (List UInt8)}
theorem UF(hz:(fo r.abs l).1=0):Rel 1 r (fo r.abs l).2:=by
 unfold fo at hz|-;split at hz
 .omega
 rename_i h1;rw[if_neg h1];split at hz
 .omega
 rename_i h2;rw[if_neg h2];refine .inl ⟨?_,.inl ⟨rfl,rfl⟩⟩
 grind [hd,Lt.Reader.heads,pD]
end
section
variable {r:Lt.Reader} {l:List (List UInt8)}
theorem UG(hz:(dZ r.abs l).1=0):Rel r.where_ r (dZ r.abs l).2:=by
 unfold dZ at hz|-;split at hz
 .omega
 rename_i h1;rw[if_neg h1];split at hz
 .omega
 rename_i h2;rw[if_neg h2];refine .inr (.inr ⟨?_,rfl,rfl,rfl⟩)
 grind [hd,Lt.Reader.heads,pD,Lt.last]
end
section
variable {r:Lt.Reader} {l:List (List UInt8)}
theorem OH(hz:(cW r.abs l).1=0):Rel 0 r (cW r.abs l).2:=by
 unfold cW at hz|-;split at hz
 .omega
 rename_i h1;rw[if_neg h1];refine .inl ⟨?_,.inr ⟨rfl,rfl⟩⟩
 grind [hd,Lt.Reader.heads,pD]
end
section
variable {r:Lt.Reader} {l:List (List UInt8)}
theorem OG(hz:(cM r.abs l).1=0):Rel 0 r (cM r.abs l).2:=by
 unfold cM at hz|-;split at hz
 .omega
 rename_i h1;rw[if_neg h1];refine .inl ⟨?_,.inr ⟨rfl,rfl⟩⟩
 grind [hd,Lt.Reader.heads,pD]
end
section
variable {r:Lt.Reader} {l:List (List UInt8)}
theorem ZB(hz:(gI r.abs l).1=0):Rel 2 r (gI r.abs l).2:=by
 unfold gI at hz|-;split at hz
 .omega
 rename_i h1;rw[if_neg h1];exact .inr (.inl ⟨al8 _,⟨Int.le_refl _,show(0:Int)<=1024 by decide⟩,.inl ⟨by decide,by decide,rfl⟩⟩)
end
section
variable {r:Lt.Reader} {l:List (List UInt8)}
variable (h:r.inv)
include h
theorem UH(hz:(dH r.abs l).1=0):Rel r.where_ r (dH r.abs l).2:=by
 unfold dH at hz|-;split at hz
 .omega
 rename_i h1;rw[if_neg h1];exact .inr (.inr ⟨al8 _,rfl,rfl,rfl⟩)
end
section
variable {r:Lt.Reader} {l:List (List UInt8)}
variable (h:r.inv)
include h
theorem ad4(hz:(lW r.abs l).1=0):Rel 3 r (lW r.abs l).2:=by
 unfold lW at hz|-;split at hz
 .omega
 rename_i h1;rw[if_neg h1];have hw:3<=r.abs.Where:=by grind
 exact .inr (.inl ⟨al8 _,⟨tz h hw,h.2.2.1.2⟩,.inl ⟨by decide,by decide,rfl⟩⟩)
end
section
variable {r:Lt.Reader} {l:List (List UInt8)}
variable (h:r.inv)
include h
theorem UE(hz:(dY r.abs l).1=0):Rel 4 r (dY r.abs l).2:=by
 unfold dY at hz|-;split at hz
 .omega
 rename_i h1;rw[if_neg h1];have hw:3<=r.abs.Where:=by grind
 exact .inr (.inl ⟨al8 _,⟨tz h hw,h.2.2.1.2⟩,.inl ⟨by decide,by decide,rfl⟩⟩)
end
section
variable {r:Lt.Reader} {l:List (List UInt8)}
variable (h:r.inv)
include h
theorem ad3(hz:(lM r.abs l).1=0):Rel 4 r (lM r.abs l).2:=by
 unfold lM at hz|-;split at hz
 .omega
 rename_i h1;rw[if_neg h1];split at hz
 .omega
 rename_i h2;rw[if_neg h2];have hw:r.abs.Where=5:=by grind
 have h0:=tz h kQ1
 have hl:¬ 1024<=r.long:=λe=>h2 (.inr e)
 exact .inr (.inl ⟨al8 _,⟨by show 0<=r.long+1;omega,by grind⟩,.inl ⟨by decide,by decide,hw⟩⟩)
end
section
variable {r:Lt.Reader} {l:List (List UInt8)}
variable (h:r.inv)
include h
theorem K7(hz:(bD r.abs l).1=0):Rel ((bD r.abs l).2.Where - 1) r (bD r.abs l).2:=by
 unfold bD at hz|-;split at hz
 .omega
 rename_i h1;rw[if_neg h1];split at hz
 .omega
 rename_i h2;rw[if_neg h2];split at hz
 .omega
 rename_i x hx;simp only[hx];split at hz
 .omega
 rename_i hl;rw[if_neg hl];have hw:3<=r.abs.Where:=by grind
 have h0:=tz h hw
 have hl:¬ 1024<=r.long:=hl
 refine .inr (.inl ⟨al8 _,⟨by show 0<=r.long+1;omega,by grind⟩,.inl ?_⟩)
 grind
end
section
variable {r:Lt.Reader} {l:List (List UInt8)}
variable (h:r.inv)
include h
theorem ah3(hz:(Lt.sAt r.abs l).1=0):Rel 6 r (Lt.sAt r.abs l).2:=by
 unfold Lt.sAt at hz|-;split at hz
 .omega
 rename_i h1;rw[if_neg h1];split at hz
 .omega
 rename_i h2;rw[if_neg h2];have hw:r.abs.Where=7:=by grind
 exact .inr (.inl ⟨al8 _,⟨tz h kQ1,h.2.2.1.2⟩,.inl ⟨by decide,by decide,hw⟩⟩)
end
section
variable {r:Lt.Reader} {l:List (List UInt8)}
variable (h:r.inv)
include h
theorem ad2(hz:(lL r.abs l).1=0):Rel 7 r (lL r.abs l).2:=by
 unfold lL at hz|-;split at hz
 .omega
 rename_i h1;rw[if_neg h1];have hw:7<=r.abs.Where:=by grind
 exact .inr (.inl ⟨al8 _,⟨tz h kQ1,h.2.2.1.2⟩,.inl ⟨by decide,by decide,rfl⟩⟩)
end
section
variable {r:Lt.Reader} {l:List (List UInt8)}
variable (h:r.inv)
include h
theorem ad1(a:r.abs.ins=true)(hz:(lK r.abs l).1=0):Rel 0 r (lK r.abs l).2:=by
 have hw:3<=r.abs.Where:=by grind
 unfold lK at hz|-;split at hz
 .exact .inr (.inl ⟨al8 _,⟨tz h hw,h.2.2.1.2⟩,.inr ⟨rfl,rfl⟩⟩)
 omega
end
theorem D7{r:Lt.Reader}{x y:Int×Lt.Read}{w:Int}(h1:x.1=y.1)(h2:x.1=0->x.2=y.2):iD r x w=iD r y w:=by grind [iD]
theorem Z7{l:List (List UInt8)}(h:Lt.w0 l=kj\/Lt.w0 l=dO\/Lt.w0 l=tj\/Lt.w0 l=sH):qO l=fC l:=by grind [qO,fC]
theorem Qh(r:Lt.Reader)(l:List (List UInt8))(h:r.inv):∃w,sM r l=iD r (aG r.abs l r.first) w/\((aG r.abs l r.first).1=0->Rel w r (aG r.abs l r.first).2):=by
 have ff:∀x:Lt.Read,¬ (((false,(0:Int)),x).1.1=true):=λx=>by simp
 unfold sM;by_cases hs:Lt.sEq l=true
 .have e:aG r.abs l r.first=bD r.abs l:=by grind [aG]
  rw[e,if_pos hs];exact⟨_,rfl,K7 h⟩
 rw[if_neg hs];by_cases q:Lt.w0 l=tu
 .have e:aG r.abs l r.first=if(r.first&&decide (l.length=1))=false then(3,r.abs)else(0,{ r.abs with P:={ r.p with SSA:=true } }):=by unfold aG;rw[if_neg hs,if_pos q];rfl
  rw[e,if_pos q];refine⟨_,rfl,λhz=>?_⟩;split at hz
  .omega
  rename_i hc;rw[if_neg hc];exact .inr (.inr ⟨al8 _,rfl,rfl,rfl⟩)
 rw[if_neg q];have e0:aG r.abs l r.first=if(aV r.abs l).1.1 then((aV r.abs l).1.2,(aV r.abs l).2)else if(bg r.abs l).1.1 then((bg r.abs l).1.2,(bg r.abs l).2)else if(aT r.abs l).1.1 then((aT r.abs l).1.2,(aT r.abs l).2)else bD r.abs l:=by grind [aG]
 rw[e0];unfold aV;by_cases f:Lt.w0 l=oY
 .rw[if_pos f,if_pos f];exact⟨_,rfl,UF⟩
 rw[if_neg f,if_neg f];by_cases n2:Lt.w0 l=mF
 .rw[if_pos n2,if_pos n2];exact⟨_,rfl,UG⟩
 rw[if_neg n2,if_neg n2];by_cases o:Lt.w0 l=iQ
 .rw[if_pos o,if_pos o];exact⟨_,rfl,OH⟩
 rw[if_neg o,if_neg o];by_cases g:Lt.w0 l=gk
 .rw[if_pos g,if_pos g];exact⟨_,rfl,OG⟩
 rw[if_neg g,if_neg g];by_cases k:Lt.w0 l=sG
 .rw[if_pos k,if_pos k];exact⟨_,rfl,ZB⟩
 rw[if_neg k,if_neg k,if_neg (ff _)];unfold bg;by_cases j:Lt.w0 l=mG
 .rw[if_pos j,if_pos j];exact⟨_,rfl,UH h⟩
 rw[if_neg j,if_neg j];by_cases n:Lt.w0 l=B4
 .rw[if_pos n,if_pos n];exact⟨_,rfl,ad4 h⟩
 rw[if_neg n,if_neg n];by_cases i:Lt.w0 l=oX
 .rw[if_pos i,if_pos i];exact⟨_,rfl,UE h⟩
 rw[if_neg i,if_neg i];by_cases m:Lt.w0 l=wH
 .rw[if_pos m,if_pos m];exact⟨_,rfl,ad3 h⟩
 rw[if_neg m,if_neg m,if_neg (ff _)];have eS:(Lt.w0 l=Lt.kAt\/Lt.w0 l=nC\/Lt.w0 l=kj\/Lt.w0 l=dO\/Lt.w0 l=tj\/Lt.w0 l=sH)->aT r.abs l=if r.abs.ins=false then((true,3),r.abs)else if Lt.w0 l=Lt.kAt then((true,(Lt.sAt r.abs l).1),(Lt.sAt r.abs l).2)else if Lt.w0 l=nC then((true,(lL r.abs l).1),(lL r.abs l).2)else((true,(lK r.abs l).1),(lK r.abs l).2):=λt=>by grind [aT]
 by_cases b:Lt.w0 l=Lt.kAt
 .rw[if_pos b,eS (.inl b)];by_cases a:r.abs.ins=false
  .rw[if_pos a];refine⟨6,?_,λhz=>by grind⟩;have:(Lt.sAt r.abs l).1=3:=by
    have:decide (r.abs.Where=7)=false:=by grind
    grind [Lt.sAt]
   exact D7 this (λhz=>by omega)
  rw[if_neg a,if_pos b];exact⟨_,rfl,ah3 h⟩
 rw[if_neg b];by_cases d:Lt.w0 l=nC
 .rw[if_pos d,eS (.inr (.inl d))];by_cases a:r.abs.ins=false
  .unfold sk;rw[if_pos a,if_pos a]
   grind
  grind [sk,ad2]
 rw[if_neg d];by_cases c:Lt.w0 l=kj\/Lt.w0 l=dO\/Lt.w0 l=tj\/Lt.w0 l=sH
 .rw[if_pos c,eS (.inr (.inr c))];by_cases a:r.abs.ins=false
  .unfold Ge;rw[if_pos a,if_pos a]
   grind
  grind [Ge,Z7,D7,ad1,lK]
 have s:aT r.abs l=((false,0),r.abs):=by grind [aT]
 rw[if_neg c,s,if_neg (ff _)];exact⟨_,rfl,K7 h⟩
def Sim(a b:Lt.Read):Prop:=a.P=b.P/\(a=b\/(a.Where<=2/\b.Where<=2/\(a.Where=1 ↔ b.Where=1)))
theorem Sim.out{a b:Lt.Read}(h:Sim a b):a.out=b.out:=by
 rcases h with⟨_,rfl|⟨h1,h2,_⟩⟩
 all_goals grind
theorem PW{P:Lt.Program}{w n m:Int}(h:Lt.Inv ⟨P,w,n⟩)(hw:w<=2):Lt.Inv ⟨P,w,m⟩:=⟨h.1,h.2.1,h.2.2.1,h.2.2.2.1,h.2.2.2.2.1,λh3=>absurd h3 (by grind)⟩
def lz(r:Lt.Reader)(w:Int)(x:Lt.Read):Lt.Reader:=⟨x.P,r.at_,w,false,if r.heads<hd x.P then -1 else x.Long⟩
theorem Uf{r:Lt.Reader}{w:Int}{x:Lt.Read}(h:r.inv)(hx:Lt.Inv x)(hr:Rel w r x):(lz r w x).inv/\Sim (lz r w x).abs x:=by
 obtain⟨P,W,n⟩:=x;obtain⟨hi,hw,hl,b⟩:=h;rcases hr with⟨h1,⟨rfl,h2⟩|⟨rfl,h2⟩⟩|⟨h1,h2,⟨h3,h4,h5⟩|⟨rfl,h3⟩⟩|⟨h1,rfl,h3,h4⟩
 .have h2:W=1:=h2
  subst h2;have e:(lz r 1 ⟨P,1,n⟩)=⟨P,r.at_,1,false,-1⟩:=by grind [lz]
  rw[e];exact⟨⟨show Lt.Inv ⟨P,1,-1⟩from PW hx (by decide),show(0:Int)<=1/\(1:Int)<=7 by decide,show(-1:Int) <= -1/\(-1:Int)<=1024 by decide,by simp⟩,rfl,.inr ⟨by simp[Lt.Reader.abs],by simp,by rfl⟩⟩
 .have h2:W=2:=h2
  subst h2;have e:(lz r 0 ⟨P,2,n⟩)=⟨P,r.at_,0,false,-1⟩:=by grind [lz]
  rw[e];exact⟨⟨show Lt.Inv ⟨P,2,-1⟩from PW hx (by decide),show(0:Int)<=0/\(0:Int)<=7 by decide,show(-1:Int) <= -1/\(-1:Int)<=1024 by decide,by simp[Lt.Reader.abs]⟩,rfl,.inr ⟨by simp[Lt.Reader.abs],by simp,by rfl⟩⟩
 .have h5:W=w+1:=h5
  have h2:0<=n/\n<=1024:=h2
  have e:(lz r w ⟨P,W,n⟩)=⟨P,r.at_,w,false,n⟩:=by grind [lz]
  have a:(⟨P,r.at_,w,false,n⟩:Lt.Reader).abs=⟨P,W,n⟩:=by grind [Lt.Reader.abs]
  rw[e];refine⟨⟨by grind,⟨by grind,h4⟩,⟨by grind,h2.2⟩,?_⟩,by rw[a];exact⟨rfl,.inl rfl⟩⟩
  grind
 .have h3:W=9:=h3
  have h2:0<=n/\n<=1024:=h2
  have e:(lz r 0 ⟨P,W,n⟩)=⟨P,r.at_,0,false,n⟩:=by grind [lz]
  have a:(⟨P,r.at_,0,false,n⟩:Lt.Reader).abs=⟨P,W,n⟩:=by grind [Lt.Reader.abs]
  rw[e];refine⟨⟨by grind,show(0:Int)<=0/\(0:Int)<=7 by decide,⟨by grind,h2.2⟩,?_⟩,by rw[a];exact⟨rfl,.inl rfl⟩⟩
  grind
 have h4:n=r.long:=h4
 have h3:W=r.abs.Where:=h3
 have e:(lz r r.where_ ⟨P,W,n⟩)=⟨P,r.at_,r.where_,false,n⟩:=by grind [lz]
 have a:(⟨P,r.at_,r.where_,false,n⟩:Lt.Reader).abs=⟨P,W,n⟩:=by rw[h3,h4];rfl
 rw[e];refine⟨⟨by grind,hw,by grind,?_⟩,by rw[a];exact⟨rfl,.inl rfl⟩⟩
 grind
theorem adD(r:Lt.Reader)(l:List (List UInt8))(h:r.inv):∃w,BQ r l=(if(aG r.abs l r.first).1=0 then(.ok (),lz r w (aG r.abs l r.first).2)else(.error (Lt.flt (aG r.abs l r.first).1),r)) /\
  ((aG r.abs l r.first).1=0->(lz r w (aG r.abs l r.first).2).inv/\Sim (lz r w (aG r.abs l r.first).2).abs (aG r.abs l r.first).2):=by
 obtain⟨w,h1,h2⟩:=Qh r l h;refine⟨w,?_,λhz=>Uf h (qh h.1 hz) (h2 hz)⟩;unfold BQ;rw[h1];unfold iD;by_cases hz:(aG r.abs l r.first).1=0
 .rw[if_pos hz,if_pos hz];rfl
 grind
theorem Ar{p:Lt.Program}(h1:p.Classes.length<=8)(h2:p.Globals.length<=8)(h3:p.Externs.length<=8) :
  (i64.wrap ((i64.wrap ((p.Classes.length:Int)+(p.Globals.length:Int)))+(p.Externs.length:Int)))=((hd p:Nat):Int):=by
 grind [cN,hd]
def akH(r:Lt.Reader)(X:Except Value Unit×Lt.Reader):Except Value Unit×Lt.Reader:=match X with
 |(.ok _,x)=>(.ok (),{ x with first:=false,long:=if r.heads<x.heads then -1 else x.long })
 |(.error v,x)=>(.error v,x)
variable{KK:Unit×Lt.Reader->Prop}{X:Except Value Unit×Lt.Reader}
theorem aiI{r:Lt.Reader}{l:List (List UInt8)}(hp:bP r l){KP:Value->Lt.Reader->Prop}
  (i:X=sM r l) (h:exP (BQ r l) (λz x=>KK (z,x)) KP):yGo r l KK KP X:=by
 obtain⟨a,d,hr⟩:=id hp;have hi:=a.1
 have b1:r.p.Classes.length<=8:=hi.2.1.1
 have b2:r.p.Globals.length<=8:=gM (k:=8) hi.2.2.1.1
 have b3:r.p.Externs.length<=8:=hi.2.1.2.1
 obtain⟨w,h1,h2⟩:=Qh r l a;unfold yGo;rw[i];refine λ_ _ _=>⟨hp,?_⟩
 have e:BQ r l=akH r (sM r l):=rfl
 rw[e]at h;by_cases hz:(aG r.abs l r.first).1=0
 .have hx:=qh hi hz
  have b:sM r l=(.ok (),⟨(aG r.abs l r.first).2.P,r.at_,w,r.first,(aG r.abs l r.first).2.Long⟩):=by grind [iD]
  rw[b]at h|-;generalize(aG r.abs l r.first).2=x at hx h|-;have g:x.P.Classes.length<=8:=hx.2.1.1
  have f:x.P.Globals.length<=8:=gM (k:=8) hx.2.2.1.1
  have c3:x.P.Externs.length<=8:=hx.2.1.2.1
  show aa _ _
  simp only[ap,aX,ac];refine λ_ _ _=>?_
  rw[Ar b1 b2 b3,Ar g f c3];refine ifk (λc=>?_) (λc=>?_)
  .have c:r.heads<hd x.P:=by simp at c;exact c
   have h:KK ((),⟨x.P,r.at_,w,false,if r.heads<hd x.P then -1 else x.Long⟩):=h
   grind
  have c:¬ r.heads<hd x.P:=λe=>c (by simpa using(show hd r.p<hd x.P from e))
  have h:KK ((),⟨x.P,r.at_,w,false,if r.heads<hd x.P then -1 else x.Long⟩):=h
  grind
 have b:sM r l=(.error (Lt.flt (aG r.abs l r.first).1),r):=by grind [iD]
 rw[b]at h|-;exact h
theorem aeR{r:Lt.Reader}{l:List (List UInt8)}(hp:bP r l){KP:Value->Lt.Reader->Prop}
  (c:(if Lt.sEq l then xY r l else X)=sM r l) (h:exP (BQ r l) (λz x=>KK (z,x)) KP):pB r l KK KP X:=by
 have es:((decide (2 < (l.length:Int)))&&(decide ((l.getD 1 default)=[61])))=Lt.sEq l:=by grind [Lt.sEq]
 refine λb a=>?_
 grind [aiI]
theorem Ub(r:Lt.Reader)(l:List (List UInt8))(hp:bP r l)(KK:Unit×Lt.Reader->Prop)(KP:Value->Lt.Reader->Prop)(h:exP (BQ r l) (λz x=>KK (z,x)) KP):PU r l KK KP:=by
 unfold PU;refine⟨⟨by decide,ak9.2 hp.2.1⟩,?_⟩;have b:∀X,(if Lt.sEq l then xY r l else X)=sM r l->pB r l KK KP X:=λX a=>aeR hp a h
 grind (splits:=20) [sM]
theorem ZO{a b:Lt.Read}(h:Sim a b)(l:List (List UInt8))(first:Bool):(aG a l first).1=(aG b l first).1/\Sim (aG a l first).2 (aG b l first).2:=by
 obtain⟨d,rfl|⟨h1,h2,h3⟩⟩:=h
 .exact⟨rfl,rfl,.inl rfl⟩
 obtain⟨P,w,n⟩:=a;obtain⟨e,w',n'⟩:=b;have d:P=e:=d
 subst d;have h1:w<=2:=h1
 have h2:w'<=2:=h2
 have h3:w=1 ↔ w'=1:=h3
 have s:∀p:Lt.Program,Sim ⟨p,w,n⟩ ⟨p,w',n'⟩:=λp=>⟨rfl,.inr ⟨h1,h2,h3⟩⟩
 have c:(⟨P,w,n⟩:Lt.Read).out=true:=by grind
 have ob:(⟨P,w',n'⟩:Lt.Read).out=true:=by grind
 have m:(⟨P,w,n⟩:Lt.Read).ins=false:=by grind
 have k:(⟨P,w',n'⟩:Lt.Read).ins=false:=by grind
 have w1:decide (w=1)=decide (w'=1):=decide_eq_decide.2 h3
 have t:decide (w=3)=false:=by grind
 have f:decide (w'=3)=false:=by grind
 have u:decide (w=4)=false:=by grind
 have g:decide (w'=4)=false:=by grind
 have q:decide (w=5)=false:=by grind
 have i:decide (w'=5)=false:=by grind
 have o:decide (w=9)=false:=by grind
 have j:decide (w'=9)=false:=by grind
 have hc:(bD ⟨P,w,n⟩ l).1=(bD ⟨P,w',n'⟩ l).1/\Sim (bD ⟨P,w,n⟩ l).2 (bD ⟨P,w',n'⟩ l).2:=by grind [bD]
 have v:(aV ⟨P,w,n⟩ l).1=(aV ⟨P,w',n'⟩ l).1/\Sim (aV ⟨P,w,n⟩ l).2 (aV ⟨P,w',n'⟩ l).2:=by
  unfold aV;split
  .unfold fo;simp only[c,ob];split
   .grind
   split
   .grind
   exact⟨rfl,rfl,.inr ⟨show(1:Int)<=2 by decide,show(1:Int)<=2 by decide,by simp⟩⟩
  split
  .grind [dZ]
  split
  .unfold cW;simp only[c,ob];split
   .grind
   exact⟨rfl,rfl,.inr ⟨show(2:Int)<=2 by decide,show(2:Int)<=2 by decide,by simp⟩⟩
  split
  .unfold cM;simp only[c,ob];split
   .grind
   exact⟨rfl,rfl,.inr ⟨show(2:Int)<=2 by decide,show(2:Int)<=2 by decide,by simp⟩⟩
  split
  .unfold gI;simp only[c,ob];split
   .grind
   exact⟨rfl,rfl,.inl rfl⟩
  grind
 have hp:(bg ⟨P,w,n⟩ l).1=(bg ⟨P,w',n'⟩ l).1/\Sim (bg ⟨P,w,n⟩ l).2 (bg ⟨P,w',n'⟩ l).2:=by grind [bg,dH,lW,dY,lM]
 have r:(aT ⟨P,w,n⟩ l).1=(aT ⟨P,w',n'⟩ l).1/\Sim (aT ⟨P,w,n⟩ l).2 (aT ⟨P,w',n'⟩ l).2:=by grind [aT]
 grind [aG]
def c3(n:Int):Prop:=n=0\/n=2\/n=3
theorem BV:c3 0:=.inl rfl
theorem Sq:c3 2:=.inr (.inl rfl)
theorem sY:c3 3:=.inr (.inr rfl)
theorem zG(c:Prop)[Decidable c]:c3 (if c then 2 else 0):=by grind [Sq,BV]
theorem abA(r:Lt.Read)(l:List (List UInt8)):c3 (bD r l).1:=by grind [bD,sY,Sq,BV]
theorem abB(r:Lt.Read)(l:List (List UInt8)):c3 (aV r l).1.2:=by
 unfold aV;split
 .grind [fo,sY,Sq,BV]
 split
 .grind [dZ,sY,Sq,BV]
 split
 .unfold cW;split
  .exact sY
  exact zG _
 split
 .unfold cM;split
  .exact sY
  exact zG _
 split
 .unfold gI;split
  .exact sY
  exact zG _
 exact BV
theorem abC(r:Lt.Read)(l:List (List UInt8)):c3 (bg r l).1.2:=by
 unfold bg;split
 .unfold dH;split
  .exact sY
  exact zG _
 split
 .unfold lW;split
  .exact sY
  exact zG _
 split
 .unfold dY;split
  .exact sY
  exact zG _
 grind [lM,sY,Sq,BV]
theorem WP(r:Lt.Read)(l:List (List UInt8)):c3 (aT r l).1.2:=by
 unfold aT;split
 .split
  .exact sY
  split
  .grind [Lt.sAt,sY,Sq,BV]
  split
  .unfold lL;split
   .exact sY
   exact zG _
  grind [lK,BV,sY]
 exact BV
theorem NZ(r:Lt.Read)(l:List (List UInt8))(b:Bool):c3 (aG r l b).1:=by grind [aG,abA,sY,BV,abB,abC,WP]
theorem ag6(r:Lt.Read)(l:List (List UInt8))(b:Bool):(Lit.int .i64 (aG r l b).1).wf=true:=by rcases NZ r l b with e|e|e<;>rw[e]<;>decide
theorem NW(s:List UInt8)(KK:Lt.Program×Int×Int->Prop)(h:KK (cy s)):zd s KK:=by
 unfold zd;dsimp only;unfold cy dI at h;have l1:(gz s).1=(bQ s).1.map λl=>(⟨l.N,l.Words⟩:Lt.Line):=rfl
 have l2:(gz s).2.1=(bQ s).2.1:=rfl
 have o:(gz s).2.2=(bQ s).2.2:=rfl
 simp only[l1,l2,o,ac,am,and_self];refine ifk (λhc=>?_) (λhc=>?_)
 .grind
 rw[if_pos (by grind)]at h;have f:=Lo s
 generalize(bQ s).1=L at h f;rw[akT];refine λhl=>?_
 refine ao _ L.length (λi x=>∃r d,x=((i:Int),r)/\r.inv/\Sim r.abs d/\r.first=decide (i=0)/\KK (cX (L.drop i) (decide (i=0)) d)) (λR i x hi hx m=>?_) (λR x hx=>?_) _ ⟨_,⟨⟨false,[],[],[],[]⟩,0,0⟩,rfl,⟨?_,by decide,by decide,by decide⟩,⟨rfl,.inr ⟨by decide,by decide,by decide⟩⟩,rfl,h⟩
 .obtain⟨r,d,rfl,a,hs,hf,hk⟩:=hx;have n:(L.map λl=>(⟨l.N,l.Words⟩:Lt.Line)).getD i default=⟨(L.getD i default).N,(L.getD i default).Words⟩:=by grind
  simp only[aW hi,if_true,Int.toNat_natCast,n];obtain⟨e,c⟩:=f _ (az L hi);rw[akX hi,show L[i]=L.getD i default by grind,cX]at hk;generalize L.getD i default=ln at hk e c|-;have b:(⟨r.p,ln.N,r.where_,r.first,r.long⟩:Lt.Reader).inv:=a
  obtain⟨w,g,j⟩:=adD _ ln.Words b;have q:(⟨r.p,ln.N,r.where_,r.first,r.long⟩:Lt.Reader).abs=r.abs:=rfl
  rw[q]at g j;have sl:=ZO hs ln.Words r.first
  rw[<- hf,<- sl.1]at hk;refine⟨⟨akQ i,hi⟩,⟨b,e,c⟩,?_⟩;rw[g];by_cases hz:(aG r.abs ln.Words r.first).1=0
  .rw[if_pos hz];rw[if_pos hz]at hk;obtain⟨g1,g2⟩:=j hz;refine m _ ⟨_,_,by grind [ae],g1,?_,by rfl,by simpa using hk⟩;obtain⟨t,u⟩:=g2;obtain⟨k,q2⟩:=sl.2;refine⟨t.trans k,?_⟩
   grind
  rw[if_neg hz];rw[if_neg hz]at hk;exact⟨_,rfl,ag6 _ _ _,hk⟩
 .obtain⟨r,d,rfl,a,hs,hf,hk⟩:=hx;rw[alM,cX]at hk;simp only[kw,akP,if_false];rw[Ap a.2.1,hs.out];cases ho:d.out with
  |true=>rw[ho,<- hs.1]at hk;exact hk
  |false=>rw[ho]at hk;exact⟨3,rfl,by decide,hk⟩
 exact⟨⟨by decide,by decide⟩,⟨by decide,by decide,by decide⟩,⟨rfl,rfl,rfl⟩,λh=>absurd h (by decide),λ_=>rfl,λh=>absurd h (by decide)⟩
theorem oe(n:Int):Lt.inR (i64.wrap n):=nv n
def ve(n:Int)(c:UInt8):Int:=i64.wrap ((i64.wrap (n*10)) - (i64.wrap (((UInt8.ofNat (IntKind.u8.wrap (((c.toNat:Nat):Int) - (((48:UInt8).toNat:Nat):Int))).toNat).toNat:Nat):Int)))
def uU(c:UInt8):Bool:=decide (48<=c.toNat)&&decide (c.toNat<=57)
variable{c:UInt8}
theorem QJ{m:Nat}(h1:48<=c.toNat)(h2:c.toNat<=57)(h3:10*m+(c.toNat - 48)<=9223372036854775808):ve (-(m:Int)) c=-((10*m+(c.toNat - 48):Nat):Int):=by
 unfold ve;have a:IntKind.u8.wrap (((c.toNat:Nat):Int) - (((48:UInt8).toNat:Nat):Int))=((c.toNat - 48:Nat):Int):=by grind [IntKind.wrap,IntKind.bits]
 rw[a,Int.toNat_natCast];have b:(UInt8.ofNat (c.toNat - 48)).toNat=c.toNat - 48:=by simp;omega
 grind [cN]
theorem MN:(n:Nat)->n<=9223372036854775808->(Lt.digs n).foldl ve 0=-(n:Int):=by
 intro n;induction n using Nat.strongRecOn with
 |_ n ih=>
  intro hn;have hd:∀k:Nat,k < 10->(UInt8.ofNat (48+k)).toNat=48+k:=λk hk=>by simp;omega
  by_cases h:n < 10
  .rw[gU h];show ve (-((0:Nat):Int)) _=_
   rw[QJ (by grind) (by grind) (by grind),hd n h];omega
  rw[ni h,oK,ih (n / 10) kQ1 kQ1];have:=amU n (show 10 > 0 by decide)
  rw[QJ (by grind) (by grind) (by grind),hd _ this];omega
theorem Di:∀(l:List UInt8)(b:Int),Lt.inR b->Lt.inR (l.foldl ve b)
 |[],b,h=>h
 |c::l,b,h=>Di l _ (oe _)
theorem ad8(h:∀n,Lt.inR n->aQ n≠s):bd s=(0,false):=by unfold bd;rw[if_neg];exact h _ (nv _)
theorem DK{n:Int}(h:Lt.inR n)(e:aQ n=s):s≠[]/\s.length<=20 /\
  (∀a:Nat,(if decide (s.getD 0 0=45)=true then(1:Int)else 0)=(a:Int)->(s.drop a).all uU=true/\(if decide ((a:Int)=0)=true then i64.wrap (0 - (s.drop a).foldl ve 0)else(s.drop a).foldl ve 0)=n):=by
 have hl:=o7 h
 have f:=Qr n.natAbs
 have d:=s7 n.natAbs
 unfold Lt.inR at h;have hf:=MN n.natAbs kQ1
 have j:(Lt.digs n.natAbs).all uU=true:=by grind [uU]
 refine⟨by grind [wP],by grind,λa k=>?_⟩;by_cases hn:n < 0
 .grind [aQ]
 have c:s=Lt.digs n.natAbs:=by grind [aQ]
 have b:¬ s.getD 0 0=45:=by intro g;rw[c]at g;cases i:Lt.digs n.natAbs<;>simp_all
 have:a=0:=by grind
 grind [cN]
theorem zW(c d:UInt8):decide ((((c.toNat:Nat):Int))=((d.toNat:Nat):Int))=decide (c=d):=by grind [UInt8.toNat_inj]
theorem Nn(s:List UInt8)(KK:Int×Bool->Prop)(h:KK (fG s)):GH s KK:=by
 unfold GH;unfold fG at h;have no:(∀n,Lt.inR n->aQ n≠s)->KK (0,false):=λhn=>by grind [ad8]
 simp only[zW,ac,am,aX,jval,bor];refine ifk (λhc=>no (λn hn e=>?_)) (λhc=>?_)
 .grind [DK]
 simp only[alO,decide_eq_true_eq,not_or]at hc;have h0:0<s.length:=ak9.2 hc.1
 refine⟨⟨by decide,h0⟩,?_⟩;obtain⟨a,j,w⟩:∃a:Nat,(if decide (s.getD 0 0=45)=true then(1:Int)else 0)=(a:Int)/\a<=1:=by
  by_cases l:s.getD 0 0=45
  .exact⟨1,by grind,akK _⟩
  grind
 have d:∀n,Lt.inR n->aQ n=s->(s.drop a).all uU=true/\(if decide ((a:Int)=0)=true then i64.wrap (0 - (s.drop a).foldl ve 0)else(s.drop a).foldl ve 0)=n:=λn hn e=>(DK hn e).2.2 a j
 rw[j];refine ao _ (s.length-a) (λi x=>x=((((s.drop a).take i).foldl ve 0),((a+i:Nat):Int))/\((s.drop a).take i).all uU=true) (λR i x hi hx o=>?_) (λR x hx=>?_) _ ⟨rfl,rfl⟩
 .obtain⟨rfl,c⟩:=hx;have b:a+i<s.length:=by omega
  have g:i < (s.drop a).length:=by grind
  have p:(s.drop a).getD i default=s.getD (a+i) 0:=by grind
  have et:=aZ (s.drop a) g
  rw[p]at et;simp only[aW b,if_true,Int.toNat_natCast];have bad:¬ uU (s.getD (a+i) 0)=true->KK (0,false):=λhd=>no (λn hn e=>by grind)
  have t:(48:UInt8).toNat=48:=rfl
  have q:(57:UInt8).toNat=57:=rfl
  refine λ_=>⟨⟨by omega,b⟩,?_⟩
  refine ifk (λu=>bad ?_) (λu=>⟨⟨by omega,b⟩,ifk (λr=>bad ?_) (λr=>⟨⟨by omega,b⟩,o _ ⟨?_,?_⟩⟩)⟩)
  .grind [uU]
  .grind [uU]
  .rw[et,oK,ae kQ1];rfl
  grind [uU]
 obtain⟨rfl,c⟩:=hx;have m:a+(s.length-a)=s.length:=by omega
 have k:(s.drop a).take (s.length-a)=s.drop a:=alE (by grind)
 rw[k]at c;rw[m,k];simp only[kw,akP,if_false];refine λ_=>?_
 have f:Lt.inR (if decide ((a:Int)=0)=true then i64.wrap (0 - (s.drop a).foldl ve 0)else(s.drop a).foldl ve 0):=by grind [oe,Di,Lt.inR]
 generalize hv:(if decide ((a:Int)=0)=true then i64.wrap (0 - (s.drop a).foldl ve 0)else(s.drop a).foldl ve 0)=v at f d|-;refine⟨f,?_⟩
 grind [jV]
def yi:List UInt8:=[48,49,50,51,52,53,54,55,56,57,97,98,99,100,101,102]
theorem ahI(c:UInt8):iO yi c < 0\/(0<=iO yi c/\iO yi c < 16/\mE (iO yi c).toNat=c):=by
 have:∀k:Fin 256,iO yi (UInt8.ofNat k.1) < 0\/(0<=iO yi (UInt8.ofNat k.1)/\iO yi (UInt8.ofNat k.1) < 16/\mE (iO yi (UInt8.ofNat k.1)).toNat=UInt8.ofNat k.1):=by decide +kernel
 have h:=this ⟨c.toNat,c.toNat_lt⟩
 grind [UInt8.ofNat_toNat]
theorem acQ(k:Nat):¬ iO yi (mE k) < 0:=by
 have:∀j:Fin 16,¬ iO yi (mE j.1) < 0:=by decide +kernel
 have h:=this ⟨k % 16,amU _ (by decide)⟩
 grind [mE]
theorem ah7{u d:Nat}(f:u < 1152921504606846976)(hd:d < 16) :
  (IntKind.u64.wrap ((BitVec.ofInt IntKind.u64.bits (IntKind.u64.wrap ((u:Int)*2 ^ (min (4:Int).toNat IntKind.u64.bits))) ||| BitVec.ofInt IntKind.u64.bits (IntKind.u64.wrap (d:Int))).toNat:Nat))=((16*u+d:Nat):Int):=by
 have e:(u:Int)*2 ^ (min (4:Int).toNat IntKind.u64.bits)=((u*16:Nat):Int):=by rfl
 have w1:IntKind.u64.wrap ((u*16:Nat):Int)=((u*16:Nat):Int):=cK kQ1
 have w2:IntKind.u64.wrap ((d:Nat):Int)=((d:Nat):Int):=cK kQ1
 rw[e,w1,w2];show IntKind.u64.wrap (((BitVec.ofInt 64 ((u*16:Nat):Int) ||| BitVec.ofInt 64 ((d:Nat):Int)).toNat:Nat):Int)=_
 have a:∀n:Nat,BitVec.ofInt 64 ((n:Nat):Int)=BitVec.ofNat 64 n:=λn=>BitVec.ofInt_natCast ..
 rw[a,a,BitVec.toNat_or,BitVec.toNat_ofNat,BitVec.toNat_ofNat,Nat.mod_eq_of_lt kQ1,Nat.mod_eq_of_lt kQ1];have c:u*16 ||| d=16*u+d:=by
  have:=Nat.shiftLeft_add_eq_or_of_lt (i:=4) (b:=d) kQ1 u
  grind [Nat.shiftLeft_eq]
 rw[c,cK kQ1]
theorem ad7(h:∀n,Lt.inR n->mL n≠s):gH s=(0,false):=by unfold gH;rw[if_neg];exact λhc=>h _ (oe _) hc.2
theorem Yb{a b:Nat}(c:a < 18446744073709551616)(hb:b < 18446744073709551616)(h:lu 16 (a:Int) []=lu 16 (b:Int) []):a=b:=by grind [wF]
theorem Nc(s:List UInt8)(KK:Int×Bool->Prop)(h:KK (Ad s)):uj s KK:=by
 unfold uj;unfold Ad at h;have no:(∀n,Lt.inR n->mL n≠s)->KK (0,false):=λhn=>by grind [ad7]
 have pre:∀n,mL n=s->np s [48,102]=(lu 16 (IntKind.u64.wrap (cG n)) [],true):=by intro n e;rw[<- e];rfl
 have o:∀n,(lu 16 (IntKind.u64.wrap (cG n)) []).length=16/\∀c∈lu 16 (IntKind.u64.wrap (cG n)) [],¬ iO yi c < 0:=by intro n;refine⟨by rfl,?_⟩;rw[iX,yB 16 _ [] (BitVec.isLt _)];intro c hc;rw[amB]at hc;obtain⟨i,_,rfl⟩:=ak5.1 hc;exact acQ _
 have hp:(np s [48,102]).2=true->s=[48,102]++(np s [48,102]).1:=by
  unfold np Go.Lib.trimPrefix;intro hp;have hp:Go.Lib.hasPrefix s [48,102]=true:=hp
  rw[if_pos hp];obtain⟨t,B⟩:=List.isPrefixOf_iff_prefix.1 hp
  grind
 change uj s KK
 unfold uj;rw[show([48,49,50,51,52,53,54,55,56,57,97,98,99,100,101,102]:List UInt8)=yi from rfl];generalize np s [48,102]=v at pre hp|-;obtain⟨rest,ok⟩:=v;simp only at hp|-
 simp only[ac,am,aX,jval,bor];refine ifk (λhc=>no (λn hn e=>?_)) (λhc=>?_)
 .grind
 simp only[alO,alC,decide_eq_false_iff_not,not_or,Decidable.not_not,akV]at hc;have hs:=hp hc.1
 have z:rest.length=16:=by omega
 refine λ_=>?_
 refine ao _ 16 (λi x=>∃u:Nat,x=((u:Int),(i:Int))/\u < 16 ^ i/\∀l,lu i (u:Int) l=rest.take i++l) (λR i x hi hx y=>?_) (λR x hx=>?_) _ ⟨0,rfl,by decide,λl=>rfl⟩
 .obtain⟨u,rfl,k,hl⟩:=hx;have a:i<rest.length:=by omega
  have et:rest.take (i+1)=rest.take i++[rest.getD i 0]:=aZ rest a
  have hm:rest.getD i 0∈rest:=az rest a
  simp only[aW a,if_true,Int.toNat_natCast];refine⟨⟨akQ i,a⟩,ifk (λb=>no (λn hn e=>?_)) (λb=>⟨by decide,y _ ?_⟩)⟩
  .grind
  rcases ahI (rest.getD i 0)with m|⟨A,g,hd⟩
  .grind
  have p:16 ^ i<=16 ^ 15:=Nat.pow_le_pow_right (by decide) kQ1
  have q:(16:Nat) ^ 15=1152921504606846976:=by decide
  obtain⟨d,j⟩:=alG A;rw[j]at hd g|-;rw[Int.toNat_natCast]at hd;refine⟨16*u+d,?_,?_,λl=>?_⟩
  .grind [ah7,ae]
  .omega
  rw[lu,show Int.tdiv ((16*u+d:Nat):Int) 16=(((16*u+d) / 16:Nat):Int)from rfl,show(16*u+d) / 16=u by omega,cK kQ1,hl,E1];have:mE (16*u+d)=mE d:=by unfold mE;congr 1;omega
  grind
 obtain⟨u,rfl,k,hl⟩:=hx;have w:(16:Nat) ^ 16=18446744073709551616:=by decide
 have k:u < 18446744073709551616:=by omega
 have hr:=hl []
 rw[amB,alE kQ1]at hr;have D:IntKind.u64.wrap (i64.wrap (u:Int))=(u:Int):=by grind [IntKind.wrap,IntKind.signed,IntKind.bits]
 have C:∀n:Int,Lt.inR n->i64.wrap (IntKind.u64.wrap n)=n:=by grind [Lt.inR,IntKind.wrap,IntKind.signed,IntKind.bits]
 rw[show decide (((16:Nat):Int) < (rest.length:Int))=false by grind];simp only[akP,if_false];by_cases b:(!decide (Lt.Plain (i64.wrap (u:Int))=i64.wrap (u:Int)))=true
 .rw[if_pos b];refine no (λn hn e=>?_);have f:=pre n e
  simp only[Prod.mk.injEq]at f;have h1:=f.1
  rw[<- hr,iX]at h1;have h2:=Yb k (BitVec.isLt _) h1
  have h3:i64.wrap (u:Int)=cG n:=by grind [iX,DV]
  have h4:cG (cG n)=cG n:=by grind [cG]
  grind [lF]
 rw[if_neg b];have r:Lt.Plain (i64.wrap (u:Int))=i64.wrap (u:Int):=by grind
 have e:mL (i64.wrap (u:Int))=s:=by grind [mL,lF]
 grind [vF,oe,lF]
theorem UL(h:(bd s).2=true):s≠[]/\∀c∈s,c=45\/(48<=c.toNat/\c.toNat<=57):=by grind [kW,wP,jP]
theorem vG:Lt.inR (bd s).1:=by
 unfold bd;split
 .exact nv _
 grind [Lt.inR]
theorem xa(h:(gH s).2=true):(∃r,s=48::102::r)/\Lt.Plain (gH s).1=(gH s).1/\gW (gH s).1=s:=by
 unfold gH at h|-;split at h
 .rename_i hc;rw[if_pos hc];have e:=vF (n:=Ed s) (oe _)
  rw[hc.2]at e;unfold gH at e;rw[if_pos hc]at e;simp only[Prod.mk.injEq,and_true]at e;refine⟨⟨_,by rw[<- hc.2];rfl⟩,by grind [lF],?_⟩
  grind [Ae]
 grind
theorem Le:Lt.inR (gH s).1:=by
 unfold gH;split
 .exact oe _
 grind [Lt.inR]
theorem ZH{n:Int}:bk ⟨5,[],n⟩=true ↔ 0<=n/\n<=999:=by grind [bk]
theorem Q6(s:List UInt8):dG s=if Lt.Name s=true then(⟨1,s,0⟩,true)else if(bd s).2=true then(⟨2,[],(bd s).1⟩,true)else if(gH s).2=true then(⟨3,[],(gH s).1⟩,true)
  else if s=[110,117,108,108]then(⟨4,[],0⟩,true)else if s.getD 0 0=35/\(bd (s.drop 1)).2=true/\0<=(bd (s.drop 1)).1/\(bd (s.drop 1)).1<=999 then(⟨5,[],(bd (s.drop 1)).1⟩,true)else(⟨0,[],0⟩,false):=by
 unfold dG;rw[ZY];have a:nX s ⟨2,[],(bd s).1⟩=(bd s).2:=by
  rw[Bool.eq_iff_iff,fU,LH];constructor
  .grind [jV,vG]
  intro h;exact⟨rfl,kW h⟩
 have t3:nX s ⟨3,[],(gH s).1⟩=(gH s).2:=by
  rw[Bool.eq_iff_iff,fU];constructor
  .intro ⟨hr,e⟩;have hp:Lt.Plain (gH s).1=(gH s).1:=by grind [bk]
   rw[Er hp,<- Ae]at e
   grind [vF,Le]
  grind [xa,bk,Er]
 have t4:nX s ⟨4,[],0⟩=decide (s=[110,117,108,108]):=by rw[Bool.eq_iff_iff,fU,afP,decide_eq_true_eq];exact⟨λh=>h.2.symm,λh=>⟨rfl,h.symm⟩⟩
 have t5:nX s ⟨5,[],(bd (s.drop 1)).1⟩=decide (s.getD 0 0=35/\(bd (s.drop 1)).2=true/\0<=(bd (s.drop 1)).1/\(bd (s.drop 1)).1<=999):=by
  rw[Bool.eq_iff_iff,fU,decide_eq_true_eq];constructor
  .grind [ZH,Rk,jV,vG]
  intro ⟨h1,h2,h3,h4⟩;refine⟨ZH.2 ⟨h3,h4⟩,?_⟩;rw[Rk h3 h4,kW h2];cases s<;>grind
 grind
theorem Kh(s:List UInt8)(KK:Lt.Arg×Bool->Prop)(h:KK (se s)):CX s KK:=by
 unfold CX;unfold se at h;rw[Q6]at h;have k:(s.drop 1).take (s.length - 1)=s.drop 1:=alE (by grind)
 have b:(bd s).2=true->∃a r,s=a::r/\(a=45\/(48<=a.toNat/\a.toNat<=57))/\∀c∈r,c=45\/(48<=c.toNat/\c.toNat<=57):=by intro hn;obtain⟨h1,h2⟩:=UL hn;cases s<;>grind
 rw[k];unfold fG;simp only[zW];refine ifk (λf=>?_) (λf=>ifk (λd=>?_) (λd=>ifk (λc3=>?_) (λc3=>?_)))
 .have f:s=[]:=by grind
  subst f;exact kk h (by decide +kernel)
 .have d:s=[110,117,108,108]:=by grind
  subst d;exact kk h (by decide +kernel)
 .grind
 have f:s≠[]:=by grind
 have d:¬ s=[110,117,108,108]:=by grind
 rw[if_neg c3,if_neg d]at h;refine⟨⟨by decide,ak9.2 f⟩,ifk (λg=>⟨by decide,⟨by grind,akK _⟩,?_⟩) (λg=>?_)⟩
 .have g:s.getD 0 0=35:=by grind
  have i:¬ (bd s).2=true:=by
   intro hn;obtain⟨a,r,rfl,o,_⟩:=b hn
   simp_all
  have n2:¬ (gH s).2=true:=by grind [xa]
  rw[if_neg i,if_neg n2]at h;simp only[ac,aX,jval,bor]
  grind
 have g:¬ s.getD 0 0=35:=by grind
 refine kk h ?_;unfold lV;have m:¬ (s.getD 0 0=35/\(bd (s.drop 1)).2=true/\0<=(bd (s.drop 1)).1/\(bd (s.drop 1)).1<=999):=λl=>g l.1
 by_cases i:(bd s).2=true
 .have n2:¬ (gH s).2=true:=by
   intro hn;obtain⟨⟨r,e⟩,_⟩:=xa hn;obtain⟨a,n,p,_,j⟩:=b i
   simp_all
  grind
 grind
theorem TG(c:UInt8)(KK:Bool->Prop)(h:KK (Lt.blank c)):Pq c KK:=by
 unfold Pq;unfold Lt.blank at h;simp only[zW]
 grind
theorem Ni(s:List UInt8)(hp:DY s)(KK:List (List UInt8)×Bool->Prop)(h:KK (dh s)):GC s KK:=by
 have hp:s.length<=1099511627776:=hp
 unfold GC;dsimp only;unfold dh at h;refine ao _ (s.length+1) (λi x=>(i<=s.length/\∃out f w,x=(out,f,(i:Int))/\((f=-1/\w=[])\/∃j:Nat,f=(j:Int)/\j<i/\w=(s.drop j).take (i-j))/\out.length<=i/\KK (eC (s.drop i) w out))\/(i=s.length+1/\∃out f,x=(out,f,(i:Int))/\KK (out,true))) (λR i x hi hx k=>?_) (λR x hx=>?_) _ (Or.inl ⟨alJ _,[],-1,[],rfl,.inl ⟨rfl,rfl⟩,akK _,h⟩)
 .rcases hx with⟨hi,out,f,w,rfl,hw,ho,hk⟩|⟨e,_⟩
  .simp only[show decide ((i:Int)<=(s.length:Int))=true by grind,if_true,Int.toNat_natCast];refine λ_ p c=>?_
   have w1:i64.wrap ((i:Int)+1)=((i+1:Nat):Int):=ae kQ1
   rw[w1]at c;have push:∀B:List (List UInt8)->Prop,B (if w=[]then out else out++[w])->aa (α:=List (List UInt8)) (λn=>if decide (0<=f)then((0:Int)<=f/\(0:Int)<=(i:Int)/\(f.toNat<=i/\i<=s.length)/\(out.length+[(s.drop f.toNat).take (i-f.toNat)].length<=4611686018427387904/\(out.length+[(s.drop f.toNat).take (i-f.toNat)].length)*16<=140737488355328)/\n (out++[(s.drop f.toNat).take (i-f.toNat)]))else(n out)) B:=by
    intro B u J t;rcases hw with⟨rfl,rfl⟩|⟨j,rfl,hj,rfl⟩
    all_goals grind (splits:=20) [ak8]
   have r:(if w=[]then out else out++[w]).length<=i+1:=by grind
   by_cases q:i=s.length
   .refine λo a=>?_
    rw[show decide ((i:Int)=(s.length:Int))=true from decide_eq_true kQ1];refine λ_=>(a true ?_)
    simp only[if_true];refine push _ (c _ (k _ (.inr ⟨by omega,_,_,rfl,?_⟩)));rw[q,alM]at hk;exact hk
   have b:i<s.length:=by omega
   have hd:s.drop i=s.getD i 0::s.drop (i+1):=by grind [akX]
   have et:∀j,j<=i->(s.drop j).take (i+1-j)=(s.drop j).take (i-j)++[s.getD i 0]:=by
    intro j hj;have:=aZ (s.drop j) (i:=i-j) (by grind)
    grind
   rw[hd,eC]at hk;rw[show decide ((i:Int)=(s.length:Int))=false from decide_eq_false kQ1];refine λo a=>λ_=>⟨⟨by omega,b⟩,a _ ?_⟩
   refine ifk (λhb=>?_) (λhb=>?_)
   .grind
   rw[if_neg hb]at hk;have g:(32:UInt8).toNat=32:=rfl
   have d:(126:UInt8).toNat=126:=rfl
   have bad:(s.getD i 0).toNat<=32\/126 < (s.getD i 0).toNat->KK ([],false):=λhc=>by grind
   simp only[am,aX,ac,jval,g,d];refine⟨⟨by omega,b⟩,ifk (λm=>?_) (λm=>⟨⟨by omega,b⟩,ifk (λl=>?_) (λl=>?_)⟩)⟩
   .grind
   .grind
   rw[decide_eq_true_eq]at m l;rw[if_neg kQ1]at hk;have fin:∀f:Int,(∃j:Nat,f=(j:Int)/\j<i+1/\w++[s.getD i 0]=(s.drop j).take (i+1-j))->p (out,f):=λf hf=>c _ (k _ (.inl ⟨by omega,_,_,_,rfl,.inr hf,by grind,hk⟩))
   rcases hw with⟨rfl,rfl⟩|⟨j,rfl,hj,rfl⟩
   all_goals grind
  omega
 grind
theorem wG(c:UInt8):∀a b:List UInt8,(∀x∈a,x≠c)->Go.Lib.index (a++c::b) [c]=(a.length:Int)
 |[],b,_=>by grind [Go.Lib.index]
 |x::a,b,h=>by
  have ih:=wG c a b (λy hy=>h y (by simp[hy]))
  grind [Go.Lib.index]
theorem Au(c:UInt8):∀a:List UInt8,(∀x∈a,x≠c)->Go.Lib.index a [c]=-1
 |[],_=>by rfl
 |x::a,h=>by
  have ih:=Au c a (λy hy=>h y (by simp[hy]))
  grind [Go.Lib.index]
theorem pZ(c:UInt8):∀s:List UInt8,(∀x∈s,x≠c)\/∃a b,s=a++c::b/\∀x∈a,x≠c
 |[]=>.inl (by simp)
 |x::s=>by
  by_cases hx:x=c
  .subst hx;exact .inr ⟨[],s,rfl,by simp⟩
  have d:∀a:List UInt8,(∀y∈a,y≠c)->∀y∈x::a,y≠c:=λa h y hy=>(akU.1 hy).elim (λe=>e ▸ hx) (h y)
  rcases pZ c s with h|⟨a,b,rfl,h⟩
  all_goals grind
theorem nr(h:∀x∈s,x≠c):fg s [c]=[s]:=by
 unfold fg;rw[Go.Lib.splitB_data];have:Go.Lib.countB ⟨s.toArray⟩ ⟨[c].toArray⟩=0:=Go.Lib.count_miss (by grind [Au])
 rw[this];rfl
theorem tc{b:List UInt8}(h:∀x∈a,x≠c):fg (a++c::b) [c]=a::fg b [c]:=by
 unfold fg;rw[Go.Lib.splitB_data,Go.Lib.splitB_data];have hi:Go.Lib.index (a++c::b) [c]=(a.length:Int):=wG c a b h
 have hc:Go.Lib.countB ⟨(a++c::b).toArray⟩ ⟨[c].toArray⟩=1+Go.Lib.countB ⟨b.toArray⟩ ⟨[c].toArray⟩:=by
  have:=Go.Lib.count_hit (s:=a++c::b) (sub:=[c]) (i:=a.length) (by simp) hi
  simp_all
 rw[hc,Nat.add_comm,Go.Lib.splitK]
 simp_all
abbrev front(l:List UInt8):List UInt8:=(XW l [59]).1
theorem uM{l:List UInt8}(h:∀x∈l,x≠59):front l=l:=by grind [XW,Go.Lib.cut,Au]
theorem ru{b:List UInt8}(h:∀x∈a,x≠59):front (a++59::b)=a:=by simp_all[front,XW,Go.Lib.cut,wG]
theorem Da:∀(l:List UInt8)(k:Lt.Cut),k.bad=true->(l.foldl Lt.Cut.byte k).bad=true
 |[],k,h=>h
 |c::l,k,h=>by
  refine Da l _ ?_
  grind [Lt.Cut.byte,Lt.Cut.word]
theorem rb:∀(l:List UInt8)(k:Lt.Cut),(l.foldl Lt.Cut.byte k).out=k.out/\(l.foldl Lt.Cut.byte k).n=k.n
 |[],k=>⟨rfl,rfl⟩
 |c::l,k=>by
  have ih:=rb l (k.byte c)
  grind [Lt.Cut.byte,Lt.Cut.word]
theorem oC:∀(l:List UInt8)(k:Lt.Cut),k.remark=true->k.w=[]->(l.foldl Lt.Cut.byte k).word.l=k.l/\(l.foldl Lt.Cut.byte k).bad=k.bad
 |[],k,h,hw=>⟨by grind [Lt.Cut.word],rfl⟩
 |c::l,k,h,hw=>by
  have e:k.byte c=k:=by
   obtain⟨o,L,w,n,r,b⟩:=k
   grind [Lt.Cut.byte,Lt.Cut.word]
  rw[alZ,e];exact oC l k h hw
theorem iu:∀(l:List UInt8)(k:Lt.Cut),(∀x∈l,x≠59)->k.remark=false->k.bad=false ->
  (l.foldl Lt.Cut.byte k).remark=false/\(l.foldl Lt.Cut.byte k).bad=!(eC l k.w k.l).2/\((eC l k.w k.l).2=true->(l.foldl Lt.Cut.byte k).word.l=(eC l k.w k.l).1)
 |[],k,_,hr,hb=>by refine⟨hr,by grind [eC],λ_=>?_⟩;rfl
 |c::l,k,h,hr,hb=>by
  have d:¬ c=59:=h c (by simp)
  have h':∀x∈l,x≠59:=λx hx=>h x (by simp[hx])
  rw[alZ,eC];by_cases b:Lt.blank c=true
  .rw[if_pos b];have e:k.byte c=k.word:=by grind [Lt.Cut.byte,Lt.blank]
   rw[e];exact iu l k.word h' hr hb
  rw[if_neg b];have e:k.byte c={ k with bad:=k.bad||(decide (c.toNat < 33)||decide (126<c.toNat)),w:=k.w++[c] }:=by grind [Lt.Cut.byte,Lt.blank]
  rw[e];by_cases hc:c.toNat<=32\/126<c.toNat
  .rw[if_pos hc];have a:(decide (c.toNat < 33)||decide (126<c.toNat))=true:=by grind
   rw[hb,a];refine⟨?_,?_,λh=>by simp at h⟩
   .have f:∀(l:List UInt8)(k:Lt.Cut),(∀x∈l,x≠59)->k.remark=false->(l.foldl Lt.Cut.byte k).remark=false:=by intro l;induction l<;>grind [Lt.Cut.byte,Lt.Cut.word]
    grind
   grind [Da]
  rw[if_neg hc];have a:(decide (c.toNat < 33)||decide (126<c.toNat))=false:=by grind
  rw[hb,a];exact iu l ⟨k.out,k.l,k.w++[c],k.n,k.remark,false⟩ h' hr rfl
theorem zF(l:List UInt8)(out:List Lt.RLine)(n:Int):(l.foldl Lt.Cut.byte ⟨out,[],[],n,false,false⟩).bad=!(dh (front l)).2 /\
  ((dh (front l)).2=true->(l.foldl Lt.Cut.byte ⟨out,[],[],n,false,false⟩).line=⟨if(dh (front l)).1=[]then out else out++[⟨n,(dh (front l)).1⟩],[],[],n+1,false,false⟩):=by
 have fin:∀k:Lt.Cut,k.out=out->k.n=n->k.bad=!(dh (front l)).2->((dh (front l)).2=true->k.word.l=(dh (front l)).1)->k.bad=!(dh (front l)).2/\((dh (front l)).2=true->k.line=⟨if(dh (front l)).1=[]then out else out++[⟨n,(dh (front l)).1⟩],[],[],n+1,false,false⟩):=by grind [Lt.Cut.line]
 have ho:=rb l ⟨out,[],[],n,false,false⟩
 refine fin _ ho.1 ho.2 ?_ ?_
 .rcases pZ 59 l with h|⟨a,b,rfl,h⟩
  .rw[uM h];exact(iu l ⟨out,[],[],n,false,false⟩ h rfl rfl).2.1
  rw[ru h,List.foldl_append,alZ];obtain⟨h1,h2,h3⟩:=iu a ⟨out,[],[],n,false,false⟩ h rfl rfl;have e:(a.foldl Lt.Cut.byte ⟨out,[],[],n,false,false⟩).byte 59={ (a.foldl Lt.Cut.byte ⟨out,[],[],n,false,false⟩).word with remark:=true }:=by rfl
  rw[e,(oC b _ rfl rfl).2];exact h2
 rcases pZ 59 l with h|⟨a,b,rfl,h⟩
 .rw[uM h];exact(iu l ⟨out,[],[],n,false,false⟩ h rfl rfl).2.2
 rw[ru h,List.foldl_append,alZ];obtain⟨h1,h2,h3⟩:=iu a ⟨out,[],[],n,false,false⟩ h rfl rfl;have e:(a.foldl Lt.Cut.byte ⟨out,[],[],n,false,false⟩).byte 59={ (a.foldl Lt.Cut.byte ⟨out,[],[],n,false,false⟩).word with remark:=true }:=by rfl
 rw[e,(oC b _ rfl rfl).1];exact h3
theorem wt:∀(l r:List UInt8)(k:Lt.Cut),(∀x∈l,x≠10)->bR (l++r) k=bR r (l.foldl Lt.Cut.byte k)
 |[],r,k,_=>rfl
 |c::l,r,k,h=>by rw[al6,bR,if_neg (h c (by simp)),wt l r _ (λx hx=>h x (by simp[hx]))];rfl
def jt:List (List UInt8)->Int->List Lt.RLine->List Lt.RLine×Int×Int
 |[],_,out=>(out,0,0)
 |l::r,n,out=>if(dh (front l)).2 then jt r (n+1) (if(dh (front l)).1=[]then out else out++[⟨n,(dh (front l)).1⟩])else([],n,3)
theorem zD:∀(m:Nat)(s:List UInt8)(n:Int)(out:List Lt.RLine),s.length<=m->bR s ⟨out,[],[],n,false,false⟩=jt (fg s [10]) n out:=by
 intro m;induction m with
 |zero=>
  intro s n out hs;have:s=[]:=List.length_eq_zero_iff.1 kQ1
  subst this;rfl
 |succ m ih=>
  intro s n out hs;rcases pZ 10 s with h|⟨a,b,rfl,h⟩
  .rw[nr h];have:=wt s [] ⟨out,[],[],n,false,false⟩ h
   grind [bR,jt,zF,rb]
  grind [tc,wt,bR,jt,zF,rb]
theorem MW:∀(m:Nat)(s:List UInt8),s.length<=m->(fg s [10]).length<=s.length+1/\∀l∈fg s [10],l.length<=s.length:=by
 intro m;induction m with
 |zero=>grind [nr]
 |succ m ih=>
  intro s hs;rcases pZ 10 s with h|⟨a,b,rfl,h⟩
  all_goals grind [nr,tc]
theorem Dk(l:List UInt8):(front l).length<=l.length:=by
 rcases pZ 59 l with h|⟨a,b,rfl,h⟩
 all_goals grind [uM,ru]
theorem Nh(s:List UInt8)(KK:List Lt.Line×Int×Int->Prop)(h:KK (gz s)):GB s KK:=by
 unfold GB;dsimp only;unfold gz bQ at h;refine λ_=>ifk (λhc=>?_) (λhc=>?_)
 .grind
 have hs:s.length<=4194304:=by grind
 rw[if_neg kQ1,zD _ s 1 [] (akK _)]at h;obtain⟨b,a⟩:=MW _ s (akK _);generalize fg s [10]=L at h b a|-;refine⟨⟨by omega,by decide⟩,λ_=>?_⟩;refine ao _ L.length (λi x=>∃out:List Lt.RLine,x=(out.map λl=>(⟨l.N,l.Words⟩:Lt.Line),(i:Int))/\out.length<=i/\KK ((jt (L.drop i) ((i:Int)+1) out).1.map λl=>(⟨l.N,l.Words⟩:Lt.Line),(jt (L.drop i) ((i:Int)+1) out).2.1,(jt (L.drop i) ((i:Int)+1) out).2.2)) (λR i x hi hx g=>?_) (λR x hx=>?_) _ ⟨[],rfl,akK _,by grind⟩
 .obtain⟨out,rfl,ho,hk⟩:=hx;simp only[aW hi,if_true,Int.toNat_natCast];have d:=a _ (az L hi)
  have hd:L.drop i=L.getD i default::L.drop (i+1):=by grind [akX]
  rw[hd,jt]at hk;have e:=Dk (L.getD i default)
  simp only[show i64.wrap ((i:Int)+1)=((i:Int)+1)from cN kQ1 kQ1,am,aX,ap,ac,aK];refine⟨⟨by omega,hi⟩,by show(L.getD i default).length < 4294967281;omega,by show(front (L.getD i default)).length<=1099511627776;omega,?_⟩;by_cases c:(dh (front (L.getD i default))).2=true
  .rw[if_pos c]at hk;refine ifk (λhc=>by grind) (λ_=>λ_=>?_);refine ifk (λhc=>?_) (λhc=>?_)
   .grind
   have f:(dh (front (L.getD i default))).1=[]:=by simp_all
   grind
  grind
 grind [jt]
end Go.Am
end

section
namespace Go.Am
def Nm.sw:Nm->Nm
 |.loc i=>.out i
 |.out i=>.loc i
 |.gh v=>.gh v
theorem Nm.sw_sw:∀n:Nm,n.sw.sw=n
 |.loc _=>rfl
 |.out _=>rfl
 |.gh _=>rfl
theorem Nm.sw_tyd:∀n:Nm,n.sw.tyd=n.tyd
 |.loc _=>rfl
 |.out _=>rfl
 |.gh _=>rfl
theorem ajV:NmR Nm.sw:=⟨Nm.sw_sw,Nm.sw_tyd⟩
abbrev St.sw(s:St):St:=s.rn Nm.sw
abbrev swG(γ:Gam):Gam:=rnG Nm.sw γ
section
variable {w:World} {H:FH} {γ:Gam} {F:Nm->Fp}
def sI(γ:Gam):Nat->Option Nat:=λi=>match γ (.loc i)with
 |.blk b=>some b
 |.gh _=>none
theorem aiN{g:G}{s:St}{a a':Act}(h:RX g s.toS a w H γ F){ds:List Deferred}(h1:a'.tmps=a.tmps)(h2:a'.defers=ds):RX ⟨g.nt,g.w0,g.H0,g.own0,sI γ,g.ex,ds⟩ s.sw.toS a' w H (swG γ) (λn=>F n.sw):=by
 refine Qa ajV h h1 h2 (λj b hb=>?_);show γ (.loc j)=.blk b
 unfold sI at hb;split at hb
 .rename_i b' c;rw[c];simp only[akJ]at hb;rw[hb]
 cases hb
end
end Go.Am
end

section
namespace Go.Am
open Go Go.RowKit Go.Proofs
theorem K6(n:Int)(w:World):Calls prog 151 #[.int .i64 n] w λe w'=>e=.panicked (chn (Lt.flt n))/\w'=w:=by
 go_enter func151,Tryz.ntmps151
 go_wp2
 exact⟨rfl,rfl,rfl⟩
theorem agT{v:At}{x:Int}(h:dw [.i .i64] [v]=some x):v.toV.map T.canon=.one (.c (.d (.int .i64 x))):=by
 obtain⟨h1,h2,h3⟩:=jL h;have:[v.toV.map T.canon]=[AV.one (.c (.d (.int .i64 x)))]:=h3
 simpa using this
theorem Xh:Cont prog 151 (ajN Lt.flt):=by
 refine⟨iU (fn:=f151) kQ0 kQ0 kQ0,λpk s ops k k' hk hc=>hc,λg pk s a w H γ F1 ops k f c hc=>?_⟩;unfold ajN at hc;split at hc
 .rename_i x hx
  match ops,hx with
  |[],hx=>simp[dw]at hx
  |[o],hx=>
   have hop:aH o=true:=by simpa using c
   have hv:=aJ f hop
   rw[aj hop]at hv;have b:=iF fw hv
   rw[agT hx]at b;obtain⟨_,m,d⟩:=b;show Calls _ _ #[a.eval o] w _
   have d:a.eval o=.int .i64 x:=by cases m<;>exact d.1
   rw[d];refine(K6 x w).mono ?_;rintro e w' ⟨rfl,rfl⟩
   exact .inr ⟨_,s,rfl,hc,H,γ,F1,f⟩
  |_::_::_,hx=>simp[dw]at hx
 exact hc.elim
end Go.Am
end
