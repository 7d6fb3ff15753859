/-
  Part 21: AmPkRc · AmPkR · AmL54 · AmKX · AmFew6a · AmFew6 · AmFew41 · AmFew42 · AmFew18 · AmFew50.
-/
import Derived.Test.YteooihiebpbaiaaGreatDoorVp20
set_option linter.unusedSimpArgs false
set_option linter.unusedVariables false
set_option linter.unusedSectionVars false
set_option linter.unnecessarySimpa false
open Lt
open Go.Proofs.Tryz
open Go.IntKind (i64)
section
namespace Go.Am
open Go
def Qm(r:Lt.Read)(dst:List UInt8)(l:List a8):Int×Lt.Read:=
 if r.ins=false then(3,r)
 else match Lt.gL dst l with
 |none=>(3,r)
 |some x=>if 1024<=r.Long then(2,r)else(0,{ r.block (λb=>{ b with Code:=b.Code++[x] })with Where:=if x.Op=31\/x.Op=34 then 7 else 6,Long:=r.Long+1 })
theorem NE(r:Lt.Read)(l:List a8)(hp:iu r l)(KK:(Int×Lt.Read)->Prop)(h:KK (fa r l)):GZ r l KK:=by
 obtain⟨hi,hl,hr⟩:=hp;have hr:l.length<=1099511627776:=hr
 have h0:0<l.length:=al4.2 hl
 obtain⟨hw,⟨C,s,z⟩,_⟩:=id hi;have e0:fa r l=if Lt.sEq l&&!cj (Lt.w0 l)then(3,r)else Qm r (if Lt.sEq l then Lt.w0 l else []) (if Lt.sEq l then l.drop 2 else l):=rfl
 rw[e0]at h;unfold GZ;dsimp only;refine λq g=>?_
 have key:∀(l':List a8)(dst:List UInt8),0<l'.length->l'.length<=1099511627776->KK (Qm r dst l')->q (l',⟨0,dst,[],[],[],[]⟩):=by
  intro l' dst m v hk;refine g _ ?_;clear g h e0 q;refine⟨⟨by decide,m⟩,?_⟩;simp only[ae,jval,bor,am7,if_true,ba];refine ifk (λhc=>?_) (λhc=>?_)
  .refine kk hk ?_;unfold Qm;by_cases e:r.ins=false
   .grind
   rw[if_neg e]
   grind [Lt.gL]
  have e:¬ r.ins=false:=by grind
  have F:5<=r.Where:=by grind
  have J:r.Where<=8:=by grind
  have hop:¬ ((Lt.sOp (Lt.w0 l')).2&&((Lt.rOf (Lt.sOp (Lt.w0 l')).1).1.Dst==!decide (dst=[])))=false:=by grind
  clear hc;unfold Qm Lt.gL at hk;rw[if_neg e,if_neg hop]at hk;have I:l'.getD 0 default=Lt.w0 l':=rfl
  simp only[I];generalize Lt.sOp (Lt.w0 l')=O at hk hop|-;obtain⟨op,p⟩:=O;generalize hfm:(Lt.rOf op).1=i at hk|-;simp only at hk|-
  obtain⟨hf,⟨_,⟨_,B,_⟩,_⟩,_,_,y⟩:=j0 hi kQ1;obtain⟨c,D,w,_⟩:=vN hi kQ1;have n:r.P.Funcs.length<=5000:=by omega
  have j:r.curF.Blocks.length<=5000:=by omega
  have k:r.curB.Code.length<=5000:=by omega
  have G:r.P.Funcs.getD (r.P.Funcs.length - 1) default=r.curF:=rfl
  have u:r.curF.Blocks.getD (r.curF.Blocks.length - 1) default=r.curB:=rfl
  have l1:∀x:Lt.Instr,([x]:List Lt.Instr).length=1:=λ_=>rfl
  simp only[fU hf n,kf hf,kg hf,Int.toNat_natCast,G,fU c j,kf c,kg c,u,true_and,l1,jK k (show 112<=200 by omega),ae];refine λE f=>?_
  have o:∀nm rest,rest.length<=1099511627776->KK (match(if (cm rest false).2&&!(i.Named&&!cj nm)&&decide (i.Least<=((cm rest false).1.length:Int))&&decide (((cm rest false).1.length:Int)<=i.Most)then some ⟨op,dst,nm,(cm rest false).1,[],[]⟩else none:Option Lt.Instr)with
    |none=>(3,r)
    |some x=>if 1024<=r.Long then(2,r)else(0,{ r.block (λb=>{ b with Code:=b.Code++[x] })with Where:=if x.Op=31\/x.Op=34 then 7 else 6,Long:=r.Long+1 }))->E (rest,⟨op,dst,nm,[],[],[]⟩):=by
   intro nm rest d a;refine f _ ⟨d,?_⟩;clear f hk;refine ifk (λhc=>kk a ?_) (λhc=>?_)
   .grind
   rw[if_pos (by grind)]at a;refine ifk (λhl=>kk a ?_) (λhl=>?_)
   .grind
   have hl:¬ 1024<=r.Long:=by grind
   have A:i64.wrap (r.Long+1)=r.Long+1:=jI kQ1 kQ1
   simp only[A,and_self,ae,jval,bor];refine λ_ _=>kk a ?_
   show(if 1024<=r.Long then _ else _)=_
   rw[if_neg hl];by_cases t:op=31\/op=34
   .have:(decide (op=31)||decide (op=34))=true:=by grind
    simp_all[Lt.Read.block,Lt.Read.func,Lt.last]
   have:¬ (decide (op=31)||decide (op=34))=true:=by grind
   simp_all[Lt.Read.block,Lt.Read.func,Lt.last]
  clear f
  grind [Lo,alQ,akY]
 have es:((decide (2 < (l.length:Int)))&&(decide ((l.getD 1 default)=[61])))=Lt.sEq l:=by grind [Lt.sEq]
 refine λK H=>?_
 grind [ba,amR,List.length_drop]
variable{l:List a8}{r:Lt.Read}
theorem XB(h:(bC r l).1.1=false):bC r l=((false,0),r):=by grind [bC]
theorem Yz(h:(bW r l).1.1=false):bW r l=((false,0),r):=by grind [bW]
theorem UJ(h:(cy r l).1.1=false):cy r l=((false,0),r):=by grind [cy]
theorem NH(r:Lt.Read)(l:List a8)(b:Bool)(hp:K6 r l b)(KK:(Int×Lt.Read)->Prop)(h:KK (dM r l b)):G2 r l b KK:=by
 have hp:iu r l:=hp
 obtain⟨hi,hl,hr⟩:=id hp;have hr:l.length<=1099511627776:=hr
 have h0:0<l.length:=al4.2 hl
 have es:((decide (2 < (l.length:Int)))&&(decide ((l.getD 1 default)=[61])))=Lt.sEq l:=by grind [Lt.sEq]
 unfold G2;dsimp only;unfold dM at h;refine λg e=>?_
 have f:=e (Lt.sEq l) ?_
 .grind
 show(if Lt.sEq l=true then _ else _)
 refine ifk (λhs=>⟨hp,?_⟩) (λhs=>⟨⟨by decide,h0⟩,?_⟩)
 .simp_all
 rw[if_neg hs]at h;refine ifk (λhc=>?_) (λhc=>⟨hp,?_⟩)
 .rw[if_pos (by grind)]at h;simp only[ae,jval,bor]
  grind
 rw[if_neg (by grind)]at h;by_cases d:(bC r l).1.1=true
 .simp_all[ae]
 rw[if_neg d]at h;have d:=Bool.eq_false_iff.2 d
 rw[d];simp only[XB d,am7,if_true,am,ae];refine⟨hp,?_⟩;by_cases a:(bW r l).1.1=true
 .simp_all[ae]
 rw[if_neg a]at h;have a:=Bool.eq_false_iff.2 a
 simp only[Yz a,am7,if_true,am,ae];refine⟨hp,?_⟩;by_cases c:(cy r l).1.1=true
 .simp_all[ae]
 rw[if_neg c]at h;have c:=Bool.eq_false_iff.2 c
 simp_all[UJ,ae]
theorem NM(s:a8)(KK:List Lt.RLine×Int×Int->Prop)(h:KK (eK s)):G7 s KK:=by
 have hb:∀c d:UInt8,decide ((((c.toNat:Nat):Int))=((d.toNat:Nat):Int))=decide (c=d):=λc d=>by grind [UInt8.toNat_inj]
 unfold G7;dsimp only;unfold eK at h;refine λhl=>ifk (λhc=>?_) (λhc=>?_)
 .grind
 rw[if_neg (by grind)]at h;have hs:s.length<=4194304:=by grind
 clear hc;simp only[hb];refine af _ (s.length+1) (λi x=>(i<=s.length/\∃k:Lt.Cut,x=(k.out,k.l,k.w,k.n,k.remark,k.bad,(i:Int))/\(k.out.length<=i/\k.l.length<=i/\k.w.length<=i/\1<=k.n/\k.n<=(i:Int)+1)/\KK (cJ (s.drop i) k))\/(i=s.length+1/\∃a b c d e,∃o,x=(o,a,b,c,d,e,(i:Int))/\KK (o,0,0))) (λR i x hi hx D=>?_) (λR x hx=>?_) _ (Or.inl ⟨alL _,⟨[],[],[],1,false,false⟩,rfl,⟨akR _,akR _,akR _,by decide,by decide⟩,h⟩)
 .rcases hx with⟨hi,k,rfl,⟨k1,k2,k3,k4,k5⟩,hk⟩|⟨v,_⟩
  .simp only[show decide ((i:Int)<=(s.length:Int))=true by grind,if_true,Int.toNat_natCast];refine λ_=>?_
   have w1:i64.wrap ((i:Int)+1)=((i+1:Nat):Int):=ac kQ1
   have K:i64.wrap (k.n+1)=k.n+1:=jI kQ1 kQ1
   rw[w1,K];have hw:∀q:List a8->Prop,q k.word.l->aa (α:=List a8) (λy=>(k.w.length<=4611686018427387904->if decide (0 < (k.w.length:Int))then((k.l.length+([k.w]:List a8).length<=4611686018427387904/\(k.l.length+([k.w]:List a8).length)*16<=140737488355328)/\y (k.l++([k.w]:List a8)))else(y k.l))) q:=by
    intro q h J F hl;refine ifk (λhc=>⟨⟨by grind,by grind⟩,F _ (kk h ?_)⟩) (λhc=>F _ (kk h ?_))
    .grind [Lt.Cut.word]
    unfold Lt.Cut.word;rw[if_pos (by cases I:k.w<;>grind)]
   refine λN r=>?_
   by_cases t:i=s.length\/s.getD i 0=10
   .refine λM E=>?_
    have g:=E true ?_
    .grind
    simp only[alT,akS,if_false,if_true,ae];refine λA f=>hw _ (f (k.word.l,[],k.bad) ?_)
    have j:KK (if k.bad then([],k.n,3)else if i=s.length then(k.line.out,0,0)else cJ (s.drop (i+1)) k.line):=by
     by_cases v:i=s.length
     .rw[if_pos v];rw[v,alZ]at hk;exact hk
     grind [alF,cJ]
    refine ifk (λhb=>?_) (λhb=>?_)
    .grind
    rw[if_neg hb]at j;have p:k.word.l.length<=i+1:=by grind [Lt.Cut.word]
    refine λL u=>?_
    have g2:=u k.line.out ?_
    .refine λ_=>ifk (λhc=>⟨⟨by grind,by grind⟩,kk g2 ?_⟩) (λhc=>kk g2 ?_)
     .grind [Lt.Cut.line]
     unfold Lt.Cut.line;rw[if_pos (by cases I:k.word.l<;>grind)]
    refine r _ (D _ ?_);by_cases v:i=s.length
    .grind
    rw[if_neg v]at j;refine Or.inl ⟨by omega,k.line,rfl,⟨?_,alL _,alL _,?_,?_⟩,j⟩
    .grind [Lt.Cut.line]
    .show 1<=k.n+1;omega
    show k.n+1<=((i+1:Nat):Int)+1;omega
   have G:i<s.length:=by omega
   have H:¬ s.getD i 0=10:=λh=>t (Or.inr h)
   have ob:((0:Int)<=(i:Int)/\i<s.length)=True:=by grind
   have j:KK (cJ (s.drop (i+1)) (k.byte (s.getD i 0))):=by grind [alF,cJ]
   clear hk;have C:decide (((s.getD i 0).toNat:Int) < ((UInt8.toNat 33:Nat):Int))=decide ((s.getD i 0).toNat < 33):=decide_eq_decide.2 (by grind)
   have z:decide (((UInt8.toNat 126:Nat):Int) < ((s.getD i 0).toNat:Int))=decide (126 < (s.getD i 0).toNat):=decide_eq_decide.2 (by grind)
   simp only[show decide ((i:Int)=(s.length:Int))=false by grind,akS,if_false,ob,true_and,aq,ae,show decide (s.getD i 0=10)=false by grind,am7,if_true,jval,bor,C,z];simp only[aq]at hw;refine λ_ A f=>?_
   refine ifk (λhv=>hw _ (f (k.word.l,[],k.bad) (r _ (D _ (Or.inl ?_))))) (λhv=>⟨⟨by grind,by grind⟩,f _ (r _ (D _ (Or.inl ?_)))⟩)
   .refine⟨by omega,k.byte (s.getD i 0),?_,?_,j⟩
    .by_cases m:s.getD i 0=59
     .have B:decide (s.getD i 0=59)=true:=decide_eq_true m
      unfold Lt.Cut.byte;simp only[if_pos m,B,Bool.true_or];rfl
     have e:Lt.Cut.byte k (s.getD i 0)=k.word:=by grind [Lt.Cut.byte]
     have B:decide (s.getD i 0=59)=false:=decide_eq_false m
     simp only[e,B,Bool.false_or];rfl
    have p:k.word.l.length<=i+1:=by grind [Lt.Cut.word]
    by_cases m:s.getD i 0=59
    .unfold Lt.Cut.byte;rw[if_pos m];exact⟨by show k.out.length<=i+1;omega,p,alL _,k4,by show k.n<=_;omega⟩
    have e:Lt.Cut.byte k (s.getD i 0)=k.word:=by grind [Lt.Cut.byte]
    rw[e];exact⟨by show k.out.length<=i+1;omega,p,alL _,k4,by show k.n<=_;omega⟩
   grind [Lt.Cut.byte]
  omega
 grind
def Runs:Lt.Read->List (List a8)->Lt.Read->Prop
 |r,[],a=>r=a
 |r,w::t,a=>∃r1,(∀b,dM r w b=(0,r1))/\Runs r1 t a
theorem cM:∀{a b:List (List a8)}{r r1 r2:Lt.Read},Runs r a r1->Runs r1 b r2->Runs r (a++b) r2
 |[],b,r,r1,r2,h1,h2=>by have:r=r1:=h1;grind
 |w::t,b,r,r1,r2,⟨q,hq,h1⟩,h2=>⟨q,hq,cM h1 h2⟩
variable{r1:Lt.Read}
theorem pC{w:List a8}(h:∀b,dM r w b=(0,r1)):Runs r [w] r1:=⟨r1,h,rfl⟩
theorem eM(r:Lt.Read):Runs r [] r:=rfl
theorem ta:∀(L:List Lt.Line)(n:Int)(b:Bool)(r a:Lt.Read),Runs r (L.map λx=>x.Words) a ->
  fS (numb n L) b r=if a.out then(a.P,0,0)else(⟨false,[],[],[],[]⟩,0,3)
 |[],n,b,r,a,h=>by have:r=a:=h;subst this;rfl
 |x::t,n,b,r,a,⟨q,hq,h⟩=>by rw[numb,fS];simp only[hq b,if_true];exact ta t _ _ q a h
theorem nA{b:Bool}(a:Lt.sEq l=false)(hs:¬ Lt.w0 l=wr)(h:bC r l=((true,0),r1)):dM r l b=(0,r1):=by grind [dM]
theorem rh{b:Bool}(a:Lt.sEq l=false)(hs:¬ Lt.w0 l=wr)(c:bC r l=((false,0),r))(h:bW r l=((true,0),r1)):dM r l b=(0,r1):=by grind [dM]
theorem sX{b:Bool}(a:Lt.sEq l=false)(hs:¬ Lt.w0 l=wr)(c:bC r l=((false,0),r))(hp:bW r l=((false,0),r))(h:cy r l=((true,0),r1)):dM r l b=(0,r1):=by grind [dM]
theorem T7{b:Bool}(hs:¬ Lt.w0 l=wr)(a:bC r l=((false,0),r))(hp:bW r l=((false,0),r))(h:cy r l=((false,0),r)):dM r l b=fa r l:=by grind [dM]
theorem l9(h1:¬ Lt.w0 l=sV)(h2:¬ Lt.w0 l=qb)(h3:¬ Lt.w0 l=ke)(h4:¬ Lt.w0 l=io)(h5:¬ Lt.w0 l=xx):bC r l=((false,0),r):=by grind [bC]
theorem yu(h1:¬ Lt.w0 l=qc)(h2:¬ Lt.w0 l=JR)(h3:¬ Lt.w0 l=sU)(h4:¬ Lt.w0 l=Aw):bW r l=((false,0),r):=by grind [bW]
theorem Zi(h1:¬ Lt.w0 l=Lt.kAt)(h2:¬ Lt.w0 l=rW)(h3:¬ Lt.w0 l=Av)(h4:¬ Lt.w0 l=jd)(h5:¬ Lt.w0 l=E9)(h6:¬ Lt.w0 l=Ax):cy r l=((false,0),r):=by grind [cy]
theorem M5(h:Lt.w0 l=sV):bC r l=((true,(Lt.i9 r l).1),(Lt.i9 r l).2):=by grind [bC]
theorem M6(h:Lt.w0 l=qb):bC r l=((true,(ls r l).1),(ls r l).2):=by grind [bC]
theorem JE(h:Lt.w0 l=ke):bC r l=((true,(iy r l).1),(iy r l).2):=by grind [bC]
theorem JD(h:Lt.w0 l=io):bC r l=((true,(gu r l).1),(gu r l).2):=by grind [bC]
theorem Te(h:Lt.w0 l=xx):bC r l=((true,(Lt.jY r l).1),(Lt.jY r l).2):=by grind [bC]
theorem On(h:Lt.w0 l=qc):bW r l=((true,(jS r l).1),(jS r l).2):=by grind [bW]
theorem YB(h:Lt.w0 l=JR):bW r l=((true,(Lt.mM r l).1),(Lt.mM r l).2):=by grind [bW]
theorem Om(h:Lt.w0 l=sU):bW r l=((true,(Lt.fE r l).1),(Lt.fE r l).2):=by grind [bW]
theorem YA(h:Lt.w0 l=Aw):bW r l=((true,(Lt.pu r l).1),(Lt.pu r l).2):=by grind [bW]
theorem Zh(hi:r.ins=true)(h:Lt.w0 l=Lt.kAt):cy r l=((true,(Lt.sAt r l).1),(Lt.sAt r l).2):=by grind [cy]
theorem UK(hi:r.ins=true)(h:Lt.w0 l=rW):cy r l=((true,(Lt.rY r l).1),(Lt.rY r l).2):=by grind [cy]
theorem gj{w:a8}(h:Lt.Name w=true):¬ w=[61]:=by rintro rfl;revert h;decide
theorem LO{a:Lt.Arg}(h:bE a=true)(ok:a.ok):¬ aB a=[61]:=by
 intro e;have:=nO h ok
 rw[e]at this;have h2:(Lt.dE [61]).2=false:=by decide +kernel
 grind
theorem Xj(a b:a8):Lt.sEq [a,b]=false:=rfl
variable{a:a8}
theorem ja{w:a8}(h:¬ w=[61]):Lt.sEq (a::w::l)=false:=by grind [Lt.sEq]
theorem QG(w:a8):D7 w=Lt.kind w:=by grind [D7,Lt.kind,aX]
variable{v:Lt.Var}
theorem lD{k:a8}(h1:Lt.Name v.Name=true)(h2:Lt.kind v.Type_=true):db [k,v.Name,v.Type_]=true:=by grind [db,aX,QG]
theorem nv{α:Type}[Inhabited α](l:List α)(x:α)(f:α->α):Lt.last (l++[x]) f=l++[f x]:=by grind [Lt.last]
def stP(s:Bool)(cs:List Lt.Class)(gs:List Lt.Var)(es:List Lt.Extern)(fs:List Lt.Func)(w n:Int):Lt.Read:=⟨⟨s,cs,gs,es,fs⟩,w,n⟩
def stF(p:Lt.Program)(fs:List Lt.Func)(f:Lt.Func)(w n:Int):Lt.Read:=⟨{ p with Funcs:=fs++[f] },w,n⟩
def stB(p:Lt.Program)(fs:List Lt.Func)(f:Lt.Func)(bs:List Lt.Block)(b:Lt.Block)(w n:Int):Lt.Read:=stF p fs { f with Blocks:=bs++[b] } w n
def stI(p:Lt.Program)(fs:List Lt.Func)(f:Lt.Func)(bs:List Lt.Block)(b:Lt.Block)(cs:List Lt.Instr)(x:Lt.Instr)(w n:Int):Lt.Read:=stB p fs f bs { b with Code:=cs++[x] } w n
section
variable (p:Lt.Program) (fs:List Lt.Func) (f:Lt.Func) (bs:List Lt.Block) (b:Lt.Block) (cs:List Lt.Instr) (x:Lt.Instr) (w n:Int)
theorem oB(g:Lt.Func->Lt.Func):(stF p fs f w n).func g=stF p fs (g f) w n:=by grind [Lt.Read.func,stF,nv]
end
section
variable (p:Lt.Program) (fs:List Lt.Func) (f:Lt.Func) (bs:List Lt.Block) (b:Lt.Block) (cs:List Lt.Instr) (x:Lt.Instr) (w n:Int)
theorem jp(g:Lt.Block->Lt.Block):(stB p fs f bs b w n).block g=stB p fs f bs (g b) w n:=by grind [Lt.Read.block,stB,oB,nv]
end
section
variable (p:Lt.Program) (fs:List Lt.Func) (f:Lt.Func) (bs:List Lt.Block) (b:Lt.Block) (cs:List Lt.Instr) (x:Lt.Instr) (w n:Int)
theorem uC(g:Lt.Instr->Lt.Instr):(stI p fs f bs b cs x w n).instr g=stI p fs f bs b cs (g x) w n:=by grind [Lt.Read.instr,stI,jp,nv]
end
section
variable (p:Lt.Program) (fs:List Lt.Func) (f:Lt.Func) (bs:List Lt.Block) (b:Lt.Block) (cs:List Lt.Instr) (x:Lt.Instr) (w n:Int)
theorem oq:(stF p fs f w n).curF=f:=by grind [Lt.Read.curF,stF]
end
section
variable (p:Lt.Program) (fs:List Lt.Func) (f:Lt.Func) (bs:List Lt.Block) (b:Lt.Block) (cs:List Lt.Instr) (x:Lt.Instr) (w n:Int)
theorem abR:(stB p fs f bs b w n).curB=b:=by grind [Lt.Read.curB,stB,oq]
end
section
variable (p:Lt.Program) (fs:List Lt.Func) (f:Lt.Func) (bs:List Lt.Block) (b:Lt.Block) (cs:List Lt.Instr) (x:Lt.Instr) (w n:Int)
theorem yn:(stI p fs f bs b cs x w n).curI=x:=by grind [Lt.Read.curI,stI,abR]
end
variable{es:List Lt.Extern}{gs:List Lt.Var}
theorem OU{s:Bool}{cs:List Lt.Class}{fs:List Lt.Func}{w n:Int}{c:a8}(a:w<=2\/w=9)(hc:Lt.Name c=true)(hl:cs.length < 8) :
  Runs (stP s cs gs es fs w n) [[sV,c]] (stP s (cs++[⟨c,[]⟩]) gs es fs 1 n):=by
 grind [pC,nA,Xj,M5,Lt.i9,stP,aX]
theorem rM{l:List Lt.Var}{k:Int}(h:Lt.typed l k=true):∀v∈l,Lt.Name v.Name=true/\Lt.kind v.Type_=true:=by grind [Lt.typed]
theorem xO{s:Bool}{cs:List Lt.Class}{gs:List Lt.Var}{es:List Lt.Extern}{fs:List Lt.Func}{n:Int}:∀(l:List Lt.Var)(c:Lt.Class),(∀v∈l,Lt.Name v.Name=true/\Lt.kind v.Type_=true)->c.Fields.length+l.length<=8 ->
  Runs (stP s (cs++[c]) gs es fs 1 n) (l.map λv=>[qb,v.Name,v.Type_]) (stP s (cs++[{ c with Fields:=c.Fields++l }]) gs es fs 1 n)
 |[],c,_,_=>by simpa using eM _
 |v::l,c,h,hl=>by
  obtain⟨h1,h2⟩:=h v (by simp);have a:c.Fields.length+(l.length+1)<=8:=hl
  have ih:=xO (s:=s) (cs:=cs) (gs:=gs) (es:=es) (fs:=fs) (n:=n) l { c with Fields:=c.Fields++[v] } (λx hx=>h x (by grind)) (by grind)
  refine⟨stP s (cs++[{ c with Fields:=c.Fields++[v] }]) gs es fs 1 n,λb=>nA (ja (gj h1)) (by grind) ?_,by grind⟩;refine(M6 rfl).trans ?_;have:ls (stP s (cs++[c]) gs es fs 1 n) [qb,v.Name,v.Type_]=(0,stP s (cs++[{ c with Fields:=c.Fields++[v] }]) gs es fs 1 n):=by
   unfold ls;rw[lD h1 h2];have e:(stP s (cs++[c]) gs es fs 1 n).P.Classes=cs++[c]:=rfl
   rw[e,wk,nv,if_neg (by show ¬ (decide ((1:Int)=1)&&true)=false;decide),if_neg kQ1];rfl
  grind
theorem xN{s:Bool}{gs:List Lt.Var}{es:List Lt.Extern}{fs:List Lt.Func}{n:Int}:∀(l cs:List Lt.Class)(w:Int),(w<=2\/w=9)->(∀c∈l,cV c=true)->cs.length+l.length<=8 ->
  ∃w',(w'<=2\/w'=9)/\Runs (stP s cs gs es fs w n) ((l.flatMap kR).map λx=>x.Words) (stP s (cs++l) gs es fs w' n)
 |[],cs,w,hw,_,_=>⟨w,hw,by grind [eM]⟩
 |c::l,cs,w,hw,h,hl=>by
  have hc:=h c (by simp)
  unfold cV at hc;simp only[akP]at hc;have hf:=jH (k:=8) hc.2
  have g:cs.length+(l.length+1)<=8:=hl
  obtain⟨w',d,ih⟩:=xN (s:=s) (gs:=gs) (es:=es) (fs:=fs) (n:=n) l (cs++[c]) 1 kQ1 (λx hx=>h x (by grind)) (by grind);refine⟨w',d,?_⟩;have a:=OU (s:=s) (gs:=gs) (es:=es) (fs:=fs) (n:=n) (cs:=cs) hw hc.1 kQ1
  have b:=xO (s:=s) (cs:=cs) (gs:=gs) (es:=es) (fs:=fs) (n:=n) c.Fields ⟨c.Name,[]⟩ (rM hc.2) (by grind)
  simp only[alV]at b;have e:((c::l).flatMap kR).map (λx=>x.Words)=([[sV,c.Name]]++c.Fields.map λv=>[qb,v.Name,v.Type_])++(l.flatMap kR).map λx=>x.Words:=by simp_all[kR,Lt.ln,sw]
  rw[e];have f:Runs (stP s (cs++[c]) gs es fs 1 n) ((l.flatMap kR).map λx=>x.Words) (stP s (cs++c::l) gs es fs w' n):=by grind
  exact cM (cM a b) f
theorem vn{s:Bool}{cs:List Lt.Class}{es:List Lt.Extern}{fs:List Lt.Func}{n:Int}:∀(l gs:List Lt.Var)(w:Int),(w<=2\/w=9)->(∀v∈l,Lt.Name v.Name=true/\Lt.kind v.Type_=true)->gs.length+l.length<=8 ->
  ∃w',(w'<=2\/w'=9)/\Runs (stP s cs gs es fs w n) (l.map λv=>[ke,v.Name,v.Type_]) (stP s cs (gs++l) es fs w' n)
 |[],gs,w,hw,_,_=>⟨w,hw,by grind [eM]⟩
 |v::l,gs,w,hw,h,hl=>by
  obtain⟨h1,h2⟩:=h v (by simp);have d:gs.length+(l.length+1)<=8:=hl
  obtain⟨w',a,ih⟩:=vn (s:=s) (cs:=cs) (es:=es) (fs:=fs) (n:=n) l (gs++[v]) 2 kQ1 (λx hx=>h x (by grind)) (by grind);refine⟨w',a,stP s cs (gs++[v]) es fs 2 n,λb=>nA (ja (gj h1)) (by grind) ?_,by grind⟩;refine(JE rfl).trans ?_;have:iy (stP s cs gs es fs w n) [ke,v.Name,v.Type_]=(0,stP s cs (gs++[v]) es fs 2 n):=by
   unfold iy;rw[lD h1 h2];have c:(Lt.Read.out (stP s cs gs es fs w n)&&true)=true:=by
    show((decide (w<=2)||decide (w=9))&&true)=true
    grind
   rw[c,if_neg (by decide),if_neg (by show ¬ 8<=gs.length;omega)];rfl
  grind
theorem vm{s:Bool}{cs:List Lt.Class}{gs:List Lt.Var}{fs:List Lt.Func}{n:Int}:∀(l es:List Lt.Extern)(w:Int),(w<=2\/w=9)->(∀x∈l,cP x=true)->es.length+l.length<=8 ->
  ∃w',(w'<=2\/w'=9)/\Runs (stP s cs gs es fs w n) (l.map λx=>[io,x.Name,be x.N]) (stP s cs gs (es++l) fs w' n)
 |[],es,w,hw,_,_=>⟨w,hw,by grind [eM]⟩
 |v::l,es,w,hw,h,hl=>by
  have hv:=h v (by simp)
  unfold cP at hv;simp only[akP,decide_eq_true_eq]at hv;obtain⟨⟨h1,h2⟩,h3⟩:=hv;have e:es.length+(l.length+1)<=8:=hl
  obtain⟨w',a,ih⟩:=vm (s:=s) (cs:=cs) (gs:=gs) (fs:=fs) (n:=n) l (es++[v]) 2 kQ1 (λx hx=>h x (by grind)) (by grind);refine⟨w',a,stP s cs gs (es++[v]) fs 2 n,λb=>nA (ja (gj h1)) (by grind) ?_,by grind⟩;refine(JD rfl).trans ?_;have:gu (stP s cs gs es fs w n) [io,v.Name,be v.N]=(0,stP s cs gs (es++[v]) fs 2 n):=by
   unfold gu;have en:fd (Lt.w2 [io,v.Name,be v.N])=(v.N,true):=qw (by grind [Lt.inR])
   have c:Lt.w1 [io,v.Name,be v.N]=v.Name:=rfl
   rw[en,c,aX,h1];have d:(Lt.Read.out (stP s cs gs es fs w n)&&decide (List.length [io,v.Name,be v.N]=3)&&true&&((v.N,true).2&&decide (0<=(v.N,true).1)&&decide ((v.N,true).1<=8)))=true:=by
    show((decide (w<=2)||decide (w=9))&&true&&true&&(true&&decide (0<=v.N)&&decide (v.N<=8)))=true
    grind
   rw[d,if_neg (by decide),if_neg (by show ¬ 8<=es.length;omega)];rfl
  grind
theorem UM{p:Lt.Program}{fs:List Lt.Func}{w n:Int}{t:List UInt8}(c:w<=2\/w=9)(h1:Lt.Name a=true)(h2:Lt.kind t=true)(hl:fs.length < 8) :
  Runs ⟨{ p with Funcs:=fs },w,n⟩ [[xx,a,t]] (stF p fs ⟨a,t,[],[],[]⟩ 3 0):=by
 refine pC λb=>nA (ja (gj h1)) (by grind) ?_
 refine(Te rfl).trans ?_;have:Lt.jY ⟨{ p with Funcs:=fs },w,n⟩ [xx,a,t]=(0,stF p fs ⟨a,t,[],[],[]⟩ 3 0):=by
  unfold Lt.jY;rw[lD (v:=⟨a,t⟩) h1 h2];have c:(Lt.Read.out ⟨{ p with Funcs:=fs },w,n⟩&&true)=true:=by grind
  rw[c,if_neg (by decide),if_neg (by grind)];rfl
 grind
theorem xR{p:Lt.Program}{fs:List Lt.Func}{n:Int}:∀(l:List Lt.Var)(f:Lt.Func),(∀v∈l,Lt.Name v.Name=true/\Lt.kind v.Type_=true)->f.Params.length+l.length<=6 ->
  Runs (stF p fs f 3 n) (l.map λv=>[qc,v.Name,v.Type_]) (stF p fs { f with Params:=f.Params++l } 3 n)
 |[],f,_,_=>by simpa using eM _
 |v::l,f,h,hl=>by
  obtain⟨h1,h2⟩:=h v (by simp);have a:f.Params.length+(l.length+1)<=6:=hl
  have ih:=xR (p:=p) (fs:=fs) (n:=n) l { f with Params:=f.Params++[v] } (λx hx=>h x (by grind)) (by grind)
  refine⟨stF p fs { f with Params:=f.Params++[v] } 3 n,λb=>rh (ja (gj h1)) (by grind) (l9 (by grind) (by grind) (by grind) (by grind) (by grind)) ?_,by grind⟩;refine(On rfl).trans ?_;have:jS (stF p fs f 3 n) [qc,v.Name,v.Type_]=(0,stF p fs { f with Params:=f.Params++[v] } 3 n):=by unfold jS;rw[lD h1 h2,oq,oB,if_neg (by show ¬ (decide ((3:Int)=3)&&true)=false;decide),if_neg kQ1];rfl
  grind
theorem Ef{p:Lt.Program}{fs:List Lt.Func}{n:Int}:∀(l:List Lt.Var)(f:Lt.Func)(w:Int),(w=3\/w=4)->(∀v∈l,Lt.Name v.Name=true/\Lt.kind v.Type_=true)->f.Vars.length+l.length<=1024 ->
  ∃w',(w'=3\/w'=4)/\Runs (stF p fs f w n) (l.map λv=>[JR,v.Name,v.Type_]) (stF p fs { f with Vars:=f.Vars++l } w' n)
 |[],f,w,hw,_,_=>⟨w,hw,by simpa using eM _⟩
 |v::l,f,w,hw,h,hl=>by
  obtain⟨h1,h2⟩:=h v (by simp);have d:f.Vars.length+(l.length+1)<=1024:=hl
  obtain⟨w',a,ih⟩:=Ef (p:=p) (fs:=fs) (n:=n) l { f with Vars:=f.Vars++[v] } 4 (.inr rfl) (λx hx=>h x (by grind)) (by grind);refine⟨w',a,stF p fs { f with Vars:=f.Vars++[v] } 4 n,λb=>rh (ja (gj h1)) (by grind) (l9 (by grind) (by grind) (by grind) (by grind) (by grind)) ?_,by grind⟩;refine(YB rfl).trans ?_;have:Lt.mM (stF p fs f w n) [JR,v.Name,v.Type_]=(0,stF p fs { f with Vars:=f.Vars++[v] } 4 n):=by
   unfold Lt.mM;have c:((decide ((stF p fs f w n).Where=3)||decide ((stF p fs f w n).Where=4))&&true)=true:=by
    show((decide (w=3)||decide (w=4))&&true)=true
    grind
   rw[lD h1 h2,oq,oB,c,if_neg (by decide),if_neg kQ1];rfl
  grind
theorem OT{p:Lt.Program}{fs:List Lt.Func}{f:Lt.Func}{w n:Int}(hw:w=3\/w=4\/w=9)(h1:Lt.Name a=true)(hl:f.Blocks.length < 256) :
  Runs (stF p fs f w n) [[sU,a]] (stB p fs f f.Blocks ⟨a,[],[],⟨0,⟨0,[],0⟩,[],0⟩⟩ 5 n):=by
 refine pC λb=>rh (Xj _ _) (by grind) (l9 (by grind) (by grind) (by grind) (by grind) (by grind)) ?_
 grind [Om,Lt.fE,stF,stB,aX,oq,oB]
theorem Oo{x:Lt.Phi}(h:Lt.phi x=true)(ok:x.ok):aP (FR x) 2 false=(x.Ins.map λi=>⟨i.Block,i.A⟩,true):=by
 obtain⟨_,_,_,h4⟩:=Oq h;unfold aP FR;have a:=s9 (objs:=false) (l:=x.Ins.map λi=>⟨i.Block,i.A⟩) (by
  intro b hb;obtain⟨i,hi,rfl⟩:=ak8.1 hb;have:=h4 i hi
  unfold oG at this;simp only[akP]at this;exact⟨this.1,this.2,ok.2 i hi⟩)
 grind [List.flatMap_map]
theorem Wo(l:List Lt.In):(l.map λi=>(⟨i.Block,i.A⟩:Lt.Bind)).map (λx=>(⟨x.Name,x.A⟩:Lt.In))=l:=by rw[al3];exact List.map_id _
theorem Ee{p:Lt.Program}{fs:List Lt.Func}{f:Lt.Func}{bs:List Lt.Block}:∀(l:List Lt.Phi)(b:Lt.Block)(n:Nat),(∀x∈l,Lt.phi x=true/\x.ok)->n+l.length<=1024 ->
  Runs (stB p fs f bs b 5 n) (l.map FR) (stB p fs f bs { b with Phis:=b.Phis++l } 5 ((n+l.length:Nat):Int))
 |[],b,n,_,_=>by simpa using eM _
 |x::l,b,n,h,hl=>by
  obtain⟨h1,a⟩:=h x (by simp);obtain⟨hd,g,d,_⟩:=Oq h1;have k:n+(l.length+1)<=1024:=hl
  have ih:=Ee (p:=p) (fs:=fs) (f:=f) (bs:=bs) l { b with Phis:=b.Phis++[x] } (n+1) (λy hy=>h y (by grind)) kQ1
  have e:n+1+l.length=n+(x::l).length:=by grind
  rw[e]at ih;refine⟨stB p fs f bs { b with Phis:=b.Phis++[x] } 5 ((n+1:Nat):Int),λc=>rh (ja (gj hd)) (by show ¬ Aw=wr;decide) (l9 (by show ¬ Aw=_;decide) (by show ¬ Aw=_;decide) (by show ¬ Aw=_;decide) (by show ¬ Aw=_;decide) (by show ¬ Aw=_;decide)) ?_,by grind⟩;refine(YA rfl).trans ?_;have:Lt.pu (stB p fs f bs b 5 n) (FR x)=(0,stB p fs f bs { b with Phis:=b.Phis++[x] } 5 ((n+1:Nat):Int)):=by
   unfold Lt.pu;rw[Oo h1 a,aX];have j:(decide ((stB p fs f bs b 5 (n:Int)).Where=5)&&((x.Ins.map λi=>(⟨i.Block,i.A⟩:Lt.Bind)),true).2&&!decide ((((x.Ins.map λi=>(⟨i.Block,i.A⟩:Lt.Bind)),true)).1.length=0)&&Lt.Name (Lt.w1 (FR x)))=true:=by
    show(true&&true&&!decide ((x.Ins.map λi=>(⟨i.Block,i.A⟩:Lt.Bind)).length=0)&&Lt.Name x.Dst)=true
    grind
   rw[j,if_neg (by decide),if_neg (by
    show ¬ (256 < (x.Ins.map λi=>(⟨i.Block,i.A⟩:Lt.Bind)).length\/1024<=(n:Int))
    grind),jp]
   simp only[Wo];rfl
  grind
def eJ(i:Lt.Instr):List a8:=(Lt.Of i.Op).1.Word::(if i.Op=26\/i.Op=27 then(Lt.puts i.Args).getD 0 default::i.Name::(Lt.puts i.Args).drop 1 else(if(Lt.Of i.Op).1.Named then [i.Name]else [])++Lt.puts i.Args)
theorem ZA(i:Lt.Instr):Lt.words i=(if(Lt.Of i.Op).1.Dst then [i.Dst,[61]]else [])++eJ i:=by grind [Lt.words,eJ]
theorem bare(i:Lt.Instr)(h:Lt.instr i=true)(ok:i.ok):Lt.gL i.Dst (eJ i)=some { i with Frames:=[],Objs:=[] }:=by
 have b:=im h
 obtain⟨_,l,j,c,e,g⟩:=tg i.Op;have hop:=adQ b.of
 have d:=D6 b.aok ok.1
 unfold Lt.gL;have k:Lt.w0 (eJ i)=(Lt.Of i.Op).1.Word:=rfl
 rw[k,hop];simp only[j,c,e,g,aX];have f:((Lt.Of i.Op).1.Dst==!decide (i.Dst=[]))=true:=by rw[b.dst];simp
 rw[f,if_neg (by decide)];have hr:Lo i.Op (eJ i)=some (i.Name,Lt.puts i.Args):=by
  unfold Lo;by_cases hc:i.Op=26\/i.Op=27
  .have hl:=b.least hc
   rw[if_pos hc];unfold eJ;rw[if_pos hc];cases ha:i.Args with
   |nil=>grind
   |cons a r=>rfl
  grind [eJ,InstrOk.nm]
 grind [InstrOk.nmN,InstrOk.lo,InstrOk.hi]
theorem ahI{op:Int}(h:(Lt.Of op).2=true)(hd:(Lt.Of op).1.Dst=false):op=27\/op=30\/op=33\/op=34:=by
 by_cases hc:1<=op/\op<=34
 .grind [Lt.Of]
 exfalso
 rw[<- (tg op).1]at h
 grind [Lt.rOf]
variable{objs:Bool}
theorem YV{l:List Lt.Arg}(h:bH l objs=true)(ok:vU l):∀w∈Lt.puts l,¬ w=[61]:=by
 intro w hw;obtain⟨a,ha,rfl⟩:=ak8.1 hw;unfold bH at h;have:=ak0.1 h a ha
 unfold bb at this;simp only[akP]at this;exact LO this.1 (ok a ha)
variable{i:Lt.Instr}
theorem ag2(h:Lt.instr i=true)(ok:i.ok):Lt.sEq (eJ i)=false:=by
 have a:=im h
 have hp:=YV a.aok ok.1
 grind [eJ,InstrOk.least,Lt.puts,gj,InstrOk.nmN,Lt.sEq]
theorem UL{p:Lt.Program}{fs:List Lt.Func}{f:Lt.Func}{bs:List Lt.Block}{b:Lt.Block}{w:Int}{n:Nat}(hw:5<=w/\w<=8)(h:Lt.instr i=true)(ok:i.ok)(hl:n+1<=1024) :
  Runs (stB p fs f bs b w n) [Lt.words i] (stI p fs f bs b b.Code { i with Frames:=[],Objs:=[] } (if i.Op=31\/i.Op=34 then 7 else 6) ((n+1:Nat):Int)):=by
 have g:=im h
 have hb:=bare i h ok
 have a:(stB p fs f bs b w (n:Int)).ins=true:=by
  show(decide (5<=w)&&decide (w<=8))=true
  grind
 refine pC λc=>?_
 rw[ZA];cases hd:(Lt.Of i.Op).1.Dst with
 |true=>
  rw[if_pos rfl];have hN:=g.dstN hd
  have d:Lt.sEq ([i.Dst,[61]]++eJ i)=true:=by rfl
  unfold dM;rw[d,if_pos rfl];unfold fa;have e0:Lt.w0 ([i.Dst,[61]]++eJ i)=i.Dst:=rfl
  have l:([i.Dst,[61]]++eJ i).drop 2=eJ i:=rfl
  rw[d,e0,aX,hN,a,if_neg (by decide),if_neg (by decide),if_pos rfl,if_pos rfl,l,hb];simp only
  rw[if_neg (by show ¬ (1024:Int)<=(n:Int);omega),jp];rfl
 |false=>
  rw[if_neg (by decide),alV];have d:=ag2 h ok
  have j:i.Dst=[]:=by grind [InstrOk.dst]
  have e0:Lt.w0 (eJ i)=(Lt.Of i.Op).1.Word:=rfl
  have hk:∀k∈[wr,sV,qb,ke,io,xx,qc,JR,sU,Aw,Lt.kAt,rW,Av,jd,E9,Ax],¬ Lt.w0 (eJ i)=k:=by rw[e0];rcases ahI g.of hd with e|e|e|e<;>rw[e]<;>decide +kernel
  rw[T7 (hk _ (by simp)) (l9 (hk _ (by simp)) (hk _ (by simp)) (hk _ (by simp)) (hk _ (by simp)) (hk _ (by simp))) (yu (hk _ (by simp)) (hk _ (by simp)) (hk _ (by simp)) (hk _ (by simp))) (Zi (hk _ (by simp)) (hk _ (by simp)) (hk _ (by simp)) (hk _ (by simp)) (hk _ (by simp)) (hk _ (by simp)))];unfold fa;rw[d,a,alX,if_neg (by decide),if_neg (by decide),if_neg (by decide),if_neg (by decide)];rw[j]at hb;rw[hb];simp only
  rw[if_neg (by show ¬ (1024:Int)<=(n:Int);omega),jp];simp only[j];rfl
theorem Jt{x:Lt.Frame}(h:Lt.frame x=true)(ok:x.ok):aP (kW x) 4 true=(x.Vars,true):=by
 obtain⟨_,_,_,_,_,h4⟩:=Ad h;unfold aP kW;have a:=s9 (objs:=true) (l:=x.Vars) (by
  intro b hb;have:=h4 b hb
  unfold iN at this;simp only[akP]at this;exact⟨this.1,this.2,ok.2 b hb⟩)
 grind
theorem xP{p:Lt.Program}{fs:List Lt.Func}{f:Lt.Func}{bs:List Lt.Block}{b:Lt.Block}{cs:List Lt.Instr}{n:Int}:∀(l:List Lt.Frame)(i:Lt.Instr),(∀x∈l,Lt.frame x=true/\x.ok)->i.Frames.length+l.length<=16 ->
  Runs (stI p fs f bs b cs i 7 n) (l.map kW) (stI p fs f bs b cs { i with Frames:=i.Frames++l } 7 n)
 |[],i,_,_=>by simpa using eM _
 |x::l,i,h,hl=>by
  obtain⟨h1,a⟩:=h x (by simp);obtain⟨hf,hb,k,m,e,_⟩:=Ad h1;have o:i.Frames.length+(l.length+1)<=16:=hl
  have ih:=xP (p:=p) (fs:=fs) (f:=f) (bs:=bs) (b:=b) (cs:=cs) (n:=n) l { i with Frames:=i.Frames++[x] } (λy hy=>h y (by grind)) (by grind)
  refine⟨stI p fs f bs b cs { i with Frames:=i.Frames++[x] } 7 n,λc=>sX (ja (gj hf)) (by show ¬ Lt.kAt=wr;decide) (l9 (by show ¬ Lt.kAt=_;decide) (by show ¬ Lt.kAt=_;decide) (by show ¬ Lt.kAt=_;decide) (by show ¬ Lt.kAt=_;decide) (by show ¬ Lt.kAt=_;decide)) (yu (by show ¬ Lt.kAt=_;decide) (by show ¬ Lt.kAt=_;decide) (by show ¬ Lt.kAt=_;decide) (by show ¬ Lt.kAt=_;decide)) ?_,by grind⟩;refine(Zh (by rfl) rfl).trans ?_;have:Lt.sAt (stI p fs f bs b cs i 7 n) (kW x)=(0,stI p fs f bs b cs { i with Frames:=i.Frames++[x] } 7 n):=by
   unfold Lt.sAt;have en:fd (Lt.w3 (kW x))=(x.At,true):=qw (by grind [Lt.inR])
   have j:Lt.w1 (kW x)=x.Func:=rfl
   have g:Lt.w2 (kW x)=x.Block:=rfl
   rw[Jt h1 a,aX,aX,en,j,g,hf,hb,yn,uC];have d:(decide ((stI p fs f bs b cs i 7 n).Where=7)&&(x.Vars,true).2&&true&&true&&((x.At,true).2&&decide (0<=(x.At,true).1)&&decide ((x.At,true).1<=1024)))=true:=by
    show(true&&true&&true&&true&&(true&&decide (0<=x.At)&&decide (x.At<=1024)))=true
    grind
   rw[d,if_neg (by decide),if_neg (by grind)]
  grind
theorem Ed{p:Lt.Program}{fs:List Lt.Func}{f:Lt.Func}{bs:List Lt.Block}{b:Lt.Block}{cs:List Lt.Instr}{n:Int}:∀(l:List Lt.Virt)(i:Lt.Instr)(w:Int),(w=7\/w=8)->(∀x∈l,Lt.virt x=true/\x.ok)->i.Objs.length+l.length<=99 ->
  ∃w',(w'=7\/w'=8)/\Runs (stI p fs f bs b cs i w n) (l.map sx) (stI p fs f bs b cs { i with Objs:=i.Objs++l } w' n)
 |[],i,w,hw,_,_=>⟨w,hw,by simpa using eM _⟩
 |x::l,i,w,hw,h,hl=>by
  obtain⟨h1,a⟩:=h x (by simp);obtain⟨hc,h8,hv⟩:=Rb h1;have m:i.Objs.length+(l.length+1)<=99:=hl
  obtain⟨w',e,ih⟩:=Ed (p:=p) (fs:=fs) (f:=f) (bs:=bs) (b:=b) (cs:=cs) (n:=n) l { i with Objs:=i.Objs++[x] } 8 (.inr rfl) (λy hy=>h y (by grind)) (by grind);refine⟨w',e,stI p fs f bs b cs { i with Objs:=i.Objs++[x] } 8 n,λc=>sX (ja (gj hc)) (by show ¬ rW=wr;decide) (l9 (by show ¬ rW=_;decide) (by show ¬ rW=_;decide) (by show ¬ rW=_;decide) (by show ¬ rW=_;decide) (by show ¬ rW=_;decide)) (yu (by show ¬ rW=_;decide) (by show ¬ rW=_;decide) (by show ¬ rW=_;decide) (by show ¬ rW=_;decide)) ?_,by grind⟩;have d:(stI p fs f bs b cs i w n).ins=true:=by
   show(decide (5<=w)&&decide (w<=8))=true
   grind
  refine(UK d rfl).trans ?_;have:Lt.rY (stI p fs f bs b cs i w n) (sx x)=(0,stI p fs f bs b cs { i with Objs:=i.Objs++[x] } 8 n):=by
   unfold Lt.rY;have k:(sx x).drop 2=Lt.puts x.Vals:=rfl
   have j:Lt.w1 (sx x)=x.Class:=rfl
   have el:(sx x).length=x.Vals.length+2:=by simp[sx,Lt.puts]
   rw[k,D6 hv a,aX,j,hc,yn,uC,el];have g:(decide (7<=(stI p fs f bs b cs i w n).Where)&&decide (2<=x.Vals.length+2)&&decide (x.Vals.length+2<=10)&&true&&(x.Vals,true).2)=true:=by
    show(decide (7<=w)&&decide (2<=x.Vals.length+2)&&decide (x.Vals.length+2<=10)&&true&&true)=true
    grind
   rw[g,if_neg (by decide),if_neg kQ1];rfl
  grind
theorem Ly{p:Lt.Program}{fs:List Lt.Func}{f:Lt.Func}{bs:List Lt.Block}{b:Lt.Block}{w:Int}{n:Nat}(hw:5<=w/\w<=8)(h:Lt.instr i=true)(ok:i.ok)(hl:n+1<=1024) :
  ∃w',(5<=w'/\w'<=8)/\Runs (stB p fs f bs b w n) ((r9 i).map λx=>x.Words) (stB p fs f bs { b with Code:=b.Code++[i] } w' ((n+1:Nat):Int)):=by
 have c:=im h
 have a:=UL (p:=p) (fs:=fs) (f:=f) (bs:=bs) (b:=b) hw h ok hl
 have e:(r9 i).map (λx=>x.Words)=[Lt.words i]++(i.Frames.map kW++i.Objs.map sx):=by simp[r9,Lt.ln,Function.comp_def]
 rw[e];by_cases hc:i.Op=31\/i.Op=34
 .rw[if_pos hc]at a;have b1:=xP (p:=p) (fs:=fs) (f:=f) (bs:=bs) (b:=b) (cs:=b.Code) (n:=((n+1:Nat):Int)) i.Frames { i with Frames:=[],Objs:=[] } (λx hx=>⟨c.fr x hx,ok.2.1 x hx⟩) (by simpa using c.frames)
  obtain⟨w',k,b2⟩:=Ed (p:=p) (fs:=fs) (f:=f) (bs:=bs) (b:=b) (cs:=b.Code) (n:=((n+1:Nat):Int)) i.Objs { i with Objs:=[] } 7 (.inl rfl) (λx hx=>⟨c.ob x hx,ok.2.2 x hx⟩) (by simpa using c.objs);simp only[alV]at b1 b2;exact⟨w',by omega,cM a (cM b1 b2)⟩
 rw[if_neg hc]at a;obtain⟨g,d⟩:=c.none kQ1;refine⟨6,by omega,?_⟩;have j:({ i with Frames:=[],Objs:=[] }:Lt.Instr)=i:=by rw[<- g,<- d]
 rw[j]at a;rw[g,d];exact a
theorem BC{p:Lt.Program}{fs:List Lt.Func}{f:Lt.Func}{bs:List Lt.Block}:∀(l:List Lt.Instr)(b:Lt.Block)(w:Int)(n:Nat),(5<=w/\w<=8)->(∀i∈l,Lt.instr i=true/\i.ok)->n+l.length<=1024 ->
  ∃w',(5<=w'/\w'<=8)/\Runs (stB p fs f bs b w n) ((l.flatMap r9).map λx=>x.Words) (stB p fs f bs { b with Code:=b.Code++l } w' ((n+l.length:Nat):Int))
 |[],b,w,n,hw,_,_=>⟨w,hw,by simpa using eM _⟩
 |i::l,b,w,n,hw,h,hl=>by
  obtain⟨h1,c⟩:=h i (by simp);have g:n+(l.length+1)<=1024:=hl
  obtain⟨w1,hw1,a⟩:=Ly (p:=p) (fs:=fs) (f:=f) (bs:=bs) (b:=b) hw h1 c (n:=n) kQ1;obtain⟨w2,d,ih⟩:=BC (p:=p) (fs:=fs) (f:=f) (bs:=bs) l { b with Code:=b.Code++[i] } w1 (n+1) hw1 (λy hy=>h y (by grind)) kQ1;have e:n+1+l.length=n+(i::l).length:=by grind
  rw[e]at ih
  grind [cM]
variable{t:Lt.Term}
theorem Zn(h:fh t=true)(ok:t.ok):jC (j8 t)=some t:=by
 rcases qY h with⟨x,rfl,h1⟩|⟨a,x,y,rfl,h1,h2,h3⟩|⟨a,rfl,h1⟩|⟨n,rfl⟩
 .grind [j8,jC,aX]
 .have e:j8 ⟨2,a,[x,y],0⟩=[jd,aB a,x,y]:=by rfl
  have ha:Lt.dE (aB a)=(a,true):=nO (by grind [bb]) ok.1
  rw[e];unfold jC;rw[if_neg (by grind),if_pos (show Lt.w0 [jd,aB a,x,y]=jd from rfl),aX,aX,if_pos (by
   show(true&&(Lt.Name x&&Lt.Name y)&&iE false (aB a))=true
   rw[h2,h3,qV h1 ok.1];rfl)]
  grind [aB]
 .have e:j8 ⟨3,a,[],0⟩=[E9,aB a]:=by rfl
  have ha:Lt.dE (aB a)=(a,true):=nO (by grind [bb]) ok.1
  rw[e];unfold jC;rw[if_neg (by grind),if_neg (by grind),if_pos (show Lt.w0 [E9,aB a]=E9 from rfl),if_pos (by
   show(true&&iE false (aB a))=true
   rw[qV h1 ok.1];rfl)]
  grind
 have e:j8 ⟨4,⟨0,[],0⟩,[],n⟩=[Ax,be n]:=by rfl
 have ha:fd (be n)=(n,true):=qw ok.2
 grind [jC]
theorem Zj{p:Lt.Program}{fs:List Lt.Func}{f:Lt.Func}{bs:List Lt.Block}{b:Lt.Block}{w n:Int}(hw:5<=w/\w<=8)(h:fh t=true)(ok:t.ok) :
  Runs (stB p fs f bs b w n) [j8 t] (stB p fs f bs { b with End:=t } 9 n):=by
 have g:(stB p fs f bs b w n).ins=true:=by
  show(decide (5<=w)&&decide (w<=8))=true
  grind
 have key:wS (stB p fs f bs b w n) (j8 t)=(0,stB p fs f bs { b with End:=t } 9 n):=by unfold wS;rw[Zn h ok];simp only[jp];rfl
 have hk:Lt.sEq (j8 t)=false/\(Lt.w0 (j8 t)=Av\/Lt.w0 (j8 t)=jd\/Lt.w0 (j8 t)=E9\/Lt.w0 (j8 t)=Ax):=by
  rcases qY h with⟨x,rfl,h1⟩|⟨a,x,y,rfl,h1,h2,h3⟩|⟨a,rfl,h1⟩|⟨n,rfl⟩
  .exact⟨rfl,.inl rfl⟩
  .have e:j8 ⟨2,a,[x,y],0⟩=[jd,aB a,x,y]:=by rfl
   rw[e];unfold bb at h1;simp only[akP]at h1;exact⟨ja (LO h1.1 ok.1),.inr (.inl rfl)⟩
  .have e:j8 ⟨3,a,[],0⟩=[E9,aB a]:=by rfl
   rw[e];exact⟨rfl,.inr (.inr (.inl rfl))⟩
  have e:j8 ⟨4,⟨0,[],0⟩,[],n⟩=[Ax,be n]:=by rfl
  rw[e];exact⟨rfl,.inr (.inr (.inr rfl))⟩
 obtain⟨d,hk⟩:=hk;have hn:∀k∈[wr,sV,qb,ke,io,xx,qc,JR,sU,Aw,Lt.kAt,rW],¬ Lt.w0 (j8 t)=k:=by rcases hk with e|e|e|e<;>rw[e]<;>decide
 refine pC λc=>sX d (hn _ (by simp)) (l9 (hn _ (by simp)) (hn _ (by simp)) (hn _ (by simp)) (hn _ (by simp)) (hn _ (by simp))) (yu (hn _ (by simp)) (hn _ (by simp)) (hn _ (by simp)) (hn _ (by simp))) ?_
 grind [cy]
theorem Lx{p:Lt.Program}{fs:List Lt.Func}{f:Lt.Func}{w:Int}{n:Nat}{b:Lt.Block}(hw:w=3\/w=4\/w=9)(h:Lt.block b=true)(ok:b.ok)(hb:f.Blocks.length < 256)(hl:n+(b.Phis.length+b.Code.length)<=1024) :
  Runs (stF p fs f w n) ((mA b).map λx=>x.Words) (stF p fs { f with Blocks:=f.Blocks++[b] } 9 ((n+(b.Phis.length+b.Code.length):Nat):Int)):=by
 obtain⟨hn,g,hp,hc⟩:=zy h;obtain⟨o1,o2,o3⟩:=ok;have d:=OT (p:=p) (fs:=fs) (f:=f) (n:=(n:Int)) hw hn hb
 have c:=Ee (p:=p) (fs:=fs) (f:=f) (bs:=f.Blocks) b.Phis ⟨b.Name,[],[],⟨0,⟨0,[],0⟩,[],0⟩⟩ n (λx hx=>⟨hp x hx,o1 x hx⟩) kQ1
 simp only[alV]at c;obtain⟨w',a,a3⟩:=BC (p:=p) (fs:=fs) (f:=f) (bs:=f.Blocks) b.Code ⟨b.Name,b.Phis,[],⟨0,⟨0,[],0⟩,[],0⟩⟩ 5 (n+b.Phis.length) kQ1 (λx hx=>⟨hc x hx,o2 x hx⟩) kQ1;simp only[alV]at a3;have a4:=Zj (p:=p) (fs:=fs) (f:=f) (bs:=f.Blocks) (b:=⟨b.Name,b.Phis,b.Code,⟨0,⟨0,[],0⟩,[],0⟩⟩) (n:=((n+b.Phis.length+b.Code.length:Nat):Int)) a g o3
 have e:(mA b).map (λx=>x.Words)=[[sU,b.Name]]++(b.Phis.map FR++((b.Code.flatMap r9).map (λx=>x.Words)++[j8 b.End])):=by simp_all[mA,Lt.ln]
 rw[e,<- Nat.add_assoc];exact cM d (cM c (cM a3 a4))
theorem vk{p:Lt.Program}{fs:List Lt.Func}:∀(l:List Lt.Block)(f:Lt.Func)(w:Int)(n:Nat),(w=3\/w=4\/w=9)->(∀b∈l,Lt.block b=true/\b.ok)->f.Blocks.length+l.length<=256->n+longs l<=1024 ->
  Runs (stF p fs f w n) ((l.flatMap mA).map λx=>x.Words) (stF p fs { f with Blocks:=f.Blocks++l } (if l=[]then w else 9) ((n+longs l:Nat):Int))
 |[],f,w,n,_,_,_,_=>by simp_all[longs,eM]
 |b::l,f,w,n,hw,h,hb,hl=>by
  obtain⟨h1,c⟩:=h b (by simp);have d:f.Blocks.length+(l.length+1)<=256:=hb
  have el:longs (b::l)=(b.Phis.length+b.Code.length)+longs l:=by rfl
  rw[el]at hl|-;have a:=Lx (p:=p) (fs:=fs) (f:=f) hw h1 c kQ1 (n:=n) kQ1
  have ih:=vk (p:=p) (fs:=fs) l { f with Blocks:=f.Blocks++[b] } 9 (n+(b.Phis.length+b.Code.length)) kQ1 (λy hy=>h y (by grind)) (by grind) kQ1
  grind [cM]
theorem OV{p:Lt.Program}{fs:List Lt.Func}{w n:Int}{f:Lt.Func}(hw:w<=2\/w=9)(h:aJ f=true)(ok:f.ok)(hl:fs.length < 8) :
  Runs ⟨{ p with Funcs:=fs },w,n⟩ ((p6 f).map λx=>x.Words) ⟨{ p with Funcs:=fs++[f] },9,(longs f.Blocks:Int)⟩:=by
 have a:=yt h
 have d:=UM (p:=p) (fs:=fs) (n:=n) hw a.name a.res hl
 have c:=xR (p:=p) (fs:=fs) (n:=0) f.Params ⟨f.Name,f.Result,[],[],[]⟩ (rM a.params) (by simp_all[jH,FuncOk.params])
 simp only[alV]at c;obtain⟨w',g,a3⟩:=Ef (p:=p) (fs:=fs) (n:=0) f.Vars ⟨f.Name,f.Result,f.Params,[],[]⟩ 3 (.inl rfl) (rM a.vars) (by simp_all[jH,FuncOk.vars]);simp only[alV]at a3;have a4:=vk (p:=p) (fs:=fs) f.Blocks ⟨f.Name,f.Result,f.Params,f.Vars,[]⟩ w' 0 kQ1 (λb hb=>⟨a.bl b hb,ok b hb⟩) (by simpa using a.len) (by simpa using a.long)
 simp only[alV,if_neg a.ne,amB]at a4;have e:(p6 f).map (λx=>x.Words)=[[xx,f.Name,f.Result]]++(f.Params.map (λv=>[qc,v.Name,v.Type_])++(f.Vars.map (λv=>[JR,v.Name,v.Type_])++(f.Blocks.flatMap mA).map λx=>x.Words)):=by simp[p6,Lt.ln,sw,Function.comp_def]
 rw[e];exact cM d (cM c (cM a3 a4))
theorem xQ{p:Lt.Program}:∀(l fs:List Lt.Func)(w n:Int),(w<=2\/w=9)->(∀f∈l,aJ f=true/\f.ok)->fs.length+l.length<=8 ->
  ∃w' n',(w'<=2\/w'=9)/\Runs ⟨{ p with Funcs:=fs },w,n⟩ ((l.flatMap p6).map λx=>x.Words) ⟨{ p with Funcs:=fs++l },w',n'⟩
 |[],fs,w,n,hw,_,_=>⟨w,n,hw,by grind [eM]⟩
 |f::l,fs,w,n,hw,h,hl=>by
  obtain⟨h1,b⟩:=h f (by simp);have d:fs.length+(l.length+1)<=8:=hl
  have a:=OV (p:=p) (n:=n) hw h1 b (fs:=fs) kQ1
  obtain⟨w',n',c,ih⟩:=xQ (p:=p) l (fs++[f]) 9 (longs f.Blocks) (.inr rfl) (λy hy=>h y (by grind)) (by grind)
  grind [cM]
def D4(p:Lt.Program):List Lt.Line:=p.Classes.flatMap kR++sw ke p.Globals++p.Externs.map uu++p.Funcs.flatMap p6
theorem OW{p:Lt.Program}(h:bt p=true)(ok:p.ok):∃w n,(w<=2\/w=9)/\Runs ⟨⟨p.SSA,[],[],[],[]⟩,0,0⟩ ((D4 p).map λx=>x.Words) ⟨p,w,n⟩:=by
 have a:=FV h
 obtain⟨w1,hw1,i⟩:=xN (s:=p.SSA) (gs:=[]) (es:=[]) (fs:=[]) (n:=0) p.Classes [] 0 kQ1 a.cl (by simpa using a.nc);obtain⟨w2,c,g⟩:=vn (s:=p.SSA) (cs:=p.Classes) (es:=[]) (fs:=[]) (n:=0) p.Globals [] w1 hw1 (rM a.glob) (by simp_all[jH,ProgOk.glob]);obtain⟨w3,d,a3⟩:=vm (s:=p.SSA) (cs:=p.Classes) (gs:=p.Globals) (fs:=[]) (n:=0) p.Externs [] w2 c a.ex (by simpa using a.ne);obtain⟨k,j,b,a4⟩:=xQ (p:=p) p.Funcs [] w3 0 d (λf hf=>⟨a.fn f hf,ok f hf⟩) (by simpa using a.nf);simp only[alV]at i g a3 a4;refine⟨k,j,b,?_⟩;have e:(D4 p).map (λx=>x.Words)=(p.Classes.flatMap kR).map (λx=>x.Words)++(p.Globals.map (λv=>[ke,v.Name,v.Type_])++(p.Externs.map (λx=>[io,x.Name,be x.N])++(p.Funcs.flatMap p6).map λx=>x.Words)):=by simp[D4,Lt.ln,sw,uu,Lt.number,Function.comp_def]
 rw[e];exact cM i (cM g (cM a3 a4))
theorem Ol{p:Lt.Program}(h:bt p=true)(ok:p.ok)(hl:(gJ p).length<=4194304):lx (gJ p)=(p,0,0):=by
 have e:=Us h
 rw[e]at hl|-;obtain⟨w,n,hw,hr⟩:=OW h ok;have a:(⟨p,w,n⟩:Lt.Read).out=true:=by grind
 unfold lx;rw[OS (OB h) hl];simp only[if_true];have el:DX p=(if p.SSA then [Lt.ln [wr]]else [])++D4 p:=by grind [DX,D4]
 rw[el];cases hs:p.SSA with
 |true=>
  rw[hs]at hr;rw[if_pos rfl];show fS (⟨1,[wr]⟩::numb (1+1) (D4 p)) true _=_
  have h1:dM ⟨⟨false,[],[],[],[]⟩,0,0⟩ [wr] true=(0,⟨⟨true,[],[],[],[]⟩,0,0⟩):=rfl
  rw[fS,h1,if_pos rfl,ta _ _ _ _ _ hr,a];rfl
 |false=>rw[hs]at hr;rw[if_neg (by decide),alV,ta _ _ _ _ _ hr,a];rfl
theorem AH(bs:List Lt.Block)(b:Lt.Block):longs (bs++[b])=longs bs+(b.Phis.length+b.Code.length):=by simp[longs]
theorem Db:∀(l:List Lt.Block)(n:Nat),n+longs l<=1024->(∀b∈l,Lt.block b=true)->Lt.blocks l n=true
 |[],_,_,_=>rfl
 |b::r,n,h,hb=>by
  have e:longs (b::r)=(b.Phis.length+b.Code.length)+longs r:=by rfl
  rw[e]at h;rw[Lt.blocks,hb b (by simp),Db r _ kQ1 (λx hx=>hb x (by grind))]
  grind
def ag6(f:Lt.Func):Prop:=Lt.Name f.Name=true/\Lt.kind f.Result=true/\Lt.typed f.Params 6=true/\Lt.typed f.Vars 1024=true
structure Open (f:Lt.Func) (bs:List Lt.Block) (b:Lt.Block) (w n:Int):Prop where
 hd:ag6 f
 len:bs.length+1<=256
 long:n=((longs bs+(b.Phis.length+b.Code.length):Nat):Int)
 most:n<=1024
 bl:bs.all Lt.block=true
 nm:Lt.Name b.Name=true
 ph:b.Phis.all Lt.phi=true
 cd:b.Code.all Lt.instr=true
 fin:w=9->fh b.End=true
 ins:6<=w->w<=8->∃cs c,b.Code=cs++[c]/\(7<=w->c.Op=31\/c.Op=34)
theorem QS{f:Lt.Func}{bs:List Lt.Block}{b:Lt.Block}{w n:Int}(hw:5<=w)(h:Open f bs b w n):pZ { f with Blocks:=bs++[b] } w n:=by
 have hl:=h.long
 have hm:=h.most
 refine⟨h.hd,⟨by simpa using h.len,by omega,hm⟩,λ_=>by omega,λ_=>⟨bs,b,rfl,h.bl,?_,⟨h.nm,h.ph,h.cd⟩,h.fin,h.ins⟩⟩
 grind [longs]
theorem wE{f:Lt.Func}{w n:Int}(hw:5<=w)(h:pZ f w n):∃bs b,f.Blocks=bs++[b]/\Open f bs b w n:=by
 obtain⟨h1,⟨h2,h3,h4⟩,_,h5⟩:=h;obtain⟨bs,b,e,hb,hn,⟨k1,k2,k3⟩,hf,hi⟩:=h5 hw;refine⟨bs,b,e,⟨h1,by grind,?_,h4,hb,k1,k2,k3,hf,hi⟩⟩
 grind [longs]
theorem KZ{f:Lt.Func}{n:Int}(h:pZ f 9 n):aJ f=true:=by
 obtain⟨bs,b,e,o⟩:=wE kQ1 h;obtain⟨h1,h2,h3,h4⟩:=o.hd;have hl:=o.long
 have hm:=o.most
 have hn:=o.len
 unfold aJ;have hb:∀x∈f.Blocks,Lt.block x=true:=by
  rw[e];intro x hx;rcases ak3.1 hx with hx|hx
  .exact ak0.1 o.bl x hx
  grind [Lt.block,Open.nm,Open.fin,Open.ph,Open.cd]
 grind [Db,AH,decide]
theorem uR(h:Lt.Inv r)(a:r.out=true):r.P.Funcs.all aJ=true:=by
 obtain⟨_,_,_,_,h2,h3⟩:=h
 grind [KZ]
theorem Tm(h:Lt.Inv r)(a:r.out=true):bt r.P=true:=by
 have hf:=uR h a
 obtain⟨_,⟨h1,h2,h3⟩,⟨h4,h5,h6⟩,_⟩:=h
 grind [bt]
theorem E8{p:Lt.Program}{fs:List Lt.Func}{f f':Lt.Func}{w w' n n':Int}(h:Lt.Inv (stF p fs f w n))(hw:3<=w)(h1:3<=w')(h2:w'<=9)(hp:pZ f' w' n'):Lt.Inv (stF p fs f' w' n'):=by
 obtain⟨_,⟨i,c,a3⟩,⟨a4,a5,d⟩,_,_,b⟩:=h;obtain⟨a,j,e,hf,_⟩:=b hw;have e:fs++[f]=a++[j]:=e
 obtain⟨g,_⟩:=List.append_inj' e rfl;subst g;have a3:(fs++[f]).length<=8:=a3
 refine⟨⟨by show 0<=w';omega,h2⟩,⟨i,c,by show(fs++[f']).length<=8;grind⟩,⟨a4,a5,d⟩,λh=>?_,λh=>?_,λ_=>⟨fs,f',rfl,hf,hp⟩⟩
 .have:w'=1:=h
  omega
 have:w'<=2:=h
 omega
theorem uE(h:Lt.Inv r)(hw:3<=r.Where):∃p fs f,r=stF p fs f r.Where r.Long/\pZ f r.Where r.Long:=by obtain⟨_,_,_,_,_,a⟩:=h;obtain⟨fs,f,e,_,hp⟩:=a hw;refine⟨r.P,fs,f,?_,hp⟩;unfold stF;rw[<- e]
theorem ni(h:Lt.Inv r)(hw:5<=r.Where):∃p fs f bs b,r=stB p fs f bs b r.Where r.Long/\Open f bs b r.Where r.Long:=by obtain⟨p,fs,f,e,hp⟩:=uE h kQ1;obtain⟨bs,b,a,o⟩:=wE hw hp;refine⟨p,fs,f,bs,b,?_,o⟩;unfold stB;rw[<- a];exact e
theorem uD{p:Lt.Program}{fs:List Lt.Func}{f:Lt.Func}{bs a:List Lt.Block}{b b':Lt.Block}{w w' n n':Int}(h:Lt.Inv (stB p fs f bs b w n))(hw:5<=w)(h1:5<=w')(h2:w'<=9)(o:Open f a b' w' n'):Lt.Inv (stB p fs f a b' w' n'):=E8 h kQ1 kQ1 h2 (QS h1 o)
theorem oW{l:List Lt.Var}{k:Nat}(h:Lt.typed l k=true)(hl:l.length<k)(h1:Lt.Name v.Name=true)(h2:Lt.kind v.Type_=true):Lt.typed (l++[v]) k=true:=by grind [Lt.typed]
theorem lC(h:db l=true):Lt.Name (Lt.w1 l)=true/\Lt.kind (Lt.w2 l)=true:=by grind [db,aX,QG]
theorem adZ{α:Type}{l:List α}(h:l≠[]):∃i x,l=i++[x]:=⟨l.dropLast,l.getLast h,(List.dropLast_concat_getLast h).symm⟩
theorem zc{s:Bool}{cs:List Lt.Class}{fs:List Lt.Func}{w n:Int}(h0:0<=w)(h9:w<=9)(g:cs.length<=8)(c:es.length<=8)(a3:fs.length<=8)(a4:Lt.typed gs 8=true)(a5:cs.all cV=true)(e:es.all cP=true)
  (b:w=1->cs≠[]) (d:w<=2->fs.all aJ=true) (a9:3<=w->∃a f,fs=a++[f]/\a.all aJ=true/\pZ f w n):Lt.Inv ⟨⟨s,cs,gs,es,fs⟩,w,n⟩:=⟨⟨h0,h9⟩,⟨g,c,a3⟩,⟨a4,a5,e⟩,b,d,a9⟩
theorem Tj(h:Lt.Inv r)(a:(Lt.i9 r l).1=0):Lt.Inv (Lt.i9 r l).2:=by
 unfold Lt.i9 at a|-;split at a
 .cases a
 rename_i b;rw[if_neg b];split at a
 .cases a
 rename_i d;rw[if_neg d];simp only[alE,akP,aX]at b;have hf:=uR h b.1.1
 obtain⟨_,⟨f,c,a3⟩,⟨a4,a5,e⟩,_⟩:=h;refine zc (by decide) (by decide) (by grind) c a3 a4 ?_ e (λ_=>by simp) (λ_=>hf) (λh=>absurd h (by decide));rw[List.all_append,a5];simp only[ak2,anA,amN,ak9];unfold cV;rw[b.2];rfl
theorem Tk(h:Lt.Inv r)(b:(ls r l).1=0):Lt.Inv (ls r l).2:=by
 unfold ls at b|-;split at b
 .cases b
 rename_i a;rw[if_neg a];split at b
 .cases b
 rename_i f;rw[if_neg f];simp only[alE,akP,decide_eq_true_eq]at a;obtain⟨a,m⟩:=a;obtain⟨t,n⟩:=lC m;obtain⟨a0,⟨s,j,a3⟩,⟨a4,a5,q⟩,g,o,a9⟩:=h;obtain⟨i,c,e⟩:=adZ (g a);rw[e,wk]at f;rw[e]at a5 s;rw[List.all_append]at a5;simp only[akP,ak2,anA,and_true]at a5;obtain⟨p,d⟩:=a5;unfold cV at d;simp only[akP]at d;have key:Lt.last r.P.Classes (λc=>{ c with Fields:=c.Fields++[⟨Lt.w1 l,Lt.w2 l⟩] })=i++[{ c with Fields:=c.Fields++[⟨Lt.w1 l,Lt.w2 l⟩] }]:=by rw[e,nv]
 show Lt.Inv ⟨⟨r.P.SSA,Lt.last r.P.Classes (λc=>{ c with Fields:=c.Fields++[⟨Lt.w1 l,Lt.w2 l⟩] }),r.P.Globals,r.P.Externs,r.P.Funcs⟩,r.Where,r.Long⟩
 rw[key];refine zc a0.1 a0.2 (by grind) j a3 a4 ?_ q (λ_=>by simp) o (λh=>by omega)
 .rw[List.all_append,p];simp only[ak2,anA,amN,ak9];unfold cV;have:=oW (k:=8) (v:=⟨Lt.w1 l,Lt.w2 l⟩) d.2 kQ1 t n
  grind
theorem oM{n k:Nat}(h:(if k<=n then(2:Int)else 0)=0):n<k:=by omega
theorem Nb(h:Lt.Inv r)(b:(iy r l).1=0):Lt.Inv (iy r l).2:=by
 unfold iy at b|-;split at b
 .cases b
 rename_i a;rw[if_neg a];have d:=oM b
 simp only[alE,akP]at a;obtain⟨i,e⟩:=lC a.2;have hf:=uR h a.1
 obtain⟨_,⟨g,c,a3⟩,⟨a4,a5,f⟩,_⟩:=h;exact zc (w:=2) (by decide) (by decide) g c a3 (oW (k:=8) a4 d i e) a5 f (λh=>absurd h (by decide)) (λ_=>hf) (λh=>absurd h (by decide))
theorem Na(h:Lt.Inv r)(a:(gu r l).1=0):Lt.Inv (gu r l).2:=by
 unfold gu at a|-;split at a
 .cases a
 rename_i b;rw[if_neg b];have d:=oM a
 simp only[alE,akP,aX]at b;have hf:=uR h b.1.1.1
 obtain⟨_,⟨f,c,a3⟩,⟨a4,a5,e⟩,_⟩:=h
 grind [zc,cP]
theorem XJ(h:Lt.Inv r)(b:(Lt.jY r l).1=0):Lt.Inv (Lt.jY r l).2:=by
 unfold Lt.jY at b|-;split at b
 .cases b
 rename_i a;rw[if_neg a];have i:=oM b
 simp only[alE,akP]at a;obtain⟨g,d⟩:=lC a.2;have hf:=uR h a.1
 obtain⟨_,⟨f,c,a3⟩,⟨a4,a5,e⟩,_⟩:=h;exact zc (w:=3) (n:=0) (by decide) (by decide) f c (by grind) a4 a5 e (λh=>absurd h (by decide)) (λh=>absurd h (by decide)) (λ_=>⟨r.P.Funcs,_,rfl,hf,⟨⟨g,d,by rfl,by rfl⟩,⟨by simp,by decide,by decide⟩,λ_=>⟨rfl,rfl⟩,λh=>absurd h (by decide)⟩⟩)
theorem Tl(h:Lt.Inv r)(b:(jS r l).1=0):Lt.Inv (jS r l).2:=by
 unfold jS at b|-;split at b
 .cases b
 rename_i a;rw[if_neg a];have c:=oM b
 simp only[alE,akP,decide_eq_true_eq]at a;obtain⟨a,d⟩:=a;obtain⟨i,g⟩:=lC d;obtain⟨p,fs,f,e,hp⟩:=uE h kQ1;rw[e,oq]at c;rw[e]at h;obtain⟨⟨k1,k2,k3,k4⟩,k5,k6,_⟩:=hp;have key:=E8 (f':={ f with Params:=f.Params++[⟨Lt.w1 l,Lt.w2 l⟩] }) (w':=3) (n':=r.Long) h kQ1 kQ1 kQ1 ⟨⟨k1,k2,oW (k:=6) k3 c i g,k4⟩,k5,λ_=>k6 kQ1,λh=>absurd h (by decide)⟩
 grind [oB]
theorem acF(h:Lt.Inv r)(b:(Lt.mM r l).1=0):Lt.Inv (Lt.mM r l).2:=by
 unfold Lt.mM at b|-;split at b
 .cases b
 rename_i a;rw[if_neg a];have c:=oM b
 simp only[alE,akP,decide_eq_true_eq,alP]at a;obtain⟨a,d⟩:=a;obtain⟨i,g⟩:=lC d;obtain⟨p,fs,f,e,hp⟩:=uE h kQ1;rw[e,oq]at c;rw[e]at h;obtain⟨⟨k1,k2,k3,k4⟩,k5,k6,_⟩:=hp;have key:=E8 (f':={ f with Vars:=f.Vars++[⟨Lt.w1 l,Lt.w2 l⟩] }) (w':=4) (n':=r.Long) h kQ1 kQ1 kQ1 ⟨⟨k1,k2,k3,oW (k:=1024) k4 c i g⟩,k5,λ_=>k6 kQ1,λh=>absurd h (by decide)⟩
 grind [stF,oB]
theorem Ti(h:Lt.Inv r)(d:(Lt.fE r l).1=0):Lt.Inv (Lt.fE r l).2:=by
 unfold Lt.fE at d|-;split at d
 .cases d
 rename_i c;rw[if_neg c];have i:=oM d
 simp only[alE,akP,decide_eq_true_eq,alP,aX]at c;obtain⟨⟨c,_⟩,k⟩:=c;obtain⟨p,fs,f,e,hp⟩:=uE h kQ1;rw[e,oq]at i;rw[e]at h;have g:r.func (λf=>{ f with Blocks:=f.Blocks++[⟨Lt.w1 l,[],[],⟨0,⟨0,[],0⟩,[],0⟩⟩] })=stF p fs { f with Blocks:=f.Blocks++[⟨Lt.w1 l,[],[],⟨0,⟨0,[],0⟩,[],0⟩⟩] } r.Where r.Long:=by grind [oB]
 rw[g];have a:f.Blocks.all Lt.block=true/\r.Long=((longs f.Blocks:Nat):Int)/\r.Long<=1024:=by
  by_cases h9:r.Where=9
  .rw[h9]at hp;have hs:=yt (KZ hp)
   obtain⟨bs,b,j,o⟩:=wE kQ1 hp;exact⟨ak0.2 hs.bl,by rw[o.long,j,AH],o.most⟩
  obtain⟨_,_,k6,_⟩:=hp;obtain⟨k7,k8⟩:=k6 kQ1;rw[k7,k8];exact⟨rfl,rfl,by decide⟩
 refine E8 h kQ1 kQ1 kQ1 (QS kQ1 ⟨hp.1,by omega,?_,a.2.2,a.1,k,rfl,rfl,λh=>absurd h (by decide),λh=>absurd h (by decide)⟩);show r.Long=_
 grind
theorem A5{k:Int}(h:(aP l k objs).2=true):(∀b∈(aP l k objs).1,Lt.Name b.Name=true/\bb objs b.A=true)/\((aP l k objs).1.flatMap λb=>[b.Name,aB b.A])=l.drop k.toNat:=by grind [aP,xB]
theorem acE(h:Lt.Inv r)(c:(Lt.pu r l).1=0):Lt.Inv (Lt.pu r l).2:=by
 unfold Lt.pu at c|-;split at c
 .cases c
 rename_i a;rw[if_neg a];split at c
 .cases c
 rename_i g;rw[if_neg g];simp only[alE,akP,decide_eq_true_eq,alA,decide_eq_false_iff_not,aX]at a;obtain⟨⟨⟨a,i⟩,k⟩,j⟩:=a;obtain⟨p,fs,f,bs,b,e,o⟩:=ni h kQ1;rw[e]at h;have d:({ r.block (λb=>{ b with Phis:=b.Phis++[⟨Lt.w1 l,(aP l 2 false).1.map λx=>⟨x.Name,x.A⟩⟩] })with Long:=r.Long+1 }:Lt.Read)=stB p fs f bs { b with Phis:=b.Phis++[⟨Lt.w1 l,(aP l 2 false).1.map λx=>⟨x.Name,x.A⟩⟩] } 5 (r.Long+1):=by
  have:r.block (λb=>{ b with Phis:=b.Phis++[⟨Lt.w1 l,(aP l 2 false).1.map λx=>⟨x.Name,x.A⟩⟩] })=stB p fs f bs { b with Phis:=b.Phis++[⟨Lt.w1 l,(aP l 2 false).1.map λx=>⟨x.Name,x.A⟩⟩] } r.Where r.Long:=by grind [jp]
  rw[this,a];rfl
 rw[d];have hl:=o.long
 refine uD h kQ1 kQ1 kQ1 ⟨o.hd,o.len,?_,by omega,o.bl,o.nm,?_,o.cd,λh=>absurd h (by decide),λh=>absurd h (by decide)⟩
 all_goals grind [Open.ph,Lt.phi,A5,oG]
theorem Lm{dst:List UInt8}{x:Lt.Instr}(h:Lt.gL dst l=some x)(hd:dst≠[]->Lt.Name dst=true):Lt.instr x=true/\x.Frames=[]/\x.Objs=[]:=by
 unfold Lt.gL at h;split at h
 .cases h
 rename_i b;simp only[alE,akP,beq_iff_eq]at b;obtain⟨_,o2,o3⟩:=Zc b.1;obtain⟨_,m,i,c,e,g⟩:=tg (Lt.sOp (Lt.w0 l)).1;rw[i]at b;split at h
 .cases h
 rename_i nm rest hr;split at h
 .rename_i a;simp only[akP,decide_eq_true_eq]at a;obtain⟨⟨⟨a,f⟩,j⟩,k⟩:=a;rw[c,aX]at f;rw[e]at j;rw[g]at k;simp only[akO]at h;subst h;refine⟨?_,rfl,rfl⟩;have d:=(Bv a).1
  have hN:(Lt.Of (Lt.sOp (Lt.w0 l)).1).1.Named=!decide (nm=[]):=by grind [Lo,Lt.Of,Lt.Name]
  grind [Lt.instr]
 grind
theorem JL(h:Lt.Inv r)(a:(fa r l).1=0):Lt.Inv (fa r l).2:=by
 unfold fa at a|-;split at a
 .cases a
 rename_i i;rw[if_neg i];split at a
 .cases a
 rename_i d;rw[if_neg d];cases hs:Lt.gL (if Lt.sEq l then Lt.w0 l else []) (if Lt.sEq l then l.drop 2 else l)with
 |none=>omega
 |some x=>
  rw[hs]at a;simp only at a|-
  split at a
  .cases a
  rename_i g;rw[if_neg g];have j:5<=r.Where/\r.Where<=8:=by grind
  obtain⟨hx,hf,m⟩:=Lm hs (by grind [aX])
  obtain⟨p,fs,f,bs,b,e,o⟩:=ni h kQ1;rw[e]at h;have c:({ r.block (λb=>{ b with Code:=b.Code++[x] })with Where:=if x.Op=31\/x.Op=34 then 7 else 6,Long:=r.Long+1 }:Lt.Read)=stB p fs f bs { b with Code:=b.Code++[x] } (if x.Op=31\/x.Op=34 then 7 else 6) (r.Long+1):=by
   have:r.block (λb=>{ b with Code:=b.Code++[x] })=stB p fs f bs { b with Code:=b.Code++[x] } r.Where r.Long:=by grind [jp]
   rw[this];rfl
  rw[c];have hl:=o.long
  have hw:∀{k:Int},k=(if x.Op=31\/x.Op=34 then(7:Int)else 6)->5<=k/\k<=8/\(7<=k->x.Op=31\/x.Op=34):=by omega
  obtain⟨w1,w2,w3⟩:=hw rfl;refine uD h kQ1 w1 kQ1 ⟨o.hd,o.len,?_,by omega,o.bl,o.nm,o.ph,?_,λh=>by omega,λ_ _=>⟨b.Code,x,rfl,w3⟩⟩
  all_goals grind [Open.cd]
theorem Ar{c:Lt.Instr}{fr:List Lt.Frame}{ob:List Lt.Virt}(h:Lt.instr c=true)(a:c.Op=31\/c.Op=34)(h1:fr.length<=16)(h2:ob.length<=99)(h3:∀x∈fr,Lt.frame x=true)(h4:∀x∈ob,Lt.virt x=true):Lt.instr { c with Frames:=fr,Objs:=ob }=true:=by grind [Lt.instr]
theorem ahA(h:Lt.Inv r)(a:(Lt.sAt r l).1=0):Lt.Inv (Lt.sAt r l).2:=by
 unfold Lt.sAt at a|-;split at a
 .cases a
 rename_i d;rw[if_neg d];split at a
 .cases a
 rename_i i;rw[if_neg i];simp only[alE,akP,decide_eq_true_eq,aX]at d;obtain⟨⟨⟨⟨d,m⟩,q⟩,t⟩,⟨s,u⟩,n⟩:=d;obtain⟨p,fs,f,bs,b,e,o⟩:=ni h kQ1;obtain⟨cs,c,g,hop⟩:=o.ins kQ1 kQ1;have hop:=hop kQ1
 have e':r=stI p fs f bs b cs c r.Where r.Long:=by unfold stI;rw[<- g];exact e
 have hc:=o.cd
 rw[g,List.all_append]at hc;simp only[akP,ak2,anA,and_true]at hc;have k:=im hc.2
 rw[e',yn]at i;rw[e]at h;have j:r.instr (λx=>{ x with Frames:=x.Frames++[⟨Lt.w1 l,Lt.w2 l,(fd (Lt.w3 l)).1,(aP l 4 true).1⟩] })=stI p fs f bs b cs { c with Frames:=c.Frames++[⟨Lt.w1 l,Lt.w2 l,(fd (Lt.w3 l)).1,(aP l 4 true).1⟩] } r.Where r.Long:=by grind [uC]
 rw[j];have hl:=o.long
 refine uD h kQ1 kQ1 kQ1 ⟨o.hd,o.len,?_,o.most,o.bl,o.nm,o.ph,?_,λh=>by omega,λ_ _=>⟨cs,_,rfl,λ_=>hop⟩⟩
 all_goals grind [Ar,InstrOk.objs,InstrOk.ob,InstrOk.fr,A5,Lt.frame,iN]
theorem acD(h:Lt.Inv r)(hi:r.ins=true)(d:(Lt.rY r l).1=0):Lt.Inv (Lt.rY r l).2:=by
 unfold Lt.rY at d|-;split at d
 .cases d
 rename_i a;rw[if_neg a];have j:=oM d
 have m:5<=r.Where/\r.Where<=8:=by grind
 simp only[alE,akP,decide_eq_true_eq,aX]at a;obtain⟨⟨⟨⟨a,q⟩,t⟩,s⟩,n⟩:=a;obtain⟨p,fs,f,bs,b,e,o⟩:=ni h kQ1;obtain⟨cs,c,g,hop⟩:=o.ins kQ1 kQ1;have hop:=hop kQ1
 have e':r=stI p fs f bs b cs c r.Where r.Long:=by unfold stI;rw[<- g];exact e
 have hc:=o.cd
 rw[g,List.all_append]at hc;simp only[akP,ak2,anA,and_true]at hc;have k:=im hc.2
 rw[e',yn]at j;rw[e]at h;have i:({ r.instr (λx=>{ x with Objs:=x.Objs++[⟨Lt.w1 l,(cm (l.drop 2) true).1⟩] })with Where:=8 }:Lt.Read)=stI p fs f bs b cs { c with Objs:=c.Objs++[⟨Lt.w1 l,(cm (l.drop 2) true).1⟩] } 8 r.Long:=by
  have:r.instr (λx=>{ x with Objs:=x.Objs++[⟨Lt.w1 l,(cm (l.drop 2) true).1⟩] })=stI p fs f bs b cs { c with Objs:=c.Objs++[⟨Lt.w1 l,(cm (l.drop 2) true).1⟩] } r.Where r.Long:=by grind [uC]
  rw[this];rfl
 rw[i];have hl:=o.long
 refine uD h kQ1 kQ1 kQ1 ⟨o.hd,o.len,?_,o.most,o.bl,o.nm,o.ph,?_,λh=>by omega,λ_ _=>⟨cs,_,rfl,λ_=>hop⟩⟩
 all_goals grind [Ar,InstrOk.frames,InstrOk.fr,InstrOk.ob,Bv,Lt.virt]
theorem OQ(h:jC l=some t):fh t=true:=by grind [jC,aX,fh,DP,sI]
theorem acC(h:Lt.Inv r)(hi:r.ins=true)(a:(wS r l).1=0):Lt.Inv (wS r l).2:=by
 have g:5<=r.Where/\r.Where<=8:=by grind
 unfold wS at a|-;cases hs:jC l with
 |none=>grind
 |some t=>
  have d:=OQ hs
  obtain⟨p,fs,f,bs,b,e,o⟩:=ni h kQ1;rw[e]at h;have c:({ r.block (λb=>{ b with End:=t })with Where:=9 }:Lt.Read)=stB p fs f bs { b with End:=t } 9 r.Long:=by
   have:r.block (λb=>{ b with End:=t })=stB p fs f bs { b with End:=t } r.Where r.Long:=by grind [jp]
   rw[this];rfl
  show Lt.Inv ({ r.block (λb=>{ b with End:=t })with Where:=9 }:Lt.Read)
  rw[c];exact uD h kQ1 kQ1 kQ1 ⟨o.hd,o.len,o.long,o.most,o.bl,o.nm,o.ph,o.cd,λ_=>d,λh1 h2=>absurd h2 kQ1⟩
theorem XK(h:Lt.Inv r)(a:(bC r l).1.2=0):Lt.Inv (bC r l).2:=by grind [bC,Tj,Tk,Nb,Na,XJ]
theorem XL(h:Lt.Inv r)(a:(bW r l).1.2=0):Lt.Inv (bW r l).2:=by grind [bW,Tl,acF,Ti,acE]
theorem Tn(h:Lt.Inv r)(a:(cy r l).1.2=0):Lt.Inv (cy r l).2:=by grind [cy,ahA,acD,acC]
theorem JM{b:Bool}(h:Lt.Inv r)(a:(dM r l b).1=0):Lt.Inv (dM r l b).2:=by
 unfold dM at a|-;split at a
 .grind [JL]
 rename_i c;rw[if_neg c];split at a
 .rename_i c;rw[if_pos c];split at a
  .cases a
  rename_i c;rw[if_neg c];exact h
 grind [XK,XL,Tn,JL]
theorem ae8:Lt.Inv ⟨⟨false,[],[],[],[]⟩,0,0⟩:=⟨⟨by decide,by decide⟩,⟨by decide,by decide,by decide⟩,⟨rfl,rfl,rfl⟩,λh=>absurd h (by decide),λ_=>rfl,λh=>absurd h (by decide)⟩
theorem uT:∀(L:List Lt.RLine)(b:Bool)(r:Lt.Read),Lt.Inv r->(fS L b r).2.2=0->bt (fS L b r).1=true
 |[],b,r,h,a=>by grind [fS,Tm]
 |x::t,b,r,h,a=>by
  rw[fS]at a|-;split at a
  .rename_i c;rw[if_pos c];exact uT t false _ (JM h c) a
  grind
theorem KY{s:a8}(h:(lx s).2.2=0):bt (lx s).1=true:=by grind [lx,uT,ae8]
theorem Y1{p:Lt.Program}(ok:p.ok)(hl:(gJ p).length<=4194304):D1 p=bt p:=by grind [D1,Ol,KY]
theorem ag0:∀(s:a8)(k:Lt.Cut)(B:Nat),(∀x∈k.out,x.Words≠[]/\x.Words.length<=B)->k.l.length+s.length+1<=B->∀x∈(cJ s k).1,x.Words≠[]/\x.Words.length<=B
 |s,k,B=>by
  have hw:∀k:Lt.Cut,k.word.l.length<=k.l.length+1/\k.word.out=k.out:=by grind [Lt.Cut.word]
  have a:∀k:Lt.Cut,(∀x∈k.out,x.Words≠[]/\x.Words.length<=B)->k.l.length+1<=B->∀x∈k.line.out,x.Words≠[]/\x.Words.length<=B:=by grind [Lt.Cut.line]
  have b:∀(k:Lt.Cut)(c:UInt8),(k.byte c).l.length<=k.l.length+1/\(k.byte c).out=k.out:=by grind [Lt.Cut.byte]
  induction s generalizing k with
  |nil=>grind [cJ]
  |cons c r ih=>
   intro h hl x hx;have d:k.l.length+(r.length+1)+1<=B:=hl
   rw[cJ]at hx;split at hx
   .split at hx
    .cases hx
    exact ih k.line (a k h kQ1) (by show 0+r.length+1<=B;omega) x hx
   have hb:=b k c
   exact ih (k.byte c) (by grind) kQ1 x hx
theorem Zg(s:a8):∀x∈(eK s).1,x.Words≠[]/\x.Words.length<=1099511627776:=by
 intro x hx;unfold eK at hx;split at hx
 .cases hx
 rename_i hc;exact ag0 s _ _ (by simp) (by grind) x hx
theorem NK(s:a8)(KK:Lt.Program×Int×Int->Prop)(h:KK (lx s)):G5 s KK:=by
 unfold G5;dsimp only;unfold lx at h;have a:=Zg s
 generalize eK s=S at h a|-;obtain⟨L,at_,c⟩:=S;dsimp only at h a|-;refine ifk (λhc=>?_) (λhc=>?_)
 .grind
 rw[if_pos (by grind)]at h;refine uM (λhl=>?_);refine af _ L.length (λi x=>∃r,x=((i:Int),r)/\Lt.Inv r/\KK (fS (L.drop i) (decide ((i:Int)=0)) r)) (λR i x hi hx b=>?_) (λR x hx=>?_) _ ⟨_,rfl,ae8,h⟩
 .obtain⟨r,rfl,hI,hk⟩:=hx;simp only[aF hi,if_true,Int.toNat_natCast];obtain⟨o1,o2⟩:=a _ (au L hi);refine⟨⟨akW i,hi⟩,⟨hI,o1,o2⟩,?_⟩;rw[alF hi]at hk;have e:L.getD i default=L[i]:=by grind
  rw[<- e,fS]at hk;refine ifk (λhc=>?_) (λhc=>b _ ⟨_,by rw[ac kQ1],?_,?_⟩)
  .grind
  .exact JM hI (by grind)
  rw[if_pos (by grind)]at hk;have e0:decide (((i+1:Nat):Int)=0)=false:=by rfl
  simp_all
 obtain⟨r,rfl,hI,hk⟩:=hx;simp only[ld,akS,if_false];rw[alZ,fS]at hk;simp only[bL,ae]
 grind
theorem TP(p:Lt.Program)(hp:nH p)(KK:Bool->Prop)(h:KK (D1 p)):PJ p KK:=by
 unfold PJ;unfold D1 at h;refine⟨hp,ifk (λhc=>?_) (λhc=>?_)⟩
 .rw[hc,ak9]at h;exact h
 grind
end Go.Am
end

section
namespace Go.Am
open Go
open Lt (nmB toB Gd Rc uniq bkB)
theorem qS{α:Type}[Inhabited α]{l:List α}{p:α->Bool}(h:∀i,i<l.length->p (l.getD i default)=true):l.all p=true:=ak0.2 λy hy=>by
 obtain⟨q,hq,e⟩:=alD.1 hy;have:=h q hq
 rw[List.getD,akQ hq,alK,e]at this;exact this
theorem TV(n:Int)(KK:Int->Prop)(h:KK (xI n)):ZR n KK:=h
theorem Nu(p:Lt.Program)(f:Lt.Func)(hp:YK p f)(KK:Bool->Prop)(h:KK (Bi p f)):GQ p f KK:=by
 unfold GQ;obtain⟨h1,h2,h3⟩:=hp;unfold Bi at h;have t:∀v,rF f v:=λ_=>h2
 have S:∀b∈f.Blocks,¬ (b.Phis.all (Cu f)&&nT p f b)=true->KK false:=λb hb hn=>by rw[al9.2 ⟨b,hb,hn⟩,alX]at h;exact h
 refine cr f.Blocks.length (λi=>((f.Blocks.getD i default).Phis.all (Cu f)&&nT p f (f.Blocks.getD i default))=true) (KK false) (λR i hi hN ih=>?_) (λR O=>?_) (λi hi=>S _ (au _ hi))
 .try dsimp only
  intro hl;rw[if_pos (aF hi),Int.toNat_natCast];refine⟨by omega,?_⟩;have ih:=ih hl
  have o:=h1 _ (au _ hi)
  generalize f.Blocks.getD i default=b at hN ih o;have N:∀x∈b.Phis,¬ Cu f x=true->KK false:=λx hx hn=>hN (by rw[al9.2 ⟨x,hx,hn⟩];simp)
  refine cr b.Phis.length (λk=>Cu f (b.Phis.getD k default)=true) (KK false) (λM k hk j c=>?_) (λM I=>?_) (λk hk=>N _ (au _ hk))
  .try dsimp only
   intro G;rw[if_pos (aF hk),Int.toNat_natCast];have c:=c G
   have g:(0:Int)<=(k:Int)/\k<b.Phis.length:=by omega
   generalize b.Phis.getD k default=x at j c;have e:Cu f x=((dN f x.Dst).2&&x.Ins.all λi=>(cw f i.A).2&&bB (cw f i.A).1 (dN f x.Dst).1.Type_):=rfl
   rw[e]at j c;refine λP L=>?_
   have n:P ((dN f x.Dst).2,(dN f x.Dst).1):=L _ (by
    try dsimp only
    refine ifk (λhc=>j (by grind)) (λhc=>?_);rw[show(dN f x.Dst).2=true from by simpa using hc,ak9]at j c;refine cr x.Ins.length (λq=>((cw f (x.Ins.getD q default).A).2&&bB (cw f (x.Ins.getD q default).A).1 (dN f x.Dst).1.Type_)=true) (KK false) (λU q hq J E=>?_) (λU H=>?_) (λq hq hn=>j λT=>hn (ak0.1 T _ (au _ hq)))
    .refine⟨g,λu=>?_⟩;rw[if_pos (aF hq),Int.toNat_natCast];refine⟨g,⟨by omega,hq⟩,λV F=>?_⟩;have W:=F (!((cw f (x.Ins.getD q default).A).2&&bB (cw f (x.Ins.getD q default).A).1 (dN f x.Dst).1.Type_)) (by
      try dsimp only
      exact ifk (λm=>J (by grind)) (λm=>E u (by grind)))
     grind
    refine⟨g,λu=>?_⟩;rw[if_neg (by simp)];exact c (qS H))
   exact⟨⟨⟨g,n,n⟩,g,n⟩,⟨g,⟨n,n⟩,n⟩,g,n⟩
  try dsimp only
  intro _;rw[if_neg (by simp)];rw[qS I,ak9]at hN ih;unfold nT at hN ih;refine cr b.Code.length (λk=>tE p f (b.Code.getD k default)=true) (KK false) (λz k hk l a=>?_) (λz w=>?_) (λk hk hn=>hN (by rw[al9.2 ⟨_,au _ hk,hn⟩];simp))
  .try dsimp only
   intro y;rw[if_pos (aF hk),Int.toNat_natCast];have a:=a y
   have g:(0:Int)<=(k:Int)/\k<b.Code.length:=by omega
   have r:=o _ (au _ hk)
   generalize b.Code.getD k default=x at l a r;unfold tE at l a;refine λQ s=>?_
   have d:=s (!(jW p f x&&(!(decide (x.Op=31)||decide (x.Op=34))||lE p f x))) (by
    try dsimp only
    exact ifk (λm=>l (by grind)) (λm=>a (by grind)))
   have D:Oy p f x:=r
   refine⟨g,D,?_⟩;generalize jW p f x=A at d;generalize lE p f x=B at d;cases A with
   |false=>simpa using d
   |true=>
    by_cases o1:x.Op=31
    .simpa[o1,g]using d
    by_cases o2:x.Op=34
    .simpa[o2,g]using d
    simpa[o1,o2,g]using d
  try dsimp only
  intro _;rw[if_neg (by simp)];rw[qS w,ak9]at hN ih;exact ifk (λhc=>hN (by simpa using hc)) (λhc=>ih (by simpa using hc))
 try dsimp only
 intro _;rw[if_neg (by simp)];rw[qS O,ak9]at h;unfold sr at h;refine cr f.Vars.length (λk=>decide (((cx f.Blocks).count (f.Vars.getD k default).Name:Int)=1)=true) (KK false) (λR k hk hN ih hl=>?_) (λR K _=>?_) (λk hk hn=>by rw[al9.2 ⟨_,au _ hk,hn⟩]at h;exact h)
 .rw[if_pos (aF hk),Int.toNat_natCast];refine⟨⟨by omega,hk⟩,t _,?_⟩;unfold u9;exact ifk (λhc=>hN (by grind)) (λhc=>ih hl (by grind))
 rw[if_neg (by simp)];rw[qS K,ak9]at h;refine cr f.Params.length (λk=>decide (((cx f.Blocks).count (f.Params.getD k default).Name:Int)=0)=true) (KK false) (λR k hk hN ih hl=>?_) (λR C _=>?_) (λk hk hn=>by rw[al9.2 ⟨_,au _ hk,hn⟩]at h;exact h)
 .rw[if_pos (aF hk),Int.toNat_natCast];refine⟨⟨by omega,hk⟩,t _,?_⟩;unfold u9;exact ifk (λhc=>hN (by grind)) (λhc=>ih hl (by grind))
 rw[if_neg (by simp)];rw[qS C]at h;exact⟨h3,by simpa using h⟩
theorem ahM(p:Lt.Program)(f:Lt.Func):Bi p f=true ↔ o6 p f=true/\BM p f=true/\sr p f=true/\gr f=true:=by
 unfold Bi o6 BM;simp only[akP,ak0]
 grind
theorem AB(p:Lt.Program)(hp:u6 p)(KK:Int->Prop)(h:KK (cT p)):tW p KK:=by
 unfold tW;obtain⟨h1,h2,h3,hf⟩:=hp;rw[h2];unfold cT at h;intro J m;have j:J (!bt p||!p.SSA):=m _ (by
  try dsimp only
  refine ifk (λhc=>by rw[if_pos (by grind)]at h;exact h) (λhc=>?_);rw[if_neg (by grind)]at h;refine⟨h3,ifk (λc=>?_) (λc=>?_)⟩
  .rw[if_pos (by simpa using c)]at h;exact h
  rw[if_neg (by simpa using c)]at h;refine da p.Funcs (λl=>KK (Lt.vF p l)) (λR i x r hi hx hm ih h=>?_) (λR h=>?_) h
  .intro hl;rw[if_pos (aF hi),Int.toNat_natCast,hx];obtain⟨g1,g2,g3,g4,g5,g6,g7⟩:=hf x hm;have f:(0:Int)<=(i:Int)/\i<p.Funcs.length:=by omega
   have o:=ahM p x
   unfold Lt.vF at h;intro k d;have n:dF x=true->k (!iA x):=λhs=>d _ (by
    try dsimp only
    have e:Gd x.Blocks:=by unfold dF at hs;exact oJ.1 hs
    refine ifk (λa=>by rw[if_pos (.inr (by simpa using a))]at h;exact h) (λa=>?_);rw[if_neg (by grind)]at h;refine⟨f,⟨g1,g3,⟨⟨g4,e,g5,g6⟩,g7⟩⟩,ifk (λg=>?_) (λg=>ih hl ?_)⟩
    .rw[if_pos (by grind)]at h;exact h
    rw[if_neg (by grind)]at h;exact h)
   refine⟨f,g4.1,ifk (λa=>d _ ?_) (λa=>?_)⟩
   .try dsimp only
    rw[if_pos rfl];rw[if_pos (.inl (by simpa using a))]at h;exact h
   have hs:dF x=true:=by simpa using a
   have e:Gd x.Blocks:=by
    have:=hs
    unfold dF at this;exact oJ.1 this
   exact⟨f,⟨g2.1,e,λb hb y hy=>(g2.2 b hb).2.2 y hy⟩,n hs⟩
  intro _;rw[if_neg (by simp)];exact h)
 refine⟨h1,ifk (λhc=>?_) (λhc=>?_)⟩
 .rw[hc]at j;exact j
 rw[show(!bt p)=false from by simpa using hc]at j;exact j
theorem uF(p:Lt.Program)(hp:YO p)(KK:Bool->Prop)(h:KK (BR p)):jJ p KK:=by
 obtain⟨okP,b,a,hr⟩:=hp;unfold jJ;have h:KK true:=h
 have hm:Ox p 6000:=⟨okP,by decide⟩
 intro J c;refine ifk (λhc=>absurd hc (by decide)) (λ_=>⟨hm,c _ ?_⟩);refine ifk (λhc=>h) (λhc=>?_);obtain⟨h1,h3⟩:=hr (by simpa using hc);have hs:u6 p:=⟨⟨okP,b,a,by unfold Lt.room;omega⟩,Y1 okP h3,h1⟩
 have k:KK (decide (cT p=cT p)):=by rw[decide_eq_true rfl];exact h
 exact⟨⟨h1,hs,k⟩,h1,hs,k⟩
end Go.Am
end

section
namespace Go.Am
open Go Go.Proofs
set_option maxRecDepth 100000
section
variable {sh:List (TypeId×List Sh)}
noncomputable def b3(E:Ev sh){f:Nat}(fn:Func)(an:An)(u:U)(ps:List U){pre:List (El u)->Fl ps->Prop}{F:List (El u)->Fl ps->List (El u)}{G:List (El u)->Fl ps->(List (El u)->Prop)->Prop}(a:∀x y,pre x y->∀KK:List (El u)->Prop,KK (F x y)->G x y KK)(hw:∀x y KK,G x y KK=Ws E.en fn an u ps x y KK:=by intros;kernel_rfl)(hf:prog.funcs[f]? = some fn:=by kernel_rfl)(hb:okF (ps.length+1) fn=true:=by kernel_rfl):Cb f:=⟨adB u ps pre F,Vh E.ok mixed hf (eX hb).1 (eX hb).2.1 (eX hb).2.2.1 (eX hb).2.2.2 λx y hp KK h=>hw x y KK ▸ a x y hp KK h⟩
noncomputable def b2(E:Ev sh){f:Nat}(fn:Func)(an:An)(a:List Sh)(u:U)(ps rs:List U){pre:El u->Fl ps->Prop}{F:El u->Fl ps->Fl rs×El u}{G:El u->Fl ps->(Fl rs×El u->Prop)->Prop}(b:∀x y,pre x y->∀KK:Fl rs×El u->Prop,KK (F x y)->G x y KK)(hw:∀x y KK c,G x y KK=yk E.en fn an a u ps rs x y KK c:=by intros;kernel_rfl)(hf:prog.funcs[f]? = some fn:=by kernel_rfl)(hb:okF (ps.length+1) fn=true:=by kernel_rfl):Cb f:=⟨QY a u ps rs pre λx y=>(.ok (F x y).1,(F x y).2),Rm E.ok mixed hf (eX hb).1 (eX hb).2.1 (eX hb).2.2.1 (eX hb).2.2.2 λx y hp KK c h=>hw x y KK c ▸ b x y hp KK h⟩
def tB:List (Nat->Sp):=[(.ow · [.fr] .b8),(.sl · uI),(.sl · (.i .u64)),(.sl · .bo),(.sl · .b8),λk=>.rt (.loc k) [.fr,.fr,.fr,.fr,.fr] (.st .RForm),(.ow · [.fr] .s),(.ow · [.fr,.fr] (.st .RLine)),(.sl · .s),(.ow · [.fr,.fr,.fr] (.st .Arg)),(.sl · (.sl .s)),λk=>.rt (.loc k) [.fr,.fr,.fr,.ow [],.ow [],.ow []] (.st .Instr),λk=>.rt (.out k) [.fr,.ow [.fr,.ow [.fr,.fr]],.ow [.fr,.fr],.ow [.fr,.fr],.ow [.fr,.fr,.ow [.fr,.fr],.ow [.fr,.fr],.ow [.fr,.ow [.fr,.fr],.ow [.fr,.fr,.fr,.fr,.ow [.fr,.fr,.fr,.fr],.ow [.fr,.fr]],.fr,.fr,.fr,.fr,.fr,.fr]],.fr,.fr] (.st .Read),(.ow · [.fr,.fr,.fr,.fr] (.st .Bind)),λk=>.rt (.loc k) [.fr,.ow [.fr,.ow [.fr,.fr]],.ow [.fr,.fr],.ow [.fr,.fr],.ow [.fr,.fr,.ow [.fr,.fr],.ow [.fr,.fr],.ow [.fr,.ow [.fr,.fr],.ow [.fr,.fr,.fr,.fr,.ow [.fr,.fr,.fr,.fr],.ow [.fr,.fr]],.fr,.fr,.fr,.fr,.fr,.fr]],.fr,.fr] (.st .Read),(.ow · [.fr] .bo),λk=>.rt (.loc k) [.fr,.fr] (.st .Var),λk=>.rt (.loc k) [.fr,.fr] (.st .Class)]
noncomputable def Su:Cb 5:=⟨_,aaT⟩
noncomputable def EP:Cb 26:=b3 (eZ:Ev []) f26 (aN tB 0x2000818c8081358241 [0x5040004000000041,0x80000005042]) .b8 [.sl .s] (λx y=>XY x y)
noncomputable def aa9:Cb 27:=b3 ((ad EP eZ):Ev []) f27 (aN tB 0x80c8081358241 [0x1c1000100000002042]) .b8 [.s,.sl (.st .Var)] (λx y=>TS x y.1 y.2)
noncomputable def aa8:Cb 75:=b0 (eZ:Ev []) f75 (aN tB 0x40050241 []) [uI] [.i .u64] TQ
noncomputable def zJ:Cb 28:=b1 ((ad aa8 eZ):Ev []) f28 (aN tB 0x20028120204105d701041 [0x3002000000001,0x4083004000000001]) [uI] [.s] XX
noncomputable def EO:Cb 120:=b0 (eZ:Ev []) f120 (aN tB 0x8000508202c8081358241 [0x3042000000001,0x50c2000000103003,0xb83080000003002,0x83080000000]) [.s] [.bo] TO
noncomputable def WN:Cb 179:=b0 (eZ:Ev []) f179 (aN tB 0x1041 []) [uI] [.bo] Ny
noncomputable def IV:Cb 121:=b0 ((ad WN eZ):Ev []) f121 (aN tB 0x40050241 []) [uI] [uI] NA
noncomputable def IW:Cb 76:=b0 ((ad EO (ad IV eZ)):Ev []) f76 (aN tB 0x100050840050241 [0x683080001040041,0x83080000000]) [.st .Arg] [.bo] NB
noncomputable def WM:Cb 77:=b0 ((ad IV eZ):Ev []) f77 (aN tB 0x2002020602c8081358241041 [0x1411000c2180000000,0x6102000004dc11440c3]) [uI] [.s] XW
noncomputable def um:Cb 29:=b1 ((ad zJ (ad IW (ad WM eZ))):Ev []) f29 (aN tB 0x40050240050240050240050240050241 []) [.st .Arg] [.s] TT
noncomputable def WP:Cb 78:=b0 (eZ:Ev []) f78 (aN tB 0x804201030201021030028040840840840840c60c100050841 [0xa0c2000081002002,0x1050801040c0081002002,0x4142000081004082,0x330c2000102080c04083,0x1390c2000102080c04083,0x9e43080004082004082]) [uI] [.st .RForm,.bo] acN
noncomputable def aa4:Cb 79:=b3 ((ad um eZ):Ev []) f79 (aN tB 0x80c8081358241 [0x5040184000000041]) .s [.sl (.st .Arg)] (λx y=>TL x y)
noncomputable def aa5:Cb 30:=b3 ((ad EP (ad zJ (ad um (ad WP (ad aa4 eZ))))):Ev []) f30 (aN tB 0x20380204d609000700409ac122320204d609040081801050901010301041 [0x1c6080001143080143003,0x1c60800010c1003002,0xac308000114309d047143004,0x1c60800010c1003002,0x2010001000030400c1,0x246080003040dc1203003,0x281246100003040dc1203003,0x91820000c103704a203004,0x2c10001000030400c1,0x20000c100b0c2]) .b8 [.st .Instr] (λx y=>TM x y)
noncomputable def aa6:Cb 31:=b3 ((ad EP (ad zJ (ad um eZ))):Ev []) f31 (aN tB 0x1010301010901001421041 [0x3c30800010c11c1143003,0x1860800010c1003002,0x7830800010c1581183003,0x186080001000001]) .b8 [.st .Term] (λx y=>TN x y)
noncomputable def WO:Cb 9:=b1 ((ad EP (ad aa9 (ad zJ (ad um (ad aa5 (ad aa6 eZ)))))):Ev []) f9 (aN tB 0x8000640409ac12000e0081358241640409ac12082c80813582202c8081358240700409ac12080e008135824040c041 [0xc0080001040041,0x1010c0100001040041,0x3002000041004042,0x1410c0100001040041,0x3002000041005042,0x1810c0100001040041,0x30020001c10801c6043,0x80430040001c10801c6043,0x2810c01000091c10c02481c6045,0x3012c61000091c10c3dc1289207183047,0xb1820002470430f704c289207183048,0x3410c01000091c10c02481c6045]) [.st .Program] [.s] Nz
noncomputable def WW:Cb 106:=b0 (eZ:Ev []) f106 (aN tB 0x800104040c0014094081000818848021208e0081358241041041040050241 [0xb04a0c90c80470061851ce000000001,0x2832432011c018614730000000b002,0x3030800001f71b71770cb289207185008,0x2430800001f71b71770cc2ca207185008,0x270c2000007dc6dc5dc330b289207185009,0x2831c018618000017704c2c9205006,0xdf80c2000007dc6dc5dc330b289207185009,0x6182000005dc130b289205007,0x2830800001f71b71770cc2c9207185008,0x51c2000007dc12ca207005]) [.s] [.sl (.st .RLine),uI,uI] NM
noncomputable def kO:Cb 208:=b0 ((ad EO eZ):Ev []) f208 (aN tB 0x2000502c8081358241 [0x3042000000001]) [.sl .s] [.bo] NI
noncomputable def aiV:Cb 209:=b0 (eZ:Ev []) f209 (aN tB 0x2000502c8081358241 [0x4042000000001]) [.s] [uI,.bo] acO
noncomputable def abA:Cb 238:=b0 (eZ:Ev []) f238 (aN tB 0x41 []) [.i .u64] [uI] TV
noncomputable def EQ:Cb 214:=b0 ((ad zJ (ad abA eZ)):Ev []) f214 (aN tB 0x20028120212000210b80210d609041 [0x5044084000000001,0xd0c2000000144003,0x102080000005002,0x160c2000000144003,0x4082000000001,0x983080000004002]) [.s] [uI,.bo] X1
noncomputable def agT:Cb 249:=b0 ((ad WM eZ):Ev []) f249 (aN tB 0x20028120008180b20204d609040050241 [0x5044084000000001,0x6082000000144003]) [.s] [uI,.bo] X0
noncomputable def agS:Cb 236:=b0 ((ad um (ad IW (ad EQ (ad agT eZ)))):Ev []) f236 (aN tB 0x1000284640409d9824104104040c041 [0x4202000081002002,0x2e430800022c200c2c2004]) [.s] [.st .Arg,.bo] XZ
noncomputable def ym:Cb 211:=b1 ((ad agS eZ):Ev []) f211 (aN tB 0x800028420b20204d609041 [0x1c1189100000001002,0x883080008046dc1207181005]) [.sl .s,.bo] [.sl (.st .Arg),.bo] (λx=>TU x.1 x.2)
noncomputable def WR:Cb 171:=b2 ((ad WP (ad kO (ad aiV (ad (bI (eZ:Ev eS) 210 f210 (aN tB 0x41 [])) (ad ym eZ))))):Ev eS) f171 (aN tB 0x1010901101041040050240050841001001409408041001409424041001421041001001409424041 [0x52c1284000040005002,0x180c2000045040141003,0x7e43080001205080206141005,0x14b28a100001201008185004,0x3f90c200004814200a206141006,0x85e0308000114100b185004,0xc080000006002,0xc080000000,0xc1e03080001000001]) [.fr,.ow [.fr,.ow [.fr,.fr]],.ow [.fr,.fr],.ow [.fr,.fr],.ow [.fr,.fr,.ow [.fr,.fr],.ow [.fr,.fr],.ow [.fr,.ow [.fr,.fr],.ow [.fr,.fr,.fr,.fr,.ow [.fr,.fr,.fr,.fr],.ow [.fr,.fr]],.fr,.fr,.fr,.fr,.fr,.fr]],.fr,.fr] (.st .Read) [.sl .s] [uI] (λx y=>NE x y)
noncomputable def zK:Cb 212:=b0 (eZ:Ev []) f212 (aN tB 0x40050241 []) [uI,uI] [uI] (λx=>NG x.1 x.2)
noncomputable def abB:Cb 237:=b0 ((ad EO eZ):Ev []) f237 (aN tB 0x101 [0x83080000000]) [.s] [.bo] TW
noncomputable def IY:Cb 213:=b0 ((ad kO (ad abB eZ)):Ev []) f213 (aN tB 0x101 [0x83080000000]) [.sl .s] [.bo] NN
noncomputable def WS:Cb 172:=b2 ((ad (bS 19 (bI (eZ:Ev eS) 108 f108 (aN tB 0x41 [])) (bS 124 (bI (eZ:Ev eS) 108 f108 (aN tB 0x41 [])) (bS 163 (bI (eZ:Ev eS) 108 f108 (aN tB 0x41 [])) (bI (eZ:Ev eS) 108 f108 (aN tB 0x41 []))))) (ad kO (ad zK (ad IY (ad EQ eZ))))):Ev eS) f172 (aN tB 0x20020822020028428100822020028420800a10a04020880800a10a04020206020800a10a04020088180800a10a058241 [0x220c2000040001002,0x302000000181,0xc080000006002,0x4b90c2000040001002,0x302000000201,0x20f80c2000040001002,0xc080000009002,0x2cb80c2000040001002,0xc3e03080001000281003,0xc08000000c002,0x3a380c2000040001002,0xc08000000d002]) [.fr,.ow [.fr,.ow [.fr,.fr]],.ow [.fr,.fr],.ow [.fr,.fr],.ow [.fr,.fr,.ow [.fr,.fr],.ow [.fr,.fr],.ow [.fr,.ow [.fr,.fr],.ow [.fr,.fr,.fr,.fr,.ow [.fr,.fr,.fr,.fr],.ow [.fr,.fr]],.fr,.fr,.fr,.fr,.fr,.fr]],.fr,.fr] (.st .Read) [.sl .s] [.bo,uI] (λx y=>NF x y)
noncomputable def IX:Cb 215:=b1 ((ad kO (ad ym eZ)):Ev []) f215 (aN tB 0x800028420b20204d609001421041 [0x5c3080000008081004,0x24120d100000002002,0x340c2000008dc1289202005]) [.sl .s,uI,.bo] [.sl (.st .Bind),.bo] (λx=>NJ x.1 x.2.1 x.2.2)
noncomputable def WV:Cb 173:=b2 ((ad kO (ad zK (ad IY (ad IX eZ)))):Ev eS) f173 (.s .l (.s .l (.s (.s .l (.c .l .l)) (.a 6 (.out 0) (.s (.s .l (.b (.s .l (.c (.s (.j ⟨[1,6],[.out 0],[],[.sl 51 .bo]⟩ .l (.c (.s .l .l) .l)) (.s .l (.j ⟨[7],[],[],[.rt (.out 0) [.fr,.ow [.fr,.ow [.fr,.fr]],.ow [.fr,.fr],.ow [.fr,.fr],.ow [.fr,.fr,.ow [.fr,.fr],.ow [.fr,.fr],.ow [.fr,.ow [.fr,.fr],.ow [.fr,.fr,.fr,.fr,.ow [.fr,.fr,.fr,.fr],.ow [.fr,.fr]],.fr,.fr,.fr,.fr,.fr,.fr]],.fr,.fr] (.st .Read)]⟩ .l (.s .l .l)))) (.s .l (.c (.s (.j ⟨[0,1,6],[.out 0],[],[.sl 93 .bo]⟩ .l (.c (.s .l .l) .l)) (.s .l (.j ⟨[0,8],[],[],[.rt (.out 0) [.fr,.ow [.fr,.ow [.fr,.fr]],.ow [.fr,.fr],.ow [.fr,.fr],.ow [.fr,.fr,.ow [.fr,.fr],.ow [.fr,.fr],.ow [.fr,.ow [.fr,.fr],.ow [.fr,.fr,.fr,.fr,.ow [.fr,.fr,.fr,.fr],.ow [.fr,.fr]],.fr,.fr,.fr,.fr,.fr,.fr]],.fr,.fr] (.st .Read)]⟩ .l (.s .l (.s .l .l))))) (.s .l (.c (.s (.j ⟨[0,1,6],[.out 0],[],[.sl 153 .bo]⟩ .l (.c (.s .l .l) .l)) (.s .l (.j ⟨[0,9],[],[],[.rt (.out 0) [.fr,.ow [.fr,.ow [.fr,.fr]],.ow [.fr,.fr],.ow [.fr,.fr],.ow [.fr,.fr,.ow [.fr,.fr],.ow [.fr,.fr],.ow [.fr,.ow [.fr,.fr],.ow [.fr,.fr,.fr,.fr,.ow [.fr,.fr,.fr,.fr],.ow [.fr,.fr]],.fr,.fr,.fr,.fr,.fr,.fr]],.fr,.fr] (.st .Read)]⟩ .l (.s .l (.s .l .l))))) (.s .l (.c (.s .l (.s (.j ⟨[0,1,6,10],[.out 0],[],[.sl 205 .bo]⟩ .l (.c (.s .l .l) .l)) (.s (.j ⟨[0,1,6,10],[.out 0],[],[.sl 215 .bo]⟩ .l (.c (.s .l .l) .l)) (.s .l (.s (.s .l (.b (.lp ⟨[0,6,10,12],[.out 0],[],[.sl 13 (.i .i64),.rt (.loc 12) [.fr,.ow [.fr,.fr,.fr,.fr]] (.st .Phi)]⟩ (.s (.s .l (.c .l .l)) (.j ⟨[0,6,10,12,13],[.out 0],[],[.rt (.loc 12) [.fr,.ow [.fr,.fr,.fr,.fr]] (.st .Phi)]⟩ (.b .l) .l))))) (.s .l (.j ⟨[0],[],[],[.rt (.out 0) [.fr,.ow [.fr,.ow [.fr,.fr]],.ow [.fr,.fr],.ow [.fr,.fr],.ow [.fr,.fr,.ow [.fr,.fr],.ow [.fr,.fr],.ow [.fr,.ow [.fr,.fr],.ow [.fr,.fr,.fr,.fr,.ow [.fr,.fr,.fr,.fr],.ow [.fr,.fr]],.fr,.fr,.fr,.fr,.fr,.fr]],.fr,.fr] (.st .Read)]⟩ .l (.s .l (.s .l .l))))))))) .l)))))))))) (.s .l .l)) (.s (.s .l (.b (.s .l (.c (.s (.j ⟨[1,6],[.loc 16,.out 0],[],[.sl 51 .bo]⟩ .l (.c (.s .l .l) .l)) (.s .l (.j ⟨[7],[.out 0],[],[]⟩ .l (.s .l .l)))) (.s .l (.c (.s (.j ⟨[0,1,6],[.loc 16,.out 0],[],[.sl 93 .bo]⟩ .l (.c (.s .l .l) .l)) (.s .l (.j ⟨[0,8],[.out 0],[],[]⟩ .l (.s .l (.s .l .l))))) (.s .l (.c (.s (.j ⟨[0,1,6],[.loc 16,.out 0],[],[.sl 153 .bo]⟩ .l (.c (.s .l .l) .l)) (.s .l (.j ⟨[0,9],[.out 0],[],[]⟩ .l (.s .l (.s .l .l))))) (.s .l (.c (.s .l (.s (.j ⟨[0,1,6,10],[.loc 16,.out 0],[],[.sl 205 .bo]⟩ .l (.c (.s .l .l) .l)) (.s (.j ⟨[0,1,6,10],[.loc 16,.out 0],[],[.sl 215 .bo]⟩ .l (.c (.s .l .l) .l)) (.s .l (.s (.s .l (.b (.lp ⟨[0,6,10,12],[.loc 16,.out 0],[],[.sl 13 (.i .i64),.rt (.loc 12) [.fr,.ow [.fr,.fr,.fr,.fr]] (.st .Phi)]⟩ (.s (.s .l (.c .l .l)) (.j ⟨[0,6,10,12,13],[.loc 16,.out 0],[],[.rt (.loc 12) [.fr,.ow [.fr,.fr,.fr,.fr]] (.st .Phi)]⟩ (.b .l) .l))))) (.s .l (.s .l .l))))))) .l)))))))))) (.s .l .l)))))) [.fr,.ow [.fr,.ow [.fr,.fr]],.ow [.fr,.fr],.ow [.fr,.fr],.ow [.fr,.fr,.ow [.fr,.fr],.ow [.fr,.fr],.ow [.fr,.ow [.fr,.fr],.ow [.fr,.fr,.fr,.fr,.ow [.fr,.fr,.fr,.fr],.ow [.fr,.fr]],.fr,.fr,.fr,.fr,.fr,.fr]],.fr,.fr] (.st .Read) [.sl .s] [.bo,uI] (λx y=>NL x y)
noncomputable def SI:Cb 174:=b2 ((ad kO (ad (bI (eZ:Ev eS) 210 f210 (aN tB 0x41 [])) (ad ym (ad zK (ad EQ (ad IX (ad (bI ((ad kO (ad ym (ad EQ eZ))):Ev eS) 216 f216 (aN tB 0x40008281050900008281050900008281050900041421041 [0x1f0c200004000bf8af89f86f45f7af39f38f37f36f35f34f33f32f31f30f2ff2ef2df2cf2bf2af29f28f27f26f25f24f23f22f21f20f1ff1ef1df07f06f01f00f02069,0x4000bf8af89f86f45f7af39f38f37f36f35f34f33f32f31f30f2ff2ef2df2cf2bf2af29f28f27f26f25f24f23f22f21f20f1ff1ef1df07f06f01f00f02069,0xb90c200004000bf8af89f86f45f7af39f38f37f36f35f34f33f32f31f30f2ff2ef2df2cf2bf2af29f28f27f26f25f24f23f22f21f20f1ff1ef1df07f06f01f00f02069,0x4000bf8af89f86f45f7af39f38f37f36f35f34f33f32f31f30f2ff2ef2df2cf2bf2af29f28f27f26f25f24f23f22f21f20f1ff1ef1df07f06f01f00f02069,0x8390c200004000bf8af89f86f45f7af39f38f37f36f35f34f33f32f31f30f2ff2ef2df2cf2bf2af29f28f27f26f25f24f23f22f21f20f1ff1ef1df07f06f01f00f02069,0x4000bf8af89f86f45f7af39f38f37f36f35f34f33f32f31f30f2ff2ef2df2cf2bf2af29f28f27f26f25f24f23f22f21f20f1ff1ef1df07f06f01f00f27,0xdf90c200004000bf8af89f86f45f7af39f38f37f36f35f34f33f32f31f30f2ff2ef2df2cf2bf2af29f28f27f26f25f24f23f22f21f20f1ff1ef1df07f06f01f00f02069])) eZ))))))):Ev eS) f174 (aN tB 0x400104404100140904005085020110005084100142104005084140b04820800a108042010210210210210318241 [0x140c2000040001002,0x1d0c2000040001002,0x1be43080001000207043,0xb390c200004000a207044,0x1eb80c200004000c288044,0xc080000000,0xa5e030800010001c1003,0xc080000010002,0xc141103180000000]) [.fr,.ow [.fr,.ow [.fr,.fr]],.ow [.fr,.fr],.ow [.fr,.fr],.ow [.fr,.fr,.ow [.fr,.fr],.ow [.fr,.fr],.ow [.fr,.ow [.fr,.fr],.ow [.fr,.fr,.fr,.fr,.ow [.fr,.fr,.fr,.fr],.ow [.fr,.fr]],.fr,.fr,.fr,.fr,.fr,.fr]],.fr,.fr] (.st .Read) [.sl .s] [.bo,uI] (λx y=>Ki x y)
noncomputable def WT:Cb 107:=b2 ((ad WR (ad WS (ad WV (ad SI eZ)))):Ev eS) f107 (aN tB 0x101030040c010301001040050850240050841 [0x443080001000081003,0x7c3080001000001,0xc2011c3180000001002,0xc2011c3180000001002,0xc201100000000]) [.fr,.ow [.fr,.ow [.fr,.fr]],.ow [.fr,.fr],.ow [.fr,.fr],.ow [.fr,.fr,.ow [.fr,.fr],.ow [.fr,.fr],.ow [.fr,.ow [.fr,.fr],.ow [.fr,.fr,.fr,.fr,.ow [.fr,.fr,.fr,.fr],.ow [.fr,.fr]],.fr,.fr,.fr,.fr,.fr,.fr]],.fr,.fr] (.st .Read) [.sl .s,.bo] [uI] (λx y=>NH x y.1 y.2)
noncomputable def WU:Cb 59:=b0 ((ad WW (ad WT (ad (bI (eZ:Ev eS) 108 f108 (aN tB 0x41 [])) eZ))):Ev eS) f59 (aN tB 0x800a1080014082c8081358241001409041 [0x58e241100002040205083,0xc43080016082008082]) [.s] [.st .Program,uI,uI] NK
noncomputable def zL:Cb 109:=b0 (eZ:Ev []) f109 (aN tB 0x2000502c8081358240050241 [0x141080000001002]) [.sl (.st .Var),.sl (.st .Var)] [.bo] (λx=>Fk x.1 x.2)
noncomputable def MP:Cb 239:=b0 (eZ:Ev []) f239 (aN tB 0x2000502c8081358240050241 [0x141080000001002]) [.sl (.st .Arg),.sl (.st .Arg)] [.bo] (λx=>Fj x.1 x.2)
noncomputable def IS:Cb 217:=b0 ((ad MP eZ):Ev []) f217 (aN tB 0x800142320204d6090000502c80813582002842082c8081358240050841 [0xd83080003082003082,0x141080003082003082,0xaf90c20001c60c21001c6143085,0x80420001c60c21001c6143085,0x241080003082003082,0x26780c20000c2080243083]) [.st .Instr,.st .Instr] [.bo] (λx=>B5 x.1 x.2)
noncomputable def IZ:Cb 175:=b0 ((ad IS eZ):Ev []) f175 (aN tB 0x4000a05901026b048000281640409ac1001421640409ac12000502c8081358240050841 [0xde43080003082003082,0x141080003082003082,0x181080003082003082,0x1ff80c20000c2080183083,0x70420000c2080183083,0x201080003082003082]) [.st .Block,.st .Block] [.bo] (λx=>B8 x.1 x.2)
noncomputable def MF:Cb 110:=b0 ((ad zL (ad IZ eZ)):Ev []) f110 (aN tB 0x2000502c8081358240050841 [0xa83080003082003082,0x141080003082003082]) [.st .Func,.st .Func] [.bo] (λx=>Fa x.1 x.2)
noncomputable def agN:Cb 60:=b0 ((ad zL (ad MF eZ)):Ev []) f60 (aN tB 0x800140b20204d609000281640409ac12000508c8081358240050841 [0xbc3080003082003082,0x141080003082003082,0x6f90c20000c2080143083,0x181080003082003082,0x1c1080003082003082]) [.st .Program,.st .Program] [.bo] (λx=>XQ x.1 x.2)
noncomputable def aa7:Cb 21:=b1 ((ad WO (ad WU (ad agN eZ))):Ev []) f21 (aN tB 0x1041 []) [.st .Program] [.bo] TP
noncomputable def m7:Cb 62:=b0 (eZ:Ev []) f62 (aN tB 0x2000502c8081358241 [0x6042000102080102043]) [.st .Program,.s] [.st .Class,.bo] (λx=>Kd x.1 x.2)
noncomputable def yl:Cb 63:=b0 (eZ:Ev []) f63 (aN tB 0x41 []) [.s] [.bo] TI
noncomputable def SH:Cb 61:=b0 ((ad m7 (ad yl eZ)):Ev []) f61 (aN tB 0x4000140b20204d60800a1088c8081358241 [0x5042000081002042,0x1c3080002040142043,0x883080002040142043,0x201080002040142043]) [.st .Program,.sl (.st .Var)] [.bo] (λx=>Kh x.1 x.2)
noncomputable def SF:Cb 22:=b1 ((ad SH (ad m7 (ad yl eZ))):Ev []) f22 (aN tB 0x1000284101041000281640409ac12c808135824000140b20204d60b20204d609000281000281640409ac12c8081358240050241 [0xc1080001040041,0x4042000041003042,0x141080001040041,0x6042000041005042,0x1c1080001040041,0x8042000041007042,0x2c308000107ce41247043,0x24380c2000041007042]) [.st .Program] [.bo] Kf
noncomputable def zI:Cb 64:=b0 (eZ:Ev []) f64 (aN tB 0x2000502c8081358241 [0x6042000081002042]) [.st .Func,.s] [uI,.bo] (λx=>Nq x.1 x.2)
noncomputable def ul:Cb 66:=b1 ((ad zI eZ):Ev []) f66 (aN tB 0x80014202c8081358241 [0x1c10800030400c2043,0x2a0c20000c10070c2044]) [.st .Func,uI,uI] [.bo] (λx=>Nn x.1 x.2.1 x.2.2)
noncomputable def aaV:Cb 65:=b8 ((ad ul eZ):Ev []) f65 (aN tB 0x8000284700421ac1640409ac104160204d641041 [0x1030cf100001040041,0x1411030cf180001040041,0x60440c33c6000041005042,0x803080001043dc1185103045,0x1030cf100001040185043,0xb43080001043dc1185103045]) [.st .Func] [.sl .bo] Tx
noncomputable def WQ:Cb 23:=b1 ((ad zI (ad aaV eZ)):Ev []) f23 (aN tB 0x4000a05901026b04820000140b20204d60800a1082c808135820800a0482c8081358241 [0xc1080001040041,0x1c1080001040183043,0x1790c2000041007183044,0xa042000041007183044,0xc0420000002c1]) [.st .Func] [.bo] NC
noncomputable def aa1:Cb 24:=b1 ((ad ul eZ):Ev []) f24 (aN tB 0x100005080000a0480818080102e0081358241640409ac12082c80813582c8081358241 [0xc1080001040041,0x4042000041003042,0x7046044000041005103044,0x9048044000041007185103046,0x201080001040247185103047,0x281080001040207185103047,0x1be43080001040103043]) [.st .Func] [.bo] TF
noncomputable def MO:Cb 111:=b0 (eZ:Ev []) f111 (aN tB 0x2000502c8081358241 [0x181080004040101003]) [.sl (.st .Var),.s] [.st .Var,.bo] (λx=>XU x.1 x.2)
noncomputable def EN:Cb 67:=b0 ((ad MO eZ):Ev []) f67 (aN tB 0x1001409041 []) [.st .Func,.s] [.st .Var,.bo] (λx=>TJ x.1 x.2)
noncomputable def EM:Cb 68:=b0 ((ad EN eZ):Ev eV) f68 (aN tB 0x40041421001050241 [0x7430800030400c1]) [.st .Func,.st .Arg] [.s,.bo] (λx=>XV x.1 x.2)
noncomputable def pO:Cb 69:=b0 ((ad yl eZ):Ev []) f69 (aN tB 0x101 [0x103080000000]) [.s,.s] [.bo] (λx=>Nw x.1 x.2)
noncomputable def WK:Cb 112:=b0 ((ad pO eZ):Ev []) f112 (aN tB 0x2000508c8081358241 [0x141080000001002,0x1c0c2000000141003]) [.sl .s,.sl (.st .Var)] [.bo] (λx=>Nv x.1 x.2)
noncomputable def SE:Cb 113:=b0 ((ad m7 (ad MO eZ)):Ev []) f113 (aN tB 0x1041 []) [.st .Program,.s,.s] [.st .Var,.bo] (λx=>Ke x.1 x.2.1 x.2.2)
noncomputable def MN:Cb 114:=b0 ((ad MO eZ):Ev []) f114 (aN tB 0x41 []) [.st .Program,.s] [.st .Var,.bo] (λx=>Fi x.1 x.2)
noncomputable def WL:Cb 115:=b0 (eZ:Ev []) f115 (aN tB 0x2000502c8081358241 [0x6042000102080102043]) [.st .Program,.s] [.st .Func,.bo] (λx=>Nx x.1 x.2)
noncomputable def MM:Cb 116:=b0 (eZ:Ev []) f116 (aN tB 0x2000502c8081358241 [0x6042000102080102043]) [.st .Program,.s] [.st .Extern,.bo] (λx=>Fh x.1 x.2)
noncomputable def SG:Cb 70:=b1 ((ad m7 (ad yl (ad EN (ad EM (ad pO (ad WP (ad WK (ad SE (ad MN (ad WL (ad MM eZ))))))))))):Ev []) f70 (aN tB 0x2000502c808135824000a10140805020140810140804140804140811020411020411020405020140b06008480212020800028120b20204d609040050841041 [0xee430800091440c40091440c4,0x3012c61000091440c40091440c4,0x3c80800091430cbdc140b2450c5,0xcb90c20002450c32f70503cb2450c6,0x4080800091430cbdc13cb2450c5,0xff90c20002450c32f70503cb2450c6,0x2412f70503cb244,0x183080000000,0x134140c40134c3009142009142,0x183080000000,0x5505831005550c01412f704b142,0x183080000000,0x183080000000,0x183080000000,0x55b80c20002412f70503cb244,0x1f0420002412f70503cb244]) [.st .Program,.st .Func,.st .Instr] [.bo] (λx=>Kg x.1 x.2.1 x.2.2)
noncomputable def aa2:Cb 117:=b0 ((ad EM eZ):Ev []) f117 (aN tB 0x40040050850241 [0x543080005102005102]) [.st .Func,.st .Instr,.st .Arg] [.s,.bo] (λx=>TG x.1 x.2.1 x.2.2)
noncomputable def ML:Cb 71:=b0 ((ad m7 (ad pO (ad aa2 eZ))):Ev []) f71 (aN tB 0x20000a101640409ac100142111901026b0480000502c808135820028120b20204d6082c8081358241 [0x1c10800051030c01440c3,0x2410800051030c02071440c5,0xc0420001440c30092071440c6,0x3410800051030c01440c3,0x3913c310038e0c01440c300d1440c4,0xaf90c20001440ce10038d1440c5,0x100420001440ce10038d1440c5,0x86e0308000510338401038d1440c6]) [.st .Program,.st .Func,.st .Instr] [.bo] (λx=>Fg x.1 x.2.1 x.2.2)
noncomputable def aa3:Cb 72:=b0 ((ad EM (ad pO eZ)):Ev []) f72 (aN tB 0x4041 [0x103080000000]) [.st .Func,.st .Term] [.bo] (λx=>TH x.1 x.2)
noncomputable def SC:Cb 73:=b1 (eZ:Ev []) f73 (aN tB 0x200084700409ac100205c01026b04b20204d609041 [0x6045044000081002042,0x1c1141100002040182043,0x5042000081007182044,0x201141100002040182043,0x5042000081008182044,0xbe43080002040206142045]) [.st .Func,.s] [uI] (λx=>Kc x.1 x.2)
noncomputable def WH:Cb 218:=b8 (eZ:Ev []) f218 (aN tB 0x100205c01026b04820040b80204d609041 [0x181146100000001002,0x5182000000181003,0x1c1146100000001002,0x51820000001c1003]) [.sl .s,.s] [.sl .s] (λx=>Ns x.1 x.2)
noncomputable def WG:Cb 176:=b8 ((ad WH eZ):Ev []) f176 (aN tB 0x40050241 []) [.sl .s,.st .Arg] [.sl .s] (λx=>Nr x.1 x.2)
noncomputable def SA:Cb 118:=b8 ((ad WG eZ):Ev []) f118 (aN tB 0x200640409ac1640409ac1200640409ac1640409ac120320204d609041 [0x1010ca100001040041,0x1410ca100001040041,0x6043284000041005042,0x1c10ca100001040041,0x8043284000041007042]) [.st .Instr] [.sl .s] JZ
noncomputable def De:Cb 178:=b1 (eZ:Ev []) f178 (aN tB 0x2000508c8081358241 [0x1c10800030400c2043,0x180c20000c10070c2044]) [.st .Block,uI,.s] [.bo] (λx=>Ka x.1 x.2.1 x.2.2)
noncomputable def MJ:Cb 219:=b0 (eZ:Ev []) f219 (aN tB 0x2000502c8081358241 [0x5042000081002042]) [.st .Func,.s] [.bo] (λx=>Fe x.1 x.2)
noncomputable def WI:Cb 220:=b0 (eZ:Ev []) f220 (aN tB 0x2000502c8081358241 [0x5042000081002042]) [.st .Block,.s] [.bo] (λx=>Nt x.1 x.2)
noncomputable def SB:Cb 177:=b8 ((ad ul (ad De (ad MJ (ad WI eZ)))):Ev []) f177 (aN tB 0x800042380204d6080842e00813582c8081358244041 [0x53c2000081002042,0x60453c4000081002042,0x1c114f100002040182043,0x53c2000081007182044,0x6e43080002045dc11c6142045,0x80453c4000081007182044,0x14f080002040207182045,0x6f90c20000811770481c6142046]) [.st .Func,.s] [.sl .bo] (λx=>J0 x.1 x.2)
noncomputable def MI:Cb 119:=b1 ((ad SB (ad De eZ)):Ev []) f119 (aN tB 0x41 []) [.st .Func,uI,uI,.s] [.bo] (λx=>Fd x.1 x.2.1 x.2.2.1 x.2.2.2)
noncomputable def MK:Cb 74:=b1 ((ad zI (ad ul (ad SA (ad MI eZ)))):Ev []) f74 (aN tB 0x20000142020b20204d60b20204d60800a108000281640409ac105901026b0482c8081358241 [0xc1080001040041,0x5042000101080103043,0x7042000101080185103045,0x6b90c2000101080103043,0x8042000101080103043,0x241080004042008103044,0x24780c2000101080248103045]) [.st .Func] [.bo] Ff
noncomputable def WJ:Cb 25:=b1 ((ad EN (ad EM (ad pO (ad SG (ad ML (ad aa3 (ad SC (ad MK eZ)))))))):Ev []) f25 (aN tB 0x4000a05901026b04800140b20204d609000281000284640409ac120000a101640409ac100140911901026b0482c8081358241 [0x141080003082003082,0x7042000183083006143084,0x84090c40082030060c20c01c6143085,0x2810800081830840081c6143086,0x6b90c20002060c21002881c6143087,0xd042000183083006143084,0x7fe030800060c20c0346143085,0x3810800030400c1,0x3c10800030400c1]) [.st .Program,.st .Func] [.bo] (λx=>Nu x.1 x.2)
noncomputable def EL:Cb 8:=b1 ((ad aa7 (ad SF (ad WQ (ad aa1 (ad WJ eZ))))):Ev []) f8 (aN tB 0x2000502002842c8081358240050240050841 [0x2c3080001040041,0xc1080001040041,0x250c2000041003042]) [.st .Program] [uI] AB
def mW:An:=.s .l (.s (.j ⟨[1],[.loc 1],[],[.sl 9 .bo]⟩ .l (.c (.s .l .l) .l)) (.s .l .l))
noncomputable abbrev e_ValidPrograms:Ev []:=(ad Su (ad aiR (ad zN (ad EL eZ))))
theorem tF(a:Lt.Program)(KK:(Bool)->Prop):jJ a KK=uh e_ValidPrograms.en f3 mW [.st .Program] [.bo] a KK:=kQ0
theorem we:En.ok e_ValidPrograms.en:=e_ValidPrograms.ok
end
end Go.Am
end

section
namespace Go.Am
open Go
def Bd(d:Nat):Int:=562949953421312+6001*((min d 10:Nat):Int)
theorem Qh(d:Nat):562949953421312<=Bd d/\Bd d<=562949953621322:=by unfold Bd;omega
def Pc(d:Nat)(b:Int)(w:Nat)(r:Int):Prop:=(6000<r/\r<=Bd d)\/(r=b+(w:Int)/\r<=6000)
def short(s:a8):Prop:=s.length<=140737488355328
variable{d:Nat}{α:Type}
theorem lW(c:List α->Int->Int)(s:Int->α->Int)(w:α->Nat)(h0:∀b,c [] b=b)(h1:∀x r b,c (x::r) b=if b<=6000 then c r (s b x)else b)(ok:α->Prop)
  (hs:∀b x,ok x->0<=b->b<=6000->Pc d b (w x) (s b x)):∀(l:List α)(b:Int),(∀x∈l,ok x)->0<=b->b<=Bd d->Pc d b (l.map w).sum (c l b)
 |[],b,_,h2,h3=>by rw[h0];unfold Pc;simp only[List.map_nil,List.sum_nil];omega
 |x::r,b,a,h2,h3=>by
  rw[h1];by_cases hb:b<=6000
  .rw[if_pos hb];have hx:=hs b x (a x (by simp)) h2 hb
   have e:=Qh d
   have h4:0<=s b x/\s b x<=Bd d:=by unfold Pc at hx;omega
   have ih:=lW c s w h0 h1 ok hs r (s b x) (λy hy=>a y (by simp[hy])) h4.1 h4.2
   unfold Pc at hx ih|-;simp only[List.map_cons,amT];omega
  rw[if_neg hb];unfold Pc;omega
variable{k:Nat}{n:Int}
theorem jf(h1:0<=n)(h2:n<=1152921504606846976)(h3:k<=1152921504606846976):Lt.plus n k=n+(k:Int):=by unfold Lt.plus;exact cF kQ1 kQ1
theorem mw(h1:0<=n)(h2:n<=4611686018427387904):i64.wrap n=n:=cF kQ1 kQ1
def Zw(v:Lt.Var):Nat:=v.Name.length+v.Type_.length
def vH(l:List Lt.Var):Nat:=l.length+(l.map Zw).sum
def Zv(a:Lt.Arg):Nat:=a.S.length
def vG(l:List Lt.Arg):Nat:=l.length+(l.map Zv).sum
def LK(b:Lt.Bind):Nat:=1+b.Name.length+b.A.S.length
def qG(f:Lt.Frame):Nat:=f.Func.length+f.Block.length+(f.Vars.map LK).sum
def LL(o:Lt.Virt):Nat:=o.Class.length+vG o.Vals
def lF(x:Lt.Instr):Nat:=1+x.Dst.length+x.Frames.length+x.Objs.length+x.Name.length+vG x.Args+(x.Frames.map qG).sum+(x.Objs.map LL).sum
def wIn(b:Lt.In):Nat:=1+b.Block.length+b.A.S.length
def Cv(x:Lt.Phi):Nat:=1+x.Dst.length+(x.Ins.map wIn).sum
def wTo(t:List UInt8):Nat:=1+t.length
def fe(b:Lt.Block):Nat:=1+b.Name.length+b.End.A.S.length+(b.End.To.map wTo).sum+(b.Phis.map Cv).sum+(b.Code.map lF).sum
def jZ(f:Lt.Func):Nat:=1+f.Name.length+f.Result.length+vH f.Params+vH f.Vars+(f.Blocks.map fe).sum
def wW(c:Lt.Class):Nat:=c.Name.length+vH c.Fields
def rN(x:Lt.Extern):Nat:=1+x.Name.length
def BN(p:Lt.Program):Nat:=vH p.Globals+(p.Classes.map wW).sum+(p.Externs.map rN).sum+(p.Funcs.map jZ).sum
def mM(v:Lt.Var):Prop:=short v.Name/\short v.Type_
def dE(a:Lt.Arg):Prop:=short a.S
def Za(b:Lt.Bind):Prop:=short b.Name/\dE b.A
def OO(f:Lt.Frame):Prop:=short f.Func/\short f.Block/\∀b∈f.Vars,Za b
def rY(o:Lt.Virt):Prop:=short o.Class/\∀a∈o.Vals,dE a
def gL(x:Lt.Instr):Prop:=short x.Dst/\short x.Name/\(∀a∈x.Args,dE a)/\(∀f∈x.Frames,OO f)/\∀o∈x.Objs,rY o
def sIn(b:Lt.In):Prop:=short b.Block/\dE b.A
def pu(x:Lt.Phi):Prop:=short x.Dst/\∀i∈x.Ins,sIn i
def fE(b:Lt.Block):Prop:=short b.Name/\dE b.End.A/\(∀t∈b.End.To,short t)/\(∀x∈b.Phis,pu x)/\∀i∈b.Code,gL i
def jY(f:Lt.Func):Prop:=short f.Name/\short f.Result/\(∀v∈f.Params,mM v)/\(∀v∈f.Vars,mM v)/\∀b∈f.Blocks,fE b
def i9(c:Lt.Class):Prop:=short c.Name/\∀v∈c.Fields,mM v
def Q6(p:Lt.Program):Prop:=(∀c∈p.Classes,i9 c)/\(∀v∈p.Globals,mM v)/\(∀e∈p.Externs,short e.Name)/\∀f∈p.Funcs,jY f
variable{r:Int}
theorem qF{b0:Int}{w0:Nat}(hd:d < 9)(h0:0<=b0)(h:Pc (d+1) b0 w0 n)(hk:Pc d 0 k r):Pc (d+1) b0 (w0+k) (Lt.upto 6000 n r):=by
 unfold Lt.upto;unfold Pc Bd at h hk|-;split
 .rw[mw kQ1 kQ1];omega
 omega
theorem FE{b0:Int}{w0:Nat}(h0:0<=b0)(h:Pc d b0 w0 n)(hk:k<=140737488355328):Pc d b0 (w0+k) (if n<=6000 then Lt.plus n k else n):=by
 unfold Pc Bd at h|-;split
 .rw[jf kQ1 kQ1 kQ1];omega
 omega
theorem X7(hk:k<=140737488355328):Pc d 0 k (k:Int):=by unfold Pc Bd;omega
theorem aaQ(l:List Lt.Var)(b:Int)(h:∀v∈l,mM v)(h0:0<=b)(h1:b<=Bd d):Pc d b (l.map Zw).sum (zG 6000 l b):=by
 refine lW (zG 6000) (λn v=>if Lt.plus n v.Name.length<=6000 then Lt.plus (Lt.plus n v.Name.length) v.Type_.length else Lt.plus n v.Name.length) Zw (λ_=>rfl) (λ_ _ _=>rfl) mM (λb x hx h0 h1=>?_) l b h h0 h1;have hn:Pc d b x.Name.length (Lt.plus b x.Name.length):=by
  have:=hx.1;unfold short at this
  unfold Pc Bd;rw[jf h0 kQ1 kQ1];omega
 exact FE h0 hn hx.2
theorem lX{d:Nat}(l:List Lt.Var)(h:∀v∈l,mM v):Pc d 0 (vH l) (dc l 6000):=by
 unfold dc vH;split
 .rw[mw kQ1 kQ1];unfold Pc Bd;omega
 have:=aaQ (d:=d) l (l.length:Int) h kQ1 (by have:=Qh d;omega)
 unfold Pc at this|-;omega
theorem aaM(l:List Lt.Arg)(b:Int)(h:∀v∈l,dE v)(h0:0<=b)(h1:b<=Bd d):Pc d b (l.map Zv).sum (zF 6000 l b):=by refine lW (zF 6000) (λn v=>Lt.plus n v.S.length) Zv (λ_=>rfl) (λ_ _ _=>rfl) dE (λb x hx h0 h1=>?_) l b h h0 h1;unfold dE short at hx;unfold Pc Bd Zv;rw[jf h0 kQ1 kQ1];omega
theorem xq{d:Nat}(l:List Lt.Arg)(h:∀v∈l,dE v):Pc d 0 (vG l) (fL l 6000):=by
 unfold fL vG;split
 .rw[mw kQ1 kQ1];unfold Pc Bd;omega
 have:=aaM (d:=d) l (l.length:Int) h kQ1 (by have:=Qh d;omega)
 unfold Pc at this|-;omega
variable{b:Int}
theorem KV(h0:0<=b)(h1:b<=6000)(hk:k<=140737488355328):Pc d b (1+k) (Lt.plus (i64.wrap (b+1)) k):=by rw[mw kQ1 kQ1,jf kQ1 kQ1 kQ1];unfold Pc Bd;omega
theorem Wu(l:List Lt.Bind)(b:Int)(h:∀v∈l,Za v)(h0:0<=b)(h1:b<=Bd d):Pc d b (l.map LK).sum (pM 6000 l b):=by refine lW (pM 6000) (λn b=>if Lt.plus (i64.wrap (n+1)) b.Name.length<=6000 then Lt.plus (Lt.plus (i64.wrap (n+1)) b.Name.length) b.A.S.length else Lt.plus (i64.wrap (n+1)) b.Name.length) LK (λ_=>rfl) (λ_ _ _=>rfl) Za (λb x hx h0 h1=>?_) l b h h0 h1;exact FE h0 (KV h0 h1 hx.1) hx.2
theorem agI(l:List Lt.In)(b:Int)(h:∀v∈l,sIn v)(h0:0<=b)(h1:b<=Bd d):Pc d b (l.map wIn).sum (IR 6000 l b):=by refine lW (IR 6000) (λn b=>if Lt.plus (i64.wrap (n+1)) b.Block.length<=6000 then Lt.plus (Lt.plus (i64.wrap (n+1)) b.Block.length) b.A.S.length else Lt.plus (i64.wrap (n+1)) b.Block.length) wIn (λ_=>rfl) (λ_ _ _=>rfl) sIn (λb x hx h0 h1=>?_) l b h h0 h1;exact FE h0 (KV h0 h1 hx.1) hx.2
theorem ib{w w':Nat}(h0:0<=b)(h:Pc d b w n)(h':0<=n->n<=Bd d->Pc d n w' r):Pc d b (w+w') r:=by
 have a:=Qh d
 have h2:=h' (by unfold Pc at h;omega) (by unfold Pc at h;omega)
 unfold Pc at h h2|-;omega
theorem Ou(h0:0<=b)(h1:b<=6000)(hk:k<=140737488355328):Pc d b k (Lt.plus b k):=by rw[jf kQ1 kQ1 kQ1];unfold Pc Bd;omega
theorem Sm(l:List Lt.Frame)(b:Int)(h:∀v∈l,OO v)(h0:0<=b)(h1:b<=Bd d):Pc d b (l.map qG).sum (lR 6000 l b):=by refine lW (lR 6000) (λn f=>pM 6000 f.Vars (if Lt.plus n f.Func.length<=6000 then Lt.plus (Lt.plus n f.Func.length) f.Block.length else Lt.plus n f.Func.length)) qG (λ_=>rfl) (λ_ _ _=>rfl) OO (λb x hx h0 h1=>?_) l b h h0 h1;exact ib h0 (FE h0 (Ou h0 h1 hx.1) hx.2.1) (Wu x.Vars _ hx.2.2)
theorem aaO(hd:d < 9)(l:List Lt.Virt)(b:Int)(h:∀v∈l,rY v)(h0:0<=b)(h1:b<=Bd (d+1)):Pc (d+1) b (l.map LL).sum (uj 6000 l b):=by refine lW (uj 6000) (λn o=>if Lt.plus n o.Class.length<=6000 then i64.wrap (Lt.plus n o.Class.length+fL o.Vals 6000)else Lt.plus n o.Class.length) LL (λ_=>rfl) (λ_ _ _=>rfl) rY (λb x hx h0 h1=>?_) l b h h0 h1;exact qF hd h0 (Ou h0 h1 hx.1) (xq _ hx.2)
theorem aiQ(l:List a8)(b:Int)(h:∀v∈l,short v)(h0:0<=b)(h1:b<=Bd d):Pc d b (l.map wTo).sum (Lt.cTo 6000 l b):=by refine lW (Lt.cTo 6000) (λn t=>Lt.plus (i64.wrap (n+1)) t.length) wTo (λ_=>rfl) (λ_ _ _=>rfl) short (λb x hx h0 h1=>?_) l b h h0 h1;exact KV h0 h1 hx
theorem aaP(l:List Lt.Phi)(b:Int)(h:∀v∈l,pu v)(h0:0<=b)(h1:b<=Bd d):Pc d b (l.map Cv).sum (uk 6000 l b):=by refine lW (uk 6000) (λn x=>IR 6000 x.Ins (Lt.plus (i64.wrap (n+1)) x.Dst.length)) Cv (λ_=>rfl) (λ_ _ _=>rfl) pu (λb x hx h0 h1=>?_) l b h h0 h1;exact ib h0 (KV h0 h1 hx.1) (agI x.Ins _ hx.2)
theorem We{w:Nat}(hd:d < 9)(h0:0<=b)(hn:n=b+(w:Int))(h1:n<=6000)(hk:Pc d 0 k r):Pc (d+1) b (w+k) (i64.wrap (n+r)):=by unfold Pc Bd at hk|-;rw[mw kQ1 kQ1];omega
theorem EU(x:Lt.Instr)(h:gL x):Pc 1 0 (lF x) (gE x 6000):=by
 obtain⟨h1,h2,h3,h4,h5⟩:=h;unfold short at h1 h2;unfold gE;split
 .rename_i hc;rw[mw kQ1 kQ1];unfold Pc Bd;omega
 rename_i hc;simp only[alP,decide_eq_true_eq,not_or]at hc;have e:Lt.plus (Lt.plus (Lt.plus 1 x.Dst.length) x.Frames.length) x.Objs.length=1+(x.Dst.length:Int)+x.Frames.length+x.Objs.length:=by
  have g:=jf (n:=1) (k:=x.Dst.length) kQ1 kQ1 kQ1
  have b:=jf (n:=1+(x.Dst.length:Int)) (k:=x.Frames.length) kQ1 kQ1 kQ1
  have i:=jf (n:=1+(x.Dst.length:Int)+x.Frames.length) (k:=x.Objs.length) kQ1 kQ1 kQ1
  rw[g,b,i]
 have c:Pc 1 0 (1+x.Dst.length+x.Frames.length+x.Objs.length) (Lt.plus (Lt.plus (Lt.plus 1 x.Dst.length) x.Frames.length) x.Objs.length):=by rw[e];unfold Pc Bd;omega
 have f:=qF kQ1 kQ1 c (X7 h2)
 have d:=qF kQ1 kQ1 f (xq x.Args h3)
 have a:=ib kQ1 d (Sm x.Frames _ h4)
 exact ib kQ1 a (aaO kQ1 x.Objs _ h5)
theorem aaN(l:List Lt.Instr)(b:Int)(h:∀v∈l,gL v)(h0:0<=b)(h1:b<=Bd 2):Pc 2 b (l.map lF).sum (r6 6000 l b):=by
 refine lW (r6 6000) (λn x=>i64.wrap (n+gE x 6000)) lF (λ_=>rfl) (λ_ _ _=>rfl) gL (λb x hx h0 h1=>?_) l b h h0 h1;have:=We (b:=b) (w:=0) (n:=b) kQ1 h0 kQ1 h1 (EU x hx)
 rwa [amB]at this
theorem ET(x:Lt.Block)(h:fE x):Pc 2 0 (fe x) (gD x 6000):=by
 obtain⟨h1,h2,h3,h4,h5⟩:=h;unfold dE at h2;unfold short at h1 h2;unfold gD;split
 .rw[mw kQ1 kQ1];unfold Pc Bd;omega
 have a:Pc 2 0 (1+x.Name.length) (Lt.plus 1 x.Name.length):=by rw[jf kQ1 kQ1 kQ1];unfold Pc Bd;omega
 have d:=qF kQ1 kQ1 a (X7 h2)
 have c:=ib kQ1 d (aiQ x.End.To _ h3)
 have b:=ib kQ1 c (aaP x.Phis _ h4)
 exact ib kQ1 b (aaN x.Code _ h5)
theorem Sl(l:List Lt.Block)(b:Int)(h:∀v∈l,fE v)(h0:0<=b)(h1:b<=Bd 3):Pc 3 b (l.map fe).sum (oe 6000 l b):=by
 refine lW (oe 6000) (λn x=>i64.wrap (n+gD x 6000)) fe (λ_=>rfl) (λ_ _ _=>rfl) fE (λb x hx h0 h1=>?_) l b h h0 h1;have:=We (b:=b) (w:=0) (n:=b) kQ1 h0 kQ1 h1 (ET x hx)
 rwa [amB]at this
theorem Rs(f:Lt.Func)(h:jY f):Pc 3 0 (jZ f) (nX f 6000):=by
 obtain⟨h1,h2,h3,h4,h5⟩:=h;unfold short at h1 h2;unfold nX;split
 .rw[mw kQ1 kQ1];unfold Pc Bd;omega
 have a:Pc 3 0 (1+f.Name.length) (Lt.plus 1 f.Name.length):=by rw[jf kQ1 kQ1 kQ1];unfold Pc Bd;omega
 have d:=qF kQ1 kQ1 a (X7 h2)
 have c:=qF kQ1 kQ1 d (lX f.Params h3)
 have b:=qF kQ1 kQ1 c (lX f.Vars h4)
 exact ib kQ1 b (Sl f.Blocks _ h5)
theorem Wv(l:List Lt.Func)(b:Int)(h:∀v∈l,jY v)(h0:0<=b)(h1:b<=Bd 4):Pc 4 b (l.map jZ).sum (og 6000 l b):=by
 refine lW (og 6000) (λn x=>i64.wrap (n+nX x 6000)) jZ (λ_=>rfl) (λ_ _ _=>rfl) jY (λb x hx h0 h1=>?_) l b h h0 h1;have:=We (b:=b) (w:=0) (n:=b) kQ1 h0 kQ1 h1 (Rs x hx)
 rwa [amB]at this
theorem MD(hd:d < 9)(l:List Lt.Class)(b:Int)(h:∀v∈l,i9 v)(h0:0<=b)(h1:b<=Bd (d+1)):Pc (d+1) b (l.map wW).sum (kN 6000 l b):=by refine lW (kN 6000) (λn c=>if Lt.plus n c.Name.length<=6000 then i64.wrap (Lt.plus n c.Name.length+dc c.Fields 6000)else Lt.plus n c.Name.length) wW (λ_=>rfl) (λ_ _ _=>rfl) i9 (λb x hx h0 h1=>?_) l b h h0 h1;exact qF hd h0 (Ou h0 h1 hx.1) (lX _ hx.2)
theorem ME(l:List Lt.Extern)(b:Int)(h:∀v∈l,short v.Name)(h0:0<=b)(h1:b<=Bd d):Pc d b (l.map rN).sum (jr 6000 l b):=by refine lW (jr 6000) (λn t=>Lt.plus (i64.wrap (n+1)) t.Name.length) rN (λ_=>rfl) (λ_ _ _=>rfl) (λv=>short v.Name) (λb x hx h0 h1=>?_) l b h h0 h1;exact KV h0 h1 hx
variable{p:Lt.Program}
theorem aeR(h:Q6 p)(hf:Lt.Few p 6000=true):BN p<=6000/\p.Classes.length<=50:=by
 obtain⟨h1,h2,h3,h4⟩:=h;unfold Lt.Few at hf;split at hf
 .cases hf
 rename_i hc;simp only[alP,decide_eq_true_eq,not_or]at hc;have a:=lX (d:=4) p.Globals h2
 have e:=ib kQ1 a (MD (d:=3) kQ1 p.Classes _ h1)
 have c:=ib kQ1 e (ME p.Externs _ h3)
 have b:=ib kQ1 c (Wv p.Funcs _ h4)
 simp only[decide_eq_true_eq]at hf;unfold Pc Bd at b;unfold BN;omega
theorem oU(w:α->Nat):∀(l:List α)(x:α),x∈l->w x<=(l.map w).sum
 |y::l,x,h=>by
  rw[List.map_cons,amT];rcases akX.1 h with rfl|h
  .omega
  have:=oU w l x h;omega
theorem kj(w:α->Nat)(h:∀x,1<=w x):∀l:List α,l.length<=(l.map w).sum
 |[]=>alL _
 |y::l=>by
  have:=kj w h l
  grind
theorem O1(g w:α->Nat)(h:∀x,g x<=w x):∀l:List α,(l.map g).sum<=(l.map w).sum
 |[]=>akR _
 |y::l=>by
  have:=O1 g w h l
  grind
theorem ahY(h:BN p<=6000):Un p/\p.Funcs.length<=1000000:=by
 unfold BN at h;have d:=kj jZ (λf=>by grind [jZ]) p.Funcs
 have hf:∀f∈p.Funcs,jZ f<=6000:=λf hf=>by grind [oU]
 refine⟨⟨λf hm=>?_,λf hm=>?_⟩,by omega⟩
 .grind [jZ,vH]
 have h1:=hf f hm
 unfold jZ vH at h1;have c:=kj fe (λb=>by grind [fe]) f.Blocks
 have hb:∀b∈f.Blocks,fe b<=6000:=λb hb=>by grind [oU]
 have hi:∀b∈f.Blocks,∀x∈b.Code,lF x<=6000:=λb a x hx=>by grind [oU,fe]
 refine⟨λb a x hx=>?_,⟨by omega,λb a=>?_⟩,by omega,λb a=>?_,λb a x hx=>?_⟩
 .grind [lF,vG]
 .grind [fe,kj,wTo]
 .grind [fe,kj,Cv,lF]
 have h2:=hi b a x hx
 unfold lF vG at h2;have h3:=O1 (λf:Lt.Frame=>f.Vars.length) qG (λf=>by grind [kj,LK,qG]) x.Frames
 have h4:=O1 (λo:Lt.Virt=>o.Vals.length) LL (λo=>by grind [LL,vG]) x.Objs
 grind [fP,Ej]
theorem sb{β:Type}(g:α->List β)(w:α->Nat)(k:Nat):(l:List α)->(∀x∈l,(g x).length<=k*w x)->(l.flatMap g).length<=k*(l.map w).sum
 |[],_=>by simp
 |x::r,h=>by
  have h1:=h x (by simp)
  have h2:=sb g w k r (λy hy=>h y (by simp[hy]))
  simp only[alW,ak1,List.map_cons,amT,Nat.mul_add];omega
theorem ad3(w:α->Nat):(l:List α)->(l.map λx=>1+w x).sum=l.length+(l.map w).sum
 |[]=>by simp
 |x::r=>by
  have:=ad3 w r
  simp only[List.map_cons,amT,akY,this];omega
def lw(ws:List a8):Nat:=(ws.map λw=>w.length+1).sum
theorem fN(a b:List a8):lw (a++b)=lw a+lw b:=by simp[lw]
theorem dq(a:a8)(b:List a8):lw (a::b)=a.length+1+lw b:=by simp[lw]
theorem dV:lw []=0:=rfl
theorem afD:∀(ws:List a8)(b:Bool),(Lt.jw b ws).length<=lw ws
 |[],_=>by simp[Lt.jw]
 |w::r,b=>by
  have:=afD r true
  rw[Lt.jw,dq];simp only[ak1];have:(if b then [32]else([]:List UInt8)).length<=1:=by split<;>simp
  omega
theorem mI(ws:List a8):(Lt.lnT ws).length<=lw ws+1:=by
 have:=afD ws false
 simp only[Lt.lnT,ak1,akY,ak7];omega
theorem vd(h:Lt.inR n):(iY n).length<=20:=s6 h
theorem wL{a:Lt.Arg}(h:a.ok):(bh a).length<=a.S.length+25:=by
 have h1:=vd h
 have h2:(pm a.N).length=18:=by simp[pm,Ao]
 unfold bh
 repeat' split
 all_goals (try simp only[akY,ak7])
 all_goals omega
theorem XA(n:Nat):(gw.getD n default).length<=10:=by
 have h:∀w∈gw,w.length<=10:=by decide
 rw[List.getD];cases hn:gw[n]? with
 |none=>simp;exact alL _
 |some w=>simp only[alK];exact h w (alU hn)
theorem adN(op:Int):(Lt.rOf op).1.Word.length<=10:=by
 unfold Lt.rOf;split
 .simp
 exact XA _
theorem oR(first:List UInt8)(hf:first.length<=6)(l:List Lt.Var):(iZ first l).length<=20*vH l:=by
 have:=sb (λv:Lt.Var=>Lt.lnT [first,v.Name,v.Type_]) (λv=>1+Zw v) 20 l (λv _=>by
  have:=mI [first,v.Name,v.Type_]
  simp only[dq,dV]at this;unfold Zw;omega)
 rw[ad3]at this;exact this
variable{l:List Lt.Arg}
theorem Em(h:vU l):lw (l.map bh)<=30*vG l:=by
 induction l with
 |nil=>simp[lw]
 |cons a r ih=>
  have h1:=ih (λx hx=>h x (alJ _ hx))
  have h2:=wL (h a (by simp))
  simp only[vG,List.map_cons,amT,akY,dq,Zv]at h1|-;omega
theorem IL(n:α->a8)(a:α->Lt.Arg)(l:List α)(h:∀b∈l,(a b).ok):lw (l.flatMap λb=>[n b,bh (a b)])<=30*(l.map λb=>1+(n b).length+(a b).S.length).sum:=by
 induction l with
 |nil=>simp[lw]
 |cons b r ih=>
  have h1:=ih (λx hx=>h x (alJ _ hx))
  have h2:=wL (h b (by simp))
  simp only[alW,fN,dq,dV,List.map_cons,amT];omega
theorem S9{f:Lt.Frame}(h:f.ok)(hn:Lt.inR f.At):(Lt.lnT (fQ f)).length<=40*(1+qG f):=by
 have h1:=mI (fQ f)
 have h2:=IL (λb:Lt.Bind=>b.Name) (λb=>b.A) f.Vars (λb hb=>h.2 b hb)
 have h3:=vd hn
 simp only[fQ,fN,dq,dV,akY,ak7]at h1;unfold qG;have:(f.Vars.map LK).sum=(f.Vars.map λb=>1+b.Name.length+b.A.S.length).sum:=rfl
 rw[this];simp only[fQ];omega
theorem Zu{o:Lt.Virt}(h:o.ok):(Lt.lnT (i6 o)).length<=40*(1+LL o):=by
 have h1:=mI (i6 o)
 have h2:=Em (l:=o.Vals) h
 simp only[i6,fN,dq,dV,akY,ak7]at h1;unfold LL;simp only[i6];omega
theorem O9:lw ((l.take 1).map bh)+lw ((l.drop 1).map bh)=lw (l.map bh):=by rw[<- fN,<- al0,amH]
theorem Xb{x:Lt.Instr}(h:x.ok)(hn:∀f∈x.Frames,Lt.inR f.At):(jP x).length<=40*lF x:=by
 obtain⟨a,okF,okO⟩:=h;have h1:=mI (i7 x)
 have h2:=Em a
 have h3:=adN x.Op
 have h4:=sb (λf=>Lt.lnT (fQ f)) (λf=>1+qG f) 40 x.Frames (λf hf=>S9 (okF f hf) (hn f hf))
 have h5:=sb (λo=>Lt.lnT (i6 o)) (λo=>1+LL o) 40 x.Objs (λo b=>Zu (okO o b))
 rw[ad3]at h4 h5;have c:lw (sk x)<=x.Dst.length+20:=by
  simp only[sk,fN,dq,dV];split
  .simp only[dq,dV,akY,ak7];omega
  simp only[dV];omega
 have hw:lw (i7 x)<=x.Dst.length+x.Name.length+21+lw (x.Args.map bh):=by
  unfold i7;split
  .have:=O9 (l:=x.Args)
   simp only[fN,dq,dV];omega
  simp only[fN];split
  .simp only[dq,dV];omega
  simp only[dV];omega
 simp only[jP,ak1];unfold lF;omega
theorem ah1(l:List a8):lw l=(l.map wTo).sum:=by
 unfold lw wTo
 congr 1
 exact ak4 (λx _=>by omega)
theorem Tr(n:Nat):(([[],[106,117,109,112],[98,114,97,110,99,104],[114,101,116],[116,114,97,112]]:List a8).getD n default).length<=10:=by
 match n with
 |0=>decide
 |1=>decide
 |2=>decide
 |3=>decide
 |4=>decide
 |n+5=>simp;exact alL _
theorem abT{t:Lt.Term}(h:t.ok):(vb t).length<=70+t.A.S.length+(t.To.map wTo).sum:=by
 unfold vb;split
 .simp
 have h1:=mI (Bk t)
 have h2:=wL h.1
 have h3:=vd h.2
 have h4:=Tr t.Kind.toNat
 have h5:=ah1 t.To
 unfold Bk at h1|-;simp only[fN,dq,dV]at h1;have h6:lw (if t.Kind=2\/t.Kind=3 then [bh t.A]else [])<=t.A.S.length+26:=by
  split
  .simp only[dq,dV];omega
  simp only[dV];omega
 have h7:lw (if t.Kind=4 then [iY t.N]else [])<=21:=by
  split
  .simp only[dq,dV];omega
  simp only[dV];omega
 omega
theorem adE{x:Lt.Phi}(h:x.ok):(Lt.lnT (nJ x)).length<=40*Cv x:=by
 have h1:=mI (nJ x)
 have h2:=IL (λb:Lt.In=>b.Block) (λb=>b.A) x.Ins (λb hb=>h.2 b hb)
 simp only[nJ,fN,dq,dV,akY,ak7]at h1;unfold Cv;have:(x.Ins.map wIn).sum=(x.Ins.map λb=>1+b.Block.length+b.A.S.length).sum:=rfl
 rw[this];simp only[nJ];omega
theorem Sd{b:Lt.Block}(h:b.ok)(hn:∀i∈b.Code,∀f∈i.Frames,Lt.inR f.At):(iw b).length<=100*fe b:=by
 have h1:=mI [[98,108,111,99,107],b.Name]
 simp only[dq,dV,akY,ak7]at h1;have h2:=sb (λx=>Lt.lnT (nJ x)) Cv 40 b.Phis (λx hx=>adE (h.1 x hx))
 have h3:=sb jP lF 40 b.Code (λx hx=>Xb (h.2.1 x hx) (hn x hx))
 have h4:=abT h.2.2
 simp only[iw,ak1];unfold fe;omega
theorem Xv{f:Lt.Func}(h:f.ok)(hn:∀b∈f.Blocks,∀i∈b.Code,∀r∈i.Frames,Lt.inR r.At):(lm f).length<=100*jZ f:=by
 have h1:=mI [[102,117,110,99],f.Name,f.Result]
 simp only[dq,dV,akY,ak7]at h1;have h2:=sb iw fe 100 f.Blocks (λx hx=>Sd (h x hx) (hn x hx))
 have h3:=oR [112,97,114,97,109] (by decide) f.Params
 have h4:=oR [118,97,114] (by decide) f.Vars
 simp only[lm,ak1];unfold jZ;omega
theorem SW(c:Lt.Class):(ix c).length<=20*(1+wW c):=by
 have h1:=mI [[99,108,97,115,115],c.Name]
 simp only[dq,dV,akY,ak7]at h1;have h3:=oR [102,105,101,108,100] (by decide) c.Fields
 simp only[ix,ak1];unfold wW;omega
theorem MY{c:Lt.Extern}(h:Lt.inR c.N):(jA c).length<=40*rN c:=by
 have h1:=mI [[101,120,116,101,114,110],c.Name,iY c.N]
 have h2:=vd h
 simp only[dq,dV,akY,ak7]at h1;simp only[jA];unfold rN;omega
theorem VN(hs:Q6 p)(h:p.ok)(a:∀e∈p.Externs,Lt.inR e.N)(hn:∀f∈p.Funcs,∀b∈f.Blocks,∀i∈b.Code,∀r∈i.Frames,Lt.inR r.At)(hf:Lt.Few p 6000=true):(gJ p).length<=4194304:=by
 obtain⟨hw,hc⟩:=aeR hs hf;have h1:=sb ix (λc=>1+wW c) 20 p.Classes (λc _=>SW c)
 rw[ad3]at h1;have h2:=sb jA rN 40 p.Externs (λx hx=>MY (a x hx))
 have h3:=sb lm jZ 100 p.Funcs (λx hx=>Xv (h x hx) (hn x hx))
 have h4:=oR [103,108,111,98,97,108] (by decide) p.Globals
 have h5:(if p.SSA then Lt.lnT [[115,115,97]]else []).length<=10:=by split<;>decide
 unfold BN at hw;unfold gJ;simp only[ak1];omega
theorem ad9(h:BN p<=6000):cu p:=by
 obtain⟨⟨h1,h2⟩,_⟩:=ahY h;refine⟨h1,λf hm=>?_⟩;obtain⟨a,b,c,d,e⟩:=h2 f hm;have hf:jZ f<=6000:=by unfold BN at h;have:=oU jZ p.Funcs f hm;omega
 have g:f.Blocks.length<=6000:=by
  have:=kj fe (λb=>by unfold fe;omega) f.Blocks
  unfold jZ at hf;omega
 refine⟨a,⟨g,λb' hb=>?_⟩,⟨by omega,d⟩,b,c,d,e⟩;have h3:fe b'<=6000:=by have:=oU fe f.Blocks b' hb;unfold jZ at hf;omega
 have h4:=kj wTo (λt=>by unfold wTo;omega) b'.End.To
 unfold fe at h3;refine⟨by omega,(d b' hb).1,λx hx=>?_⟩;have h5:=oU Cv b'.Phis x hx
 have h6:=kj wIn (λt=>by unfold wIn;omega) x.Ins
 have h7:x.Ins.length<=Cv x:=by unfold Cv;omega
 omega
theorem ahR(hs:Q6 p)(h:p.ok)(a:∀e∈p.Externs,Lt.inR e.N)(hn:∀f∈p.Funcs,∀b∈f.Blocks,∀i∈b.Code,∀r∈i.Frames,Lt.inR r.At):YO p:=⟨h,a,hn,λhf=>⟨ad9 (aeR hs hf).1,VN hs h a hn hf⟩⟩
end Go.Am
end
