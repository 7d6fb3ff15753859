/-
  Part 17: AmPkRc · AmPkR · AmPkY · AmG25.
-/
import Derived.Test.YtgpedlcblhiklaaGreatDoorSo16
set_option linter.unusedSimpArgs false
set_option linter.unusedVariables false
set_option linter.unusedSectionVars false
set_option linter.unnecessarySimpa false
open Lt
open Go.IntKind (i64)
section
namespace Go.Am
open Go
def Ip(r:Lt.Read)(dst:List UInt8)(l:List (List UInt8)):Int×Lt.Read:=
 if r.ins=false then(3,r)
 else match Lt.fP dst l with
 |none=>(3,r)
 |some x=>if 1024<=r.Long then(2,r)else(0,{ r.block (fun b=>{ b with Code:=b.Code++[x] })with Where:=if x.Op=31\/x.Op=34 then 7 else 6,Long:=r.Long+1 })
def Runs:Lt.Read->List (List (List UInt8))->Lt.Read->Prop
 |r,[],a=>r=a
 |r,w::t,a=>∃r1,(∀b,aK r w b=(0,r1))/\Runs r1 t a
theorem cJ:∀{a b:List (List (List UInt8))}{r r1 r2:Lt.Read},Runs r a r1->Runs r1 b r2->Runs r (a++b) r2
 |[],b,r,r1,r2,h1,h2=>by have:r=r1:=h1;grind
 |w::t,b,r,r1,r2,⟨q,hq,h1⟩,h2=>⟨q,hq,cJ h1 h2⟩
variable{r1:Lt.Read}
theorem oO{r:Lt.Read}{w:List (List UInt8)}(h:∀b,aK r w b=(0,r1)):Runs r [w] r1:=⟨r1,h,rfl⟩
theorem eC(r:Lt.Read):Runs r [] r:=rfl
theorem sE:∀(L:List Lt.Line)(n:Int)(b:Bool)(r a:Lt.Read),Runs r (L.map fun x=>x.Words) a ->
  jN (numb n L) b r=if a.out then(a.P,0,0)else(⟨false,[],[],[],[]⟩,0,3)
 |[],n,b,r,a,h=>by have:r=a:=h;subst this;rfl
 |x::t,n,b,r,a,⟨q,hq,h⟩=>by
  rw[numb,jN];simp only[hq b,if_true];exact sE t _ _ q a h
theorem ff{r:Lt.Read}:¬ ((false,(0:Int)),r).1.1=true:=fun h=>by grind
theorem mD{r:Lt.Read}{l:List (List UInt8)}{b:Bool}(he:Lt.sEq l=false)(hs:¬ Lt.w0 l=si)(h:bG r l=((true,0),r1)):aK r l b=(0,r1):=by
 grind [aK]
theorem qv{r:Lt.Read}{l:List (List UInt8)}{b:Bool}(he:Lt.sEq l=false)(hs:¬ Lt.w0 l=si)(a:bG r l=((false,0),r))(h:cg r l=((true,0),r1)):aK r l b=(0,r1):=by
 grind [aK]
theorem so{r:Lt.Read}{l:List (List UInt8)}{b:Bool}(he:Lt.sEq l=false)(hs:¬ Lt.w0 l=si)(a:bG r l=((false,0),r))(hp:cg r l=((false,0),r))(h:bi r l=((true,0),r1)):aK r l b=(0,r1):=by
 grind [aK]
theorem RW{r:Lt.Read}{l:List (List UInt8)}{b:Bool}(hs:¬ Lt.w0 l=si)(a:bG r l=((false,0),r))(hp:cg r l=((false,0),r))(h:bi r l=((false,0),r)):aK r l b=cY r l:=by
 grind [aK]
theorem lk{r:Lt.Read}{l:List (List UInt8)}(h1:¬ Lt.w0 l=nM)(h2:¬ Lt.w0 l=lH)(h3:¬ Lt.w0 l=g9)(h4:¬ Lt.w0 l=fE)(h5:¬ Lt.w0 l=rC):bG r l=((false,0),r):=by
 grind [bG]
theorem yf{r:Lt.Read}{l:List (List UInt8)}(h1:¬ Lt.w0 l=lI)(h2:¬ Lt.w0 l=BK)(h3:¬ Lt.w0 l=nL)(h4:¬ Lt.w0 l=vQ):cg r l=((false,0),r):=by
 grind [cg]
theorem Xe{r:Lt.Read}{l:List (List UInt8)}(h1:¬ Lt.w0 l=Lt.kAt)(h2:¬ Lt.w0 l=my)(h3:¬ Lt.w0 l=lm)(h4:¬ Lt.w0 l=dz)(h5:¬ Lt.w0 l=rh)(h6:¬ Lt.w0 l=pq):bi r l=((false,0),r):=by
 grind [bi]
theorem L9{r:Lt.Read}{l:List (List UInt8)}(h:Lt.w0 l=nM):bG r l=((true,(Lt.eh r l).1),(Lt.eh r l).2):=by
 grind [bG]
theorem Ma{r:Lt.Read}{l:List (List UInt8)}(h:Lt.w0 l=lH):bG r l=((true,(fO r l).1),(fO r l).2):=by
 grind [bG]
theorem IU{r:Lt.Read}{l:List (List UInt8)}(h:Lt.w0 l=g9):bG r l=((true,(dK r l).1),(dK r l).2):=by
 grind [bG]
theorem IT{r:Lt.Read}{l:List (List UInt8)}(h:Lt.w0 l=fE):bG r l=((true,(dJ r l).1),(dJ r l).2):=by
 grind [bG]
theorem Rj{r:Lt.Read}{l:List (List UInt8)}(h:Lt.w0 l=rC):bG r l=((true,(Lt.fW r l).1),(Lt.fW r l).2):=by
 grind [bG]
theorem M7{r:Lt.Read}{l:List (List UInt8)}(h:Lt.w0 l=lI):cg r l=((true,(fQ r l).1),(fQ r l).2):=by
 grind [cg]
theorem Wy{r:Lt.Read}{l:List (List UInt8)}(h:Lt.w0 l=BK):cg r l=((true,(Lt.jA r l).1),(Lt.jA r l).2):=by
 grind [cg]
theorem M6{r:Lt.Read}{l:List (List UInt8)}(h:Lt.w0 l=nL):cg r l=((true,(Lt.dG r l).1),(Lt.dG r l).2):=by
 grind [cg]
theorem Wx{r:Lt.Read}{l:List (List UInt8)}(h:Lt.w0 l=vQ):cg r l=((true,(Lt.lQ r l).1),(Lt.lQ r l).2):=by
 grind [cg]
theorem Xd{r:Lt.Read}{l:List (List UInt8)}(hi:r.ins=true)(h:Lt.w0 l=Lt.kAt):bi r l=((true,(Lt.sAt r l).1),(Lt.sAt r l).2):=by
 grind [bi]
theorem SP{r:Lt.Read}{l:List (List UInt8)}(hi:r.ins=true)(h:Lt.w0 l=my):bi r l=((true,(Lt.lP r l).1),(Lt.lP r l).2):=by
 grind [bi]
theorem fV{w:List UInt8}(h:Lt.Name w=true):¬ w=[61]:=by rintro rfl;revert h;decide
theorem KV{a:Lt.Arg}(h:aU a=true)(ok:a.ok):¬ al a=[61]:=by
 intro e;have:=mR h ok
 rw[e]at this;have h2:(Lt.cX [61]).2=false:=by decide +kernel
 grind
theorem Vj(a b:List UInt8):Lt.sEq [a,b]=false:=rfl
variable{a:List UInt8}
theorem iR{w:List UInt8}{l:List (List UInt8)}(h:¬ w=[61]):Lt.sEq (a::w::l)=false:=by
 grind [Lt.sEq]
theorem O9(w:List UInt8):pH w=Lt.kind w:=by
 grind [pH,Lt.kind,aS]
variable{v:Lt.Var}
theorem kM{k:List UInt8}(h1:Lt.Name v.Name=true)(h2:Lt.kind v.Type_=true):ij [k,v.Name,v.Type_]=true:=by
 grind [ij,aS,O9]
variable{α:Type}
theorem mB[Inhabited α](l:List α)(x:α)(f:α->α):Lt.last (l++[x]) f=l++[f x]:=by
 grind [Lt.last]
def stP(s:Bool)(cs:List Lt.Class)(gs:List Lt.Var)(es:List Lt.Extern)(fs:List Lt.Func)(w n:Int):Lt.Read:=⟨⟨s,cs,gs,es,fs⟩,w,n⟩
def stF(p:Lt.Program)(fs:List Lt.Func)(f:Lt.Func)(w n:Int):Lt.Read:=⟨{ p with Funcs:=fs++[f] },w,n⟩
def stB(p:Lt.Program)(fs:List Lt.Func)(f:Lt.Func)(bs:List Lt.Block)(b:Lt.Block)(w n:Int):Lt.Read:=stF p fs { f with Blocks:=bs++[b] } w n
def stI(p:Lt.Program)(fs:List Lt.Func)(f:Lt.Func)(bs:List Lt.Block)(b:Lt.Block)(cs:List Lt.Instr)(x:Lt.Instr)(w n:Int):Lt.Read:=stB p fs f bs { b with Code:=cs++[x] } w n
section
variable (p:Lt.Program) (fs:List Lt.Func) (f:Lt.Func) (bs:List Lt.Block) (b:Lt.Block) (cs:List Lt.Instr) (x:Lt.Instr) (w n:Int)
theorem nC(g:Lt.Func->Lt.Func):(stF p fs f w n).func g=stF p fs (g f) w n:=by
 grind [Lt.Read.func,stF,mB]
end
section
variable (p:Lt.Program) (fs:List Lt.Func) (f:Lt.Func) (bs:List Lt.Block) (b:Lt.Block) (cs:List Lt.Instr) (x:Lt.Instr) (w n:Int)
theorem jb(g:Lt.Block->Lt.Block):(stB p fs f bs b w n).block g=stB p fs f bs (g b) w n:=by
 grind [Lt.Read.block,stB,nC,mB]
end
section
variable (p:Lt.Program) (fs:List Lt.Func) (f:Lt.Func) (bs:List Lt.Block) (b:Lt.Block) (cs:List Lt.Instr) (x:Lt.Instr) (w n:Int)
theorem tY(g:Lt.Instr->Lt.Instr):(stI p fs f bs b cs x w n).instr g=stI p fs f bs b cs (g x) w n:=by
 grind [Lt.Read.instr,stI,jb,mB]
end
section
variable (p:Lt.Program) (fs:List Lt.Func) (f:Lt.Func) (bs:List Lt.Block) (b:Lt.Block) (cs:List Lt.Instr) (x:Lt.Instr) (w n:Int)
theorem nr:(stF p fs f w n).curF=f:=by grind [Lt.Read.curF,stF]
end
section
variable (p:Lt.Program) (fs:List Lt.Func) (f:Lt.Func) (bs:List Lt.Block) (b:Lt.Block) (cs:List Lt.Instr) (x:Lt.Instr) (w n:Int)
theorem YB:(stB p fs f bs b w n).curB=b:=by
 grind [Lt.Read.curB,stB,nr]
end
section
variable (p:Lt.Program) (fs:List Lt.Func) (f:Lt.Func) (bs:List Lt.Block) (b:Lt.Block) (cs:List Lt.Instr) (x:Lt.Instr) (w n:Int)
theorem xZ:(stI p fs f bs b cs x w n).curI=x:=by
 grind [Lt.Read.curI,stI,YB]
end
variable{es:List Lt.Extern}{gs:List Lt.Var}
theorem NE{s:Bool}{cs:List Lt.Class}{fs:List Lt.Func}{w n:Int}{c:List UInt8}(ho:w<=2\/w=9)(hc:Lt.Name c=true)(hl:cs.length < 8) :
  Runs (stP s cs gs es fs w n) [[nM,c]] (stP s (cs++[⟨c,[]⟩]) gs es fs 1 n):=by
 grind [oO,mD,Vj,L9,Lt.eh,stP,aS]
theorem qV{l:List Lt.Var}{k:Int}(h:Lt.typed l k=true):∀v∈l,Lt.Name v.Name=true/\Lt.kind v.Type_=true:=by
 grind [Lt.typed]
theorem xz{s:Bool}{cs:List Lt.Class}{gs:List Lt.Var}{es:List Lt.Extern}{fs:List Lt.Func}{n:Int}:∀(l:List Lt.Var)(c:Lt.Class),(∀v∈l,Lt.Name v.Name=true/\Lt.kind v.Type_=true)->c.Fields.length+l.length<=8 ->
  Runs (stP s (cs++[c]) gs es fs 1 n) (l.map fun v=>[lH,v.Name,v.Type_]) (stP s (cs++[{ c with Fields:=c.Fields++l }]) gs es fs 1 n)
 |[],c,_,_=>by simpa using eC _
 |v::l,c,h,hl=>by
  obtain⟨h1,h2⟩:=h v (by simp);have a:c.Fields.length+(l.length+1)<=8:=hl
  have ih:=xz (s:=s) (cs:=cs) (gs:=gs) (es:=es) (fs:=fs) (n:=n) l { c with Fields:=c.Fields++[v] } (fun x hx=>h x (by grind)) (by grind)
  refine⟨stP s (cs++[{ c with Fields:=c.Fields++[v] }]) gs es fs 1 n,fun b=>mD (iR (fV h1)) (by grind) ?_,by grind⟩;refine(Ma rfl).trans ?_;have:fO (stP s (cs++[c]) gs es fs 1 n) [lH,v.Name,v.Type_]=(0,stP s (cs++[{ c with Fields:=c.Fields++[v] }]) gs es fs 1 n):=by
   unfold fO;rw[kM h1 h2];have e:(stP s (cs++[c]) gs es fs 1 n).P.Classes=cs++[c]:=rfl
   rw[e,vK,mB,if_neg (by show ¬ (decide ((1:Int)=1)&&true)=false;decide),if_neg kQ1];rfl
  grind
theorem xy{s:Bool}{gs:List Lt.Var}{es:List Lt.Extern}{fs:List Lt.Func}{n:Int}:∀(l cs:List Lt.Class)(w:Int),(w<=2\/w=9)->(∀c∈l,bF c=true)->cs.length+l.length<=8 ->
  ∃w',(w'<=2\/w'=9)/\Runs (stP s cs gs es fs w n) ((l.flatMap dO).map fun x=>x.Words) (stP s (cs++l) gs es fs w' n)
 |[],cs,w,hw,_,_=>⟨w,hw,by grind [eC]⟩
 |c::l,cs,w,hw,h,hl=>by
  have hc:=h c (by simp)
  unfold bF at hc;simp only[afZ]at hc;have hf:=jr (k:=8) hc.2
  have g:cs.length+(l.length+1)<=8:=hl
  obtain⟨w',d,ih⟩:=xy (s:=s) (gs:=gs) (es:=es) (fs:=fs) (n:=n) l (cs++[c]) 1 kQ1 (fun x hx=>h x (by grind)) (by grind);refine⟨w',d,?_⟩;have a:=NE (s:=s) (gs:=gs) (es:=es) (fs:=fs) (n:=n) (cs:=cs) hw hc.1 kQ1
  have b:=xz (s:=s) (cs:=cs) (gs:=gs) (es:=es) (fs:=fs) (n:=n) c.Fields ⟨c.Name,[]⟩ (qV hc.2) (by grind)
  simp only[agZ]at b;have e:((c::l).flatMap dO).map (fun x=>x.Words)=([[nM,c.Name]]++c.Fields.map fun v=>[lH,v.Name,v.Type_])++(l.flatMap dO).map fun x=>x.Words:=by
   simp_all[dO,Lt.ln,fL]
  rw[e];have f:Runs (stP s (cs++[c]) gs es fs 1 n) ((l.flatMap dO).map fun x=>x.Words) (stP s (cs++c::l) gs es fs w' n):=by grind
  exact cJ (cJ a b) f
theorem uL{s:Bool}{cs:List Lt.Class}{es:List Lt.Extern}{fs:List Lt.Func}{n:Int}:∀(l gs:List Lt.Var)(w:Int),(w<=2\/w=9)->(∀v∈l,Lt.Name v.Name=true/\Lt.kind v.Type_=true)->gs.length+l.length<=8 ->
  ∃w',(w'<=2\/w'=9)/\Runs (stP s cs gs es fs w n) (l.map fun v=>[g9,v.Name,v.Type_]) (stP s cs (gs++l) es fs w' n)
 |[],gs,w,hw,_,_=>⟨w,hw,by grind [eC]⟩
 |v::l,gs,w,hw,h,hl=>by
  obtain⟨h1,h2⟩:=h v (by simp);have c:gs.length+(l.length+1)<=8:=hl
  obtain⟨w',a,ih⟩:=uL (s:=s) (cs:=cs) (es:=es) (fs:=fs) (n:=n) l (gs++[v]) 2 kQ1 (fun x hx=>h x (by grind)) (by grind);refine⟨w',a,stP s cs (gs++[v]) es fs 2 n,fun b=>mD (iR (fV h1)) (by grind) ?_,by grind⟩;refine(IU rfl).trans ?_;have:dK (stP s cs gs es fs w n) [g9,v.Name,v.Type_]=(0,stP s cs (gs++[v]) es fs 2 n):=by
   unfold dK;rw[kM h1 h2];have ho:(Lt.Read.out (stP s cs gs es fs w n)&&true)=true:=by
    show((decide (w<=2)||decide (w=9))&&true)=true
    grind
   rw[ho,if_neg (by decide),if_neg (by show ¬ 8<=gs.length;omega)];rfl
  grind
theorem uK{s:Bool}{cs:List Lt.Class}{gs:List Lt.Var}{fs:List Lt.Func}{n:Int}:∀(l es:List Lt.Extern)(w:Int),(w<=2\/w=9)->(∀x∈l,bW x=true)->es.length+l.length<=8 ->
  ∃w',(w'<=2\/w'=9)/\Runs (stP s cs gs es fs w n) (l.map fun x=>[fE,x.Name,aB x.N]) (stP s cs gs (es++l) fs w' n)
 |[],es,w,hw,_,_=>⟨w,hw,by grind [eC]⟩
 |v::l,es,w,hw,h,hl=>by
  have hv:=h v (by simp)
  unfold bW at hv;simp only[afZ,decide_eq_true_eq]at hv;obtain⟨⟨h1,h2⟩,h3⟩:=hv;have c:es.length+(l.length+1)<=8:=hl
  obtain⟨w',a,ih⟩:=uK (s:=s) (cs:=cs) (gs:=gs) (fs:=fs) (n:=n) l (es++[v]) 2 kQ1 (fun x hx=>h x (by grind)) (by grind);refine⟨w',a,stP s cs gs (es++[v]) fs 2 n,fun b=>mD (iR (fV h1)) (by grind) ?_,by grind⟩;refine(IT rfl).trans ?_;have:dJ (stP s cs gs es fs w n) [fE,v.Name,aB v.N]=(0,stP s cs gs (es++[v]) fs 2 n):=by
   unfold dJ;have en:bq (Lt.w2 [fE,v.Name,aB v.N])=(v.N,true):=jo (by grind [Lt.inR])
   have d:Lt.w1 [fE,v.Name,aB v.N]=v.Name:=rfl
   rw[en,d,aS,h1];have ho:(Lt.Read.out (stP s cs gs es fs w n)&&decide (List.length [fE,v.Name,aB v.N]=3)&&true&&((v.N,true).2&&decide (0<=(v.N,true).1)&&decide ((v.N,true).1<=8)))=true:=by
    show((decide (w<=2)||decide (w=9))&&true&&true&&(true&&decide (0<=v.N)&&decide (v.N<=8)))=true
    grind
   rw[ho,if_neg (by decide),if_neg (by show ¬ 8<=es.length;omega)];rfl
  grind
theorem SR{p:Lt.Program}{fs:List Lt.Func}{w n:Int}{t:List UInt8}(ho:w<=2\/w=9)(h1:Lt.Name a=true)(h2:Lt.kind t=true)(hl:fs.length < 8) :
  Runs ⟨{ p with Funcs:=fs },w,n⟩ [[rC,a,t]] (stF p fs ⟨a,t,[],[],[]⟩ 3 0):=by
 refine oO fun b=>mD (iR (fV h1)) (by grind) ?_
 refine(Rj rfl).trans ?_;have:Lt.fW ⟨{ p with Funcs:=fs },w,n⟩ [rC,a,t]=(0,stF p fs ⟨a,t,[],[],[]⟩ 3 0):=by
  unfold Lt.fW;rw[kM (v:=⟨a,t⟩) h1 h2];have ho:(Lt.Read.out ⟨{ p with Funcs:=fs },w,n⟩&&true)=true:=by
   grind
  rw[ho,if_neg (by decide),if_neg (by grind)];rfl
 grind
theorem xC{p:Lt.Program}{fs:List Lt.Func}{n:Int}:∀(l:List Lt.Var)(f:Lt.Func),(∀v∈l,Lt.Name v.Name=true/\Lt.kind v.Type_=true)->f.Params.length+l.length<=6 ->
  Runs (stF p fs f 3 n) (l.map fun v=>[lI,v.Name,v.Type_]) (stF p fs { f with Params:=f.Params++l } 3 n)
 |[],f,_,_=>by simpa using eC _
 |v::l,f,h,hl=>by
  obtain⟨h1,h2⟩:=h v (by simp);have a:f.Params.length+(l.length+1)<=6:=hl
  have ih:=xC (p:=p) (fs:=fs) (n:=n) l { f with Params:=f.Params++[v] } (fun x hx=>h x (by grind)) (by grind)
  refine⟨stF p fs { f with Params:=f.Params++[v] } 3 n,fun b=>qv (iR (fV h1)) (by grind) (lk (by grind) (by grind) (by grind) (by grind) (by grind)) ?_,by grind⟩;refine(M7 rfl).trans ?_;have:fQ (stF p fs f 3 n) [lI,v.Name,v.Type_]=(0,stF p fs { f with Params:=f.Params++[v] } 3 n):=by
   unfold fQ;rw[kM h1 h2,nr,nC,if_neg (by show ¬ (decide ((3:Int)=3)&&true)=false;decide),if_neg kQ1];rfl
  grind
theorem DO{p:Lt.Program}{fs:List Lt.Func}{n:Int}:∀(l:List Lt.Var)(f:Lt.Func)(w:Int),(w=3\/w=4)->(∀v∈l,Lt.Name v.Name=true/\Lt.kind v.Type_=true)->f.Vars.length+l.length<=1024 ->
  ∃w',(w'=3\/w'=4)/\Runs (stF p fs f w n) (l.map fun v=>[BK,v.Name,v.Type_]) (stF p fs { f with Vars:=f.Vars++l } w' n)
 |[],f,w,hw,_,_=>⟨w,hw,by simpa using eC _⟩
 |v::l,f,w,hw,h,hl=>by
  obtain⟨h1,h2⟩:=h v (by simp);have c:f.Vars.length+(l.length+1)<=1024:=hl
  obtain⟨w',a,ih⟩:=DO (p:=p) (fs:=fs) (n:=n) l { f with Vars:=f.Vars++[v] } 4 (.inr rfl) (fun x hx=>h x (by grind)) (by grind);refine⟨w',a,stF p fs { f with Vars:=f.Vars++[v] } 4 n,fun b=>qv (iR (fV h1)) (by grind) (lk (by grind) (by grind) (by grind) (by grind) (by grind)) ?_,by grind⟩;refine(Wy rfl).trans ?_;have:Lt.jA (stF p fs f w n) [BK,v.Name,v.Type_]=(0,stF p fs { f with Vars:=f.Vars++[v] } 4 n):=by
   unfold Lt.jA;have ho:((decide ((stF p fs f w n).Where=3)||decide ((stF p fs f w n).Where=4))&&true)=true:=by
    show((decide (w=3)||decide (w=4))&&true)=true
    grind
   rw[kM h1 h2,nr,nC,ho,if_neg (by decide),if_neg kQ1];rfl
  grind
theorem NC{p:Lt.Program}{fs:List Lt.Func}{f:Lt.Func}{w n:Int}(hw:w=3\/w=4\/w=9)(h1:Lt.Name a=true)(hl:f.Blocks.length < 256) :
  Runs (stF p fs f w n) [[nL,a]] (stB p fs f f.Blocks ⟨a,[],[],⟨0,⟨0,[],0⟩,[],0⟩⟩ 5 n):=by
 refine oO fun b=>qv (Vj _ _) (by grind) (lk (by grind) (by grind) (by grind) (by grind) (by grind)) ?_
 grind [M6,Lt.dG,stF,stB,aS,nr,nC]
theorem M8{x:Lt.Phi}(h:Lt.phi x=true)(ok:x.ok):bQ (wd x) 2 false=(x.Ins.map fun i=>⟨i.Block,i.A⟩,true):=by
 obtain⟨_,_,_,h4⟩:=AK h;unfold bQ wd;have a:=sD (objs:=false) (l:=x.Ins.map fun i=>⟨i.Block,i.A⟩) (by
  intro b hb;obtain⟨i,hi,rfl⟩:=agL.1 hb;have:=h4 i hi
  unfold ll at this;simp only[afZ]at this;exact⟨this.1,this.2,ok.2 i hi⟩)
 grind [List.flatMap_map]
theorem Ur(l:List Lt.In):(l.map fun i=>(⟨i.Block,i.A⟩:Lt.Bind)).map (fun x=>(⟨x.Name,x.A⟩:Lt.In))=l:=by
 rw[ag6];exact List.map_id _
theorem DN{p:Lt.Program}{fs:List Lt.Func}{f:Lt.Func}{bs:List Lt.Block}:∀(l:List Lt.Phi)(b:Lt.Block)(n:Nat),(∀x∈l,Lt.phi x=true/\x.ok)->n+l.length<=1024 ->
  Runs (stB p fs f bs b 5 n) (l.map wd) (stB p fs f bs { b with Phis:=b.Phis++l } 5 ((n+l.length:Nat):Int))
 |[],b,n,_,_=>by simpa using eC _
 |x::l,b,n,h,hl=>by
  obtain⟨h1,a⟩:=h x (by simp);obtain⟨hd,g,d,_⟩:=AK h1;have j:n+(l.length+1)<=1024:=hl
  have ih:=DN (p:=p) (fs:=fs) (f:=f) (bs:=bs) l { b with Phis:=b.Phis++[x] } (n+1) (fun y hy=>h y (by grind)) kQ1
  have e:n+1+l.length=n+(x::l).length:=by grind
  rw[e]at ih;refine⟨stB p fs f bs { b with Phis:=b.Phis++[x] } 5 ((n+1:Nat):Int),fun c=>qv (iR (fV hd)) (by show ¬ vQ=si;decide) (lk (by show ¬ vQ=_;decide) (by show ¬ vQ=_;decide) (by show ¬ vQ=_;decide) (by show ¬ vQ=_;decide) (by show ¬ vQ=_;decide)) ?_,by grind⟩;refine(Wx rfl).trans ?_;have:Lt.lQ (stB p fs f bs b 5 n) (wd x)=(0,stB p fs f bs { b with Phis:=b.Phis++[x] } 5 ((n+1:Nat):Int)):=by
   unfold Lt.lQ;rw[M8 h1 a,aS];have ho:(decide ((stB p fs f bs b 5 (n:Int)).Where=5)&&((x.Ins.map fun i=>(⟨i.Block,i.A⟩:Lt.Bind)),true).2&&!decide ((((x.Ins.map fun i=>(⟨i.Block,i.A⟩:Lt.Bind)),true)).1.length=0)&&Lt.Name (Lt.w1 (wd x)))=true:=by
    show(true&&true&&!decide ((x.Ins.map fun i=>(⟨i.Block,i.A⟩:Lt.Bind)).length=0)&&Lt.Name x.Dst)=true
    grind
   rw[ho,if_neg (by decide),if_neg (by
    show ¬ (256 < (x.Ins.map fun i=>(⟨i.Block,i.A⟩:Lt.Bind)).length\/1024<=(n:Int))
    grind),jb]
   simp only[Ur];rfl
  grind
def dZ(i:Lt.Instr):List (List UInt8):=
 (Lt.Of i.Op).1.Word::(if i.Op=26\/i.Op=27 then(Lt.puts i.Args).getD 0 default::i.Name::(Lt.puts i.Args).drop 1 else(if(Lt.Of i.Op).1.Named then [i.Name]else [])++Lt.puts i.Args)
theorem Xx(i:Lt.Instr):Lt.words i=(if(Lt.Of i.Op).1.Dst then [i.Dst,[61]]else [])++dZ i:=by
 grind [Lt.words,dZ]
theorem bare(i:Lt.Instr)(h:Lt.instr i=true)(ok:i.ok):Lt.fP i.Dst (dZ i)=some { i with Frames:=[],Objs:=[] }:=by
 have ho:=eD h
 obtain⟨_,l,e,d,f,c⟩:=pG i.Op;have hop:=ZK ho.of
 have j:=DH ho.aok ok.1
 unfold Lt.fP;have b:Lt.w0 (dZ i)=(Lt.Of i.Op).1.Word:=rfl
 rw[b,hop];simp only[e,d,f,c,aS];have g:((Lt.Of i.Op).1.Dst==!decide (i.Dst=[]))=true:=by rw[ho.dst];simp
 rw[g,if_neg (by decide)];have hr:Kr i.Op (dZ i)=some (i.Name,Lt.puts i.Args):=by
  unfold Kr;by_cases hc:i.Op=26\/i.Op=27
  ·have hl:=ho.least hc
   rw[if_pos hc];unfold dZ;rw[if_pos hc];cases k:i.Args with
   |nil=>grind
   |cons a r=>rfl
  grind [dZ,InstrOk.nm]
 grind [InstrOk.nmN,InstrOk.lo,InstrOk.hi]
theorem ac1{op:Int}(h:(Lt.Of op).2=true)(hd:(Lt.Of op).1.Dst=false):op=27\/op=30\/op=33\/op=34:=by
 by_cases hc:1<=op/\op<=34
 ·grind [Lt.Of]
 exfalso
 rw[<- (pG op).1]at h
 grind [Lt.rOf]
variable{objs:Bool}
theorem WN{l:List Lt.Arg}(h:bE l objs=true)(ok:rR l):∀w∈Lt.puts l,¬ w=[61]:=by
 intro w hw;obtain⟨a,b,rfl⟩:=agL.1 hw;unfold bE at h;have:=agH.1 h a b
 unfold bb at this;simp only[afZ]at this;exact KV this.1 (ok a b)
variable{i:Lt.Instr}
theorem acH(h:Lt.instr i=true)(ok:i.ok):Lt.sEq (dZ i)=false:=by
 have ho:=eD h
 have hp:=WN ho.aok ok.1
 grind [dZ,InstrOk.least,Lt.puts,fV,InstrOk.nmN,Lt.sEq]
theorem SQ{p:Lt.Program}{fs:List Lt.Func}{f:Lt.Func}{bs:List Lt.Block}{b:Lt.Block}{w:Int}{n:Nat}(hw:5<=w/\w<=8)(h:Lt.instr i=true)(ok:i.ok)(hl:n+1<=1024) :
  Runs (stB p fs f bs b w n) [Lt.words i] (stI p fs f bs b b.Code { i with Frames:=[],Objs:=[] } (if i.Op=31\/i.Op=34 then 7 else 6) ((n+1:Nat):Int)):=by
 have ho:=eD h
 have hb:=bare i h ok
 have a:(stB p fs f bs b w (n:Int)).ins=true:=by
  show(decide (5<=w)&&decide (w<=8))=true
  grind
 refine oO fun c=>?_
 rw[Xx];cases hd:(Lt.Of i.Op).1.Dst with
 |true=>
  rw[if_pos rfl];have hN:=ho.dstN hd
  have he:Lt.sEq ([i.Dst,[61]]++dZ i)=true:=by
   rfl
  unfold aK;rw[he,if_pos rfl];unfold cY;have e0:Lt.w0 ([i.Dst,[61]]++dZ i)=i.Dst:=rfl
  have g:([i.Dst,[61]]++dZ i).drop 2=dZ i:=rfl
  rw[he,e0,aS,hN,a,if_neg (by decide),if_neg (by decide),if_pos rfl,if_pos rfl,g,hb];simp only
  rw[if_neg (by show ¬ (1024:Int)<=(n:Int);omega),jb];rfl
 |false=>
  rw[if_neg (by decide),agZ];have he:=acH h ok
  have d:i.Dst=[]:=by grind [InstrOk.dst]
  have e0:Lt.w0 (dZ i)=(Lt.Of i.Op).1.Word:=rfl
  have hk:∀k∈[si,nM,lH,g9,fE,rC,lI,BK,nL,vQ,Lt.kAt,my,lm,dz,rh,pq],¬ Lt.w0 (dZ i)=k:=by
   rw[e0];rcases ac1 ho.of hd with e|e|e|e<;>rw[e]<;>decide +kernel
  rw[RW (hk _ (by simp)) (lk (hk _ (by simp)) (hk _ (by simp)) (hk _ (by simp)) (hk _ (by simp)) (hk _ (by simp))) (yf (hk _ (by simp)) (hk _ (by simp)) (hk _ (by simp)) (hk _ (by simp))) (Xe (hk _ (by simp)) (hk _ (by simp)) (hk _ (by simp)) (hk _ (by simp)) (hk _ (by simp)) (hk _ (by simp)))];unfold cY;rw[he,a,Bool.false_and,if_neg (by decide),if_neg (by decide),if_neg (by decide),if_neg (by decide)];rw[d]at hb;rw[hb];simp only
  rw[if_neg (by show ¬ (1024:Int)<=(n:Int);omega),jb];simp only[d];rfl
theorem II{x:Lt.Frame}(h:Lt.frame x=true)(ok:x.ok):bQ (gr x) 4 true=(x.Vars,true):=by
 obtain⟨_,_,_,_,_,h4⟩:=pb h;unfold bQ gr;have a:=sD (objs:=true) (l:=x.Vars) (by
  intro b hb;have:=h4 b hb
  unfold gF at this;simp only[afZ]at this;exact⟨this.1,this.2,ok.2 b hb⟩)
 grind
theorem xA{p:Lt.Program}{fs:List Lt.Func}{f:Lt.Func}{bs:List Lt.Block}{b:Lt.Block}{cs:List Lt.Instr}{n:Int}:∀(l:List Lt.Frame)(i:Lt.Instr),(∀x∈l,Lt.frame x=true/\x.ok)->i.Frames.length+l.length<=16 ->
  Runs (stI p fs f bs b cs i 7 n) (l.map gr) (stI p fs f bs b cs { i with Frames:=i.Frames++l } 7 n)
 |[],i,_,_=>by simpa using eC _
 |x::l,i,h,hl=>by
  obtain⟨h1,a⟩:=h x (by simp);obtain⟨hf,hb,g,e,d,_⟩:=pb h1;have k:i.Frames.length+(l.length+1)<=16:=hl
  have ih:=xA (p:=p) (fs:=fs) (f:=f) (bs:=bs) (b:=b) (cs:=cs) (n:=n) l { i with Frames:=i.Frames++[x] } (fun y hy=>h y (by grind)) (by grind)
  refine⟨stI p fs f bs b cs { i with Frames:=i.Frames++[x] } 7 n,fun c=>so (iR (fV hf)) (by show ¬ Lt.kAt=si;decide) (lk (by show ¬ Lt.kAt=_;decide) (by show ¬ Lt.kAt=_;decide) (by show ¬ Lt.kAt=_;decide) (by show ¬ Lt.kAt=_;decide) (by show ¬ Lt.kAt=_;decide)) (yf (by show ¬ Lt.kAt=_;decide) (by show ¬ Lt.kAt=_;decide) (by show ¬ Lt.kAt=_;decide) (by show ¬ Lt.kAt=_;decide)) ?_,by grind⟩;refine(Xd (by rfl) rfl).trans ?_;have:Lt.sAt (stI p fs f bs b cs i 7 n) (gr x)=(0,stI p fs f bs b cs { i with Frames:=i.Frames++[x] } 7 n):=by
   unfold Lt.sAt;have en:bq (Lt.w3 (gr x))=(x.At,true):=jo (by grind [Lt.inR])
   have j:Lt.w1 (gr x)=x.Func:=rfl
   have m:Lt.w2 (gr x)=x.Block:=rfl
   rw[II h1 a,aS,aS,en,j,m,hf,hb,xZ,tY];have ho:(decide ((stI p fs f bs b cs i 7 n).Where=7)&&(x.Vars,true).2&&true&&true&&((x.At,true).2&&decide (0<=(x.At,true).1)&&decide ((x.At,true).1<=1024)))=true:=by
    show(true&&true&&true&&true&&(true&&decide (0<=x.At)&&decide (x.At<=1024)))=true
    grind
   rw[ho,if_neg (by decide),if_neg (by grind)]
  grind
theorem DM{p:Lt.Program}{fs:List Lt.Func}{f:Lt.Func}{bs:List Lt.Block}{b:Lt.Block}{cs:List Lt.Instr}{n:Int}:∀(l:List Lt.Virt)(i:Lt.Instr)(w:Int),(w=7\/w=8)->(∀x∈l,Lt.virt x=true/\x.ok)->i.Objs.length+l.length<=99 ->
  ∃w',(w'=7\/w'=8)/\Runs (stI p fs f bs b cs i w n) (l.map mW) (stI p fs f bs b cs { i with Objs:=i.Objs++l } w' n)
 |[],i,w,hw,_,_=>⟨w,hw,by simpa using eC _⟩
 |x::l,i,w,hw,h,hl=>by
  obtain⟨h1,e⟩:=h x (by simp);obtain⟨hc,h8,hv⟩:=yn h1;have k:i.Objs.length+(l.length+1)<=99:=hl
  obtain⟨w',d,ih⟩:=DM (p:=p) (fs:=fs) (f:=f) (bs:=bs) (b:=b) (cs:=cs) (n:=n) l { i with Objs:=i.Objs++[x] } 8 (.inr rfl) (fun y hy=>h y (by grind)) (by grind);refine⟨w',d,stI p fs f bs b cs { i with Objs:=i.Objs++[x] } 8 n,fun c=>so (iR (fV hc)) (by show ¬ my=si;decide) (lk (by show ¬ my=_;decide) (by show ¬ my=_;decide) (by show ¬ my=_;decide) (by show ¬ my=_;decide) (by show ¬ my=_;decide)) (yf (by show ¬ my=_;decide) (by show ¬ my=_;decide) (by show ¬ my=_;decide) (by show ¬ my=_;decide)) ?_,by grind⟩;have a:(stI p fs f bs b cs i w n).ins=true:=by
   show(decide (5<=w)&&decide (w<=8))=true
   grind
  refine(SP a rfl).trans ?_;have:Lt.lP (stI p fs f bs b cs i w n) (mW x)=(0,stI p fs f bs b cs { i with Objs:=i.Objs++[x] } 8 n):=by
   unfold Lt.lP;have g:(mW x).drop 2=Lt.puts x.Vals:=rfl
   have j:Lt.w1 (mW x)=x.Class:=rfl
   have el:(mW x).length=x.Vals.length+2:=by simp[mW,Lt.puts]
   rw[g,DH hv e,aS,j,hc,xZ,tY,el];have ho:(decide (7<=(stI p fs f bs b cs i w n).Where)&&decide (2<=x.Vals.length+2)&&decide (x.Vals.length+2<=10)&&true&&(x.Vals,true).2)=true:=by
    show(decide (7<=w)&&decide (2<=x.Vals.length+2)&&decide (x.Vals.length+2<=10)&&true&&true)=true
    grind
   rw[ho,if_neg (by decide),if_neg kQ1];rfl
  grind
theorem KB{p:Lt.Program}{fs:List Lt.Func}{f:Lt.Func}{bs:List Lt.Block}{b:Lt.Block}{w:Int}{n:Nat}(hw:5<=w/\w<=8)(h:Lt.instr i=true)(ok:i.ok)(hl:n+1<=1024) :
  ∃w',(5<=w'/\w'<=8)/\Runs (stB p fs f bs b w n) ((gJ i).map fun x=>x.Words) (stB p fs f bs { b with Code:=b.Code++[i] } w' ((n+1:Nat):Int)):=by
 have ho:=eD h
 have a:=SQ (p:=p) (fs:=fs) (f:=f) (bs:=bs) (b:=b) hw h ok hl
 have e:(gJ i).map (fun x=>x.Words)=[Lt.words i]++(i.Frames.map gr++i.Objs.map mW):=by
  simp[gJ,Lt.ln,Function.comp_def]
 rw[e];by_cases hc:i.Op=31\/i.Op=34
 ·rw[if_pos hc]at a;have b1:=xA (p:=p) (fs:=fs) (f:=f) (bs:=bs) (b:=b) (cs:=b.Code) (n:=((n+1:Nat):Int)) i.Frames { i with Frames:=[],Objs:=[] } (fun x hx=>⟨ho.fr x hx,ok.2.1 x hx⟩) (by simpa using ho.frames)
  obtain⟨w',j,b2⟩:=DM (p:=p) (fs:=fs) (f:=f) (bs:=bs) (b:=b) (cs:=b.Code) (n:=((n+1:Nat):Int)) i.Objs { i with Objs:=[] } 7 (.inl rfl) (fun x hx=>⟨ho.ob x hx,ok.2.2 x hx⟩) (by simpa using ho.objs);simp only[agZ]at b1 b2;exact⟨w',by omega,cJ a (cJ b1 b2)⟩
 rw[if_neg hc]at a;obtain⟨c,d⟩:=ho.none kQ1;refine⟨6,by omega,?_⟩;have g:({ i with Frames:=[],Objs:=[] }:Lt.Instr)=i:=by
  rw[<- c,<- d]
 rw[g]at a;rw[c,d];exact a
theorem Bk{p:Lt.Program}{fs:List Lt.Func}{f:Lt.Func}{bs:List Lt.Block}:∀(l:List Lt.Instr)(b:Lt.Block)(w:Int)(n:Nat),(5<=w/\w<=8)->(∀i∈l,Lt.instr i=true/\i.ok)->n+l.length<=1024 ->
  ∃w',(5<=w'/\w'<=8)/\Runs (stB p fs f bs b w n) ((l.flatMap gJ).map fun x=>x.Words) (stB p fs f bs { b with Code:=b.Code++l } w' ((n+l.length:Nat):Int))
 |[],b,w,n,hw,_,_=>⟨w,hw,by simpa using eC _⟩
 |i::l,b,w,n,hw,h,hl=>by
  obtain⟨h1,c⟩:=h i (by simp);have g:n+(l.length+1)<=1024:=hl
  obtain⟨w1,hw1,a⟩:=KB (p:=p) (fs:=fs) (f:=f) (bs:=bs) (b:=b) hw h1 c (n:=n) kQ1;obtain⟨w2,d,ih⟩:=Bk (p:=p) (fs:=fs) (f:=f) (bs:=bs) l { b with Code:=b.Code++[i] } w1 (n+1) hw1 (fun y hy=>h y (by grind)) kQ1;have e:n+1+l.length=n+(i::l).length:=by grind
  rw[e]at ih
  grind [cJ]
variable{t:Lt.Term}
theorem Xj(h:dp t=true)(ok:t.ok):kJ (gW t)=some t:=by
 rcases qj h with⟨x,rfl,h1⟩|⟨a,x,y,rfl,h1,h2,h3⟩|⟨a,rfl,h1⟩|⟨n,rfl⟩
 ·grind [gW,kJ,aS]
 ·have e:gW ⟨2,a,[x,y],0⟩=[dz,al a,x,y]:=by rfl
  have b:Lt.cX (al a)=(a,true):=mR (by grind [bb]) ok.1
  rw[e];unfold kJ;rw[if_neg (by grind),if_pos (show Lt.w0 [dz,al a,x,y]=dz from rfl),aS,aS,if_pos (by
   show(true&&(Lt.Name x&&Lt.Name y)&&eQ false (al a))=true
   rw[h2,h3,qd h1 ok.1];rfl)]
  grind [al]
 ·have e:gW ⟨3,a,[],0⟩=[rh,al a]:=by rfl
  have b:Lt.cX (al a)=(a,true):=mR (by grind [bb]) ok.1
  rw[e];unfold kJ;rw[if_neg (by grind),if_neg (by grind),if_pos (show Lt.w0 [rh,al a]=rh from rfl),if_pos (by
   show(true&&eQ false (al a))=true
   rw[qd h1 ok.1];rfl)]
  grind
 have e:gW ⟨4,⟨0,[],0⟩,[],n⟩=[pq,aB n]:=by rfl
 have b:bq (aB n)=(n,true):=jo ok.2
 grind [kJ]
theorem Xf{p:Lt.Program}{fs:List Lt.Func}{f:Lt.Func}{bs:List Lt.Block}{b:Lt.Block}{w n:Int}(hw:5<=w/\w<=8)(h:dp t=true)(ok:t.ok) :
  Runs (stB p fs f bs b w n) [gW t] (stB p fs f bs { b with End:=t } 9 n):=by
 have d:(stB p fs f bs b w n).ins=true:=by
  show(decide (5<=w)&&decide (w<=8))=true
  grind
 have key:uF (stB p fs f bs b w n) (gW t)=(0,stB p fs f bs { b with End:=t } 9 n):=by
  unfold uF;rw[Xj h ok];simp only[jb];rfl
 have hk:Lt.sEq (gW t)=false/\(Lt.w0 (gW t)=lm\/Lt.w0 (gW t)=dz\/Lt.w0 (gW t)=rh\/Lt.w0 (gW t)=pq):=by
  rcases qj h with⟨x,rfl,h1⟩|⟨a,x,y,rfl,h1,h2,h3⟩|⟨a,rfl,h1⟩|⟨n,rfl⟩
  ·exact⟨rfl,.inl rfl⟩
  ·have e:gW ⟨2,a,[x,y],0⟩=[dz,al a,x,y]:=by rfl
   rw[e];unfold bb at h1;simp only[afZ]at h1;exact⟨iR (KV h1.1 ok.1),.inr (.inl rfl)⟩
  ·have e:gW ⟨3,a,[],0⟩=[rh,al a]:=by rfl
   rw[e];exact⟨rfl,.inr (.inr (.inl rfl))⟩
  have e:gW ⟨4,⟨0,[],0⟩,[],n⟩=[pq,aB n]:=by rfl
  rw[e];exact⟨rfl,.inr (.inr (.inr rfl))⟩
 obtain⟨he,hk⟩:=hk;have hn:∀k∈[si,nM,lH,g9,fE,rC,lI,BK,nL,vQ,Lt.kAt,my],¬ Lt.w0 (gW t)=k:=by
  rcases hk with e|e|e|e<;>rw[e]<;>decide
 refine oO fun c=>so he (hn _ (by simp)) (lk (hn _ (by simp)) (hn _ (by simp)) (hn _ (by simp)) (hn _ (by simp)) (hn _ (by simp))) (yf (hn _ (by simp)) (hn _ (by simp)) (hn _ (by simp)) (hn _ (by simp))) ?_
 grind [bi]
theorem KA{p:Lt.Program}{fs:List Lt.Func}{f:Lt.Func}{w:Int}{n:Nat}{b:Lt.Block}(hw:w=3\/w=4\/w=9)(h:Lt.block b=true)(ok:b.ok)(hb:f.Blocks.length < 256)(hl:n+(b.Phis.length+b.Code.length)<=1024) :
  Runs (stF p fs f w n) ((dN b).map fun x=>x.Words) (stF p fs { f with Blocks:=f.Blocks++[b] } 9 ((n+(b.Phis.length+b.Code.length):Nat):Int)):=by
 obtain⟨hn,he,hp,hc⟩:=me h;obtain⟨o1,o2,o3⟩:=ok;have d:=NC (p:=p) (fs:=fs) (f:=f) (n:=(n:Int)) hw hn hb
 have c:=DN (p:=p) (fs:=fs) (f:=f) (bs:=f.Blocks) b.Phis ⟨b.Name,[],[],⟨0,⟨0,[],0⟩,[],0⟩⟩ n (fun x hx=>⟨hp x hx,o1 x hx⟩) kQ1
 simp only[agZ]at c;obtain⟨w',a,a3⟩:=Bk (p:=p) (fs:=fs) (f:=f) (bs:=f.Blocks) b.Code ⟨b.Name,b.Phis,[],⟨0,⟨0,[],0⟩,[],0⟩⟩ 5 (n+b.Phis.length) kQ1 (fun x hx=>⟨hc x hx,o2 x hx⟩) kQ1;simp only[agZ]at a3;have a4:=Xf (p:=p) (fs:=fs) (f:=f) (bs:=f.Blocks) (b:=⟨b.Name,b.Phis,b.Code,⟨0,⟨0,[],0⟩,[],0⟩⟩) (n:=((n+b.Phis.length+b.Code.length:Nat):Int)) a he o3
 have e:(dN b).map (fun x=>x.Words)=[[nL,b.Name]]++(b.Phis.map wd++((b.Code.flatMap gJ).map (fun x=>x.Words)++[gW b.End])):=by
  simp_all[dN,Lt.ln]
 rw[e,<- Nat.add_assoc];exact cJ d (cJ c (cJ a3 a4))
theorem uJ{p:Lt.Program}{fs:List Lt.Func}:∀(l:List Lt.Block)(f:Lt.Func)(w:Int)(n:Nat),(w=3\/w=4\/w=9)->(∀b∈l,Lt.block b=true/\b.ok)->f.Blocks.length+l.length<=256->n+longs l<=1024 ->
  Runs (stF p fs f w n) ((l.flatMap dN).map fun x=>x.Words) (stF p fs { f with Blocks:=f.Blocks++l } (if l=[]then w else 9) ((n+longs l:Nat):Int))
 |[],f,w,n,_,_,_,_=>by simp_all[longs,eC]
 |b::l,f,w,n,hw,h,hb,hl=>by
  obtain⟨h1,c⟩:=h b (by simp);have d:f.Blocks.length+(l.length+1)<=256:=hb
  have el:longs (b::l)=(b.Phis.length+b.Code.length)+longs l:=by rfl
  rw[el]at hl⊢;have a:=KA (p:=p) (fs:=fs) (f:=f) hw h1 c kQ1 (n:=n) kQ1
  have ih:=uJ (p:=p) (fs:=fs) l { f with Blocks:=f.Blocks++[b] } 9 (n+(b.Phis.length+b.Code.length)) kQ1 (fun y hy=>h y (by grind)) (by grind) kQ1
  grind [cJ]
theorem NF{p:Lt.Program}{fs:List Lt.Func}{w n:Int}{f:Lt.Func}(hw:w<=2\/w=9)(h:ay f=true)(ok:f.ok)(hl:fs.length < 8) :
  Runs ⟨{ p with Funcs:=fs },w,n⟩ ((fS f).map fun x=>x.Words) ⟨{ p with Funcs:=fs++[f] },9,(longs f.Blocks:Int)⟩:=by
 have ho:=nB h
 have d:=SR (p:=p) (fs:=fs) (n:=n) hw ho.name ho.res hl
 have a:=xC (p:=p) (fs:=fs) (n:=0) f.Params ⟨f.Name,f.Result,[],[],[]⟩ (qV ho.params) (by simp_all[jr,FuncOk.params])
 simp only[agZ]at a;obtain⟨w',c,a3⟩:=DO (p:=p) (fs:=fs) (n:=0) f.Vars ⟨f.Name,f.Result,f.Params,[],[]⟩ 3 (.inl rfl) (qV ho.vars) (by simp_all[jr,FuncOk.vars]);simp only[agZ]at a3;have a4:=uJ (p:=p) (fs:=fs) f.Blocks ⟨f.Name,f.Result,f.Params,f.Vars,[]⟩ w' 0 kQ1 (fun b hb=>⟨ho.bl b hb,ok b hb⟩) (by simpa using ho.len) (by simpa using ho.long)
 simp only[agZ,if_neg ho.ne,ahY]at a4;have e:(fS f).map (fun x=>x.Words)=[[rC,f.Name,f.Result]]++(f.Params.map (fun v=>[lI,v.Name,v.Type_])++(f.Vars.map (fun v=>[BK,v.Name,v.Type_])++(f.Blocks.flatMap dN).map fun x=>x.Words)):=by
  simp[fS,Lt.ln,fL,Function.comp_def]
 rw[e];exact cJ d (cJ a (cJ a3 a4))
theorem xB{p:Lt.Program}:∀(l fs:List Lt.Func)(w n:Int),(w<=2\/w=9)->(∀f∈l,ay f=true/\f.ok)->fs.length+l.length<=8 ->
  ∃w' n',(w'<=2\/w'=9)/\Runs ⟨{ p with Funcs:=fs },w,n⟩ ((l.flatMap fS).map fun x=>x.Words) ⟨{ p with Funcs:=fs++l },w',n'⟩
 |[],fs,w,n,hw,_,_=>⟨w,n,hw,by grind [eC]⟩
 |f::l,fs,w,n,hw,h,hl=>by
  obtain⟨h1,b⟩:=h f (by simp);have d:fs.length+(l.length+1)<=8:=hl
  have a:=NF (p:=p) (n:=n) hw h1 b (fs:=fs) kQ1
  obtain⟨w',n',c,ih⟩:=xB (p:=p) l (fs++[f]) 9 (longs f.Blocks) (.inr rfl) (fun y hy=>h y (by grind)) (by grind)
  grind [cJ]
def DD(p:Lt.Program):List Lt.Line:=p.Classes.flatMap dO++fL g9 p.Globals++p.Externs.map iS++p.Funcs.flatMap fS
theorem NG{p:Lt.Program}(h:bB p=true)(ok:p.ok):∃w n,(w<=2\/w=9)/\Runs ⟨⟨p.SSA,[],[],[],[]⟩,0,0⟩ ((DD p).map fun x=>x.Words) ⟨p,w,n⟩:=by
 have ho:=qM h
 obtain⟨w1,hw1,g⟩:=xy (s:=p.SSA) (gs:=[]) (es:=[]) (fs:=[]) (n:=0) p.Classes [] 0 kQ1 ho.cl (by simpa using ho.nc);obtain⟨w2,b,d⟩:=uL (s:=p.SSA) (cs:=p.Classes) (es:=[]) (fs:=[]) (n:=0) p.Globals [] w1 hw1 (qV ho.glob) (by simp_all[jr,ProgOk.glob]);obtain⟨w3,c,a3⟩:=uK (s:=p.SSA) (cs:=p.Classes) (gs:=p.Globals) (fs:=[]) (n:=0) p.Externs [] w2 b ho.ex (by simpa using ho.ne);obtain⟨j,i,a,a4⟩:=xB (p:=p) p.Funcs [] w3 0 c (fun f hf=>⟨ho.fn f hf,ok f hf⟩) (by simpa using ho.nf);simp only[agZ]at g d a3 a4;refine⟨j,i,a,?_⟩;have e:(DD p).map (fun x=>x.Words)=(p.Classes.flatMap dO).map (fun x=>x.Words)++(p.Globals.map (fun v=>[g9,v.Name,v.Type_])++(p.Externs.map (fun x=>[fE,x.Name,aB x.N])++(p.Funcs.flatMap fS).map fun x=>x.Words)):=by
  simp[DD,Lt.ln,fL,iS,Lt.number,Function.comp_def]
 rw[e];exact cJ g (cJ d (cJ a3 a4))
theorem M5{p:Lt.Program}(h:bB p=true)(ok:p.ok)(hl:(nW p).length<=4194304):Fm (nW p)=(p,0,0):=by
 have e:=Dy h
 rw[e]at hl⊢;obtain⟨w,n,hw,hr⟩:=NG h ok;have a:(⟨p,w,n⟩:Lt.Read).out=true:=by
  grind
 unfold Fm;rw[NA (Nj h) hl];simp only[if_true];have el:kH p=(if p.SSA then [Lt.ln [si]]else [])++DD p:=by
  grind [kH,DD]
 rw[el];cases hs:p.SSA with
 |true=>
  rw[hs]at hr;rw[if_pos rfl];show jN (⟨1,[si]⟩::numb (1+1) (DD p)) true _=_
  have h1:aK ⟨⟨false,[],[],[],[]⟩,0,0⟩ [si] true=(0,⟨⟨true,[],[],[],[]⟩,0,0⟩):=rfl
  rw[jN,h1,if_pos rfl,sE _ _ _ _ _ hr,a];rfl
 |false=>
  rw[hs]at hr;rw[if_neg (by decide),agZ,sE _ _ _ _ _ hr,a];rfl
theorem Ar(bs:List Lt.Block)(b:Lt.Block):longs (bs++[b])=longs bs+(b.Phis.length+b.Code.length):=by simp[longs]
theorem CN:∀(l:List Lt.Block)(n:Nat),n+longs l<=1024->(∀b∈l,Lt.block b=true)->Lt.blocks l n=true
 |[],_,_,_=>rfl
 |b::r,n,h,hb=>by
  have e:longs (b::r)=(b.Phis.length+b.Code.length)+longs r:=by rfl
  rw[e]at h;rw[Lt.blocks,hb b (by simp),CN r _ kQ1 (fun x hx=>hb x (by grind))]
  grind
def acQ(f:Lt.Func):Prop:=Lt.Name f.Name=true/\Lt.kind f.Result=true/\Lt.typed f.Params 6=true/\Lt.typed f.Vars 1024=true
structure Open (f:Lt.Func) (bs:List Lt.Block) (b:Lt.Block) (w n:Int):Prop where
 hd:acQ f
 len:bs.length+1<=256
 long:n=((longs bs+(b.Phis.length+b.Code.length):Nat):Int)
 most:n<=1024
 bl:bs.all Lt.block=true
 nm:Lt.Name b.Name=true
 ph:b.Phis.all Lt.phi=true
 cd:b.Code.all Lt.instr=true
 fin:w=9->dp b.End=true
 ins:6<=w->w<=8->∃cs c,b.Code=cs++[c]/\(7<=w->c.Op=31\/c.Op=34)
theorem Pp{f:Lt.Func}{bs:List Lt.Block}{b:Lt.Block}{w n:Int}(hw:5<=w)(h:Open f bs b w n):o8 { f with Blocks:=bs++[b] } w n:=by
 have hl:=h.long
 have a:=h.most
 refine⟨h.hd,⟨by simpa using h.len,by omega,a⟩,fun _=>by omega,fun _=>⟨bs,b,rfl,h.bl,?_,⟨h.nm,h.ph,h.cd⟩,h.fin,h.ins⟩⟩
 grind [longs]
theorem wb{f:Lt.Func}{w n:Int}(hw:5<=w)(h:o8 f w n):∃bs b,f.Blocks=bs++[b]/\Open f bs b w n:=by
 obtain⟨h1,⟨h2,h3,h4⟩,_,h5⟩:=h;obtain⟨bs,b,e,hb,hn,⟨k1,k2,k3⟩,hf,hi⟩:=h5 hw;refine⟨bs,b,e,⟨h1,by grind,?_,h4,hb,k1,k2,k3,hf,hi⟩⟩
 grind [longs]
theorem JQ{f:Lt.Func}{n:Int}(h:o8 f 9 n):ay f=true:=by
 obtain⟨bs,b,e,o⟩:=wb kQ1 h;obtain⟨h1,h2,h3,h4⟩:=o.hd;have hl:=o.long
 have a:=o.most
 have hn:=o.len
 unfold ay;have hb:∀x∈f.Blocks,Lt.block x=true:=by
  rw[e];intro x hx;rcases agE.1 hx with hx|hx
  ·exact agH.1 o.bl x hx
  grind [Lt.block,Open.nm,Open.fin,Open.ph,Open.cd]
 grind [CN,Ar,decide]
theorem ye{r:Lt.Read}(h:Lt.Inv r)(ho:r.out=true):r.P.Funcs.all ay=true:=by
 obtain⟨_,_,_,_,h2,h3⟩:=h
 grind [JQ]
theorem EE{p:Lt.Program}{fs:List Lt.Func}{f f':Lt.Func}{w w' n n':Int}(h:Lt.Inv (stF p fs f w n))(hw:3<=w)(h1:3<=w')(h2:w'<=9)(hp:o8 f' w' n'):Lt.Inv (stF p fs f' w' n'):=by
 obtain⟨_,⟨j,d,a3⟩,⟨a4,a5,b⟩,_,_,c⟩:=h;obtain⟨a,g,e,hf,_⟩:=c hw;have e:fs++[f]=a++[g]:=e
 obtain⟨i,_⟩:=List.append_inj' e rfl;subst i;have a3:(fs++[f]).length<=8:=a3
 refine⟨⟨by show 0<=w';omega,h2⟩,⟨j,d,by show(fs++[f']).length<=8;grind⟩,⟨a4,a5,b⟩,fun h=>?_,fun h=>?_,fun _=>⟨fs,f',rfl,hf,hp⟩⟩
 ·have:w'=1:=h
  omega
 have:w'<=2:=h
 omega
theorem t7{r:Lt.Read}(h:Lt.Inv r)(hw:3<=r.Where):∃p fs f,r=stF p fs f r.Where r.Long/\o8 f r.Where r.Long:=by
 obtain⟨_,_,_,_,_,a⟩:=h;obtain⟨fs,f,e,_,hp⟩:=a hw;refine⟨r.P,fs,f,?_,hp⟩;unfold stF;rw[<- e]
theorem mr{r:Lt.Read}(h:Lt.Inv r)(hw:5<=r.Where):∃p fs f bs b,r=stB p fs f bs b r.Where r.Long/\Open f bs b r.Where r.Long:=by
 obtain⟨p,fs,f,e,hp⟩:=t7 h kQ1;obtain⟨bs,b,a,o⟩:=wb hw hp;refine⟨p,fs,f,bs,b,?_,o⟩;unfold stB;rw[<- a];exact e
theorem tZ{p:Lt.Program}{fs:List Lt.Func}{f:Lt.Func}{bs bs':List Lt.Block}{b b':Lt.Block}{w w' n n':Int}(h:Lt.Inv (stB p fs f bs b w n))(hw:5<=w)(h1:5<=w')(h2:w'<=9)(o:Open f bs' b' w' n'):Lt.Inv (stB p fs f bs' b' w' n'):=
 EE h kQ1 kQ1 h2 (Pp h1 o)
theorem oe{l:List Lt.Var}{k:Nat}(h:Lt.typed l k=true)(hl:l.length<k)(h1:Lt.Name v.Name=true)(h2:Lt.kind v.Type_=true):Lt.typed (l++[v]) k=true:=by
 grind [Lt.typed]
theorem kK{l:List (List UInt8)}(h:ij l=true):Lt.Name (Lt.w1 l)=true/\Lt.kind (Lt.w2 l)=true:=by
 grind [ij,aS,O9]
theorem ZS{l:List α}(h:l≠[]):∃i x,l=i++[x]:=⟨l.dropLast,l.getLast h,(List.dropLast_concat_getLast h).symm⟩
theorem yR{s:Bool}{cs:List Lt.Class}{fs:List Lt.Func}{w n:Int}(h0:0<=w)(h9:w<=9)(g:cs.length<=8)(e:es.length<=8)(a3:fs.length<=8)(a4:Lt.typed gs 8=true)(a5:cs.all bF=true)(b:es.all bW=true)
  (d:w=1->cs≠[]) (c:w<=2->fs.all ay=true) (a9:3<=w->∃a f,fs=a++[f]/\a.all ay=true/\o8 f w n):Lt.Inv ⟨⟨s,cs,gs,es,fs⟩,w,n⟩:=⟨⟨h0,h9⟩,⟨g,e,a3⟩,⟨a4,a5,b⟩,d,c,a9⟩
theorem Rn{r:Lt.Read}{l:List (List UInt8)}(h:Lt.Inv r)(hz:(Lt.eh r l).1=0):Lt.Inv (Lt.eh r l).2:=by
 unfold Lt.eh at hz⊢;split at hz
 ·cases hz
 rename_i a;rw[if_neg a];split at hz
 ·cases hz
 rename_i c2;rw[if_neg c2];simp only[agP,afZ,aS]at a;have hf:=ye h a.1.1
 obtain⟨_,⟨d,c,a3⟩,⟨a4,a5,b⟩,_⟩:=h;refine yR (by decide) (by decide) (by grind) c a3 a4 ?_ b (fun _=>by simp) (fun _=>hf) (fun h=>absurd h (by decide));rw[List.all_append,a5];simp only[agF,ah6,ahU,ag1];unfold bF;rw[a.2];rfl
theorem Ro{r:Lt.Read}{l:List (List UInt8)}(h:Lt.Inv r)(hz:(fO r l).1=0):Lt.Inv (fO r l).2:=by
 unfold fO at hz⊢;split at hz
 ·cases hz
 rename_i a;rw[if_neg a];split at hz
 ·cases hz
 rename_i c2;rw[if_neg c2];simp only[agP,afZ,decide_eq_true_eq]at a;obtain⟨a,j⟩:=a;obtain⟨n,q⟩:=kK j;obtain⟨a0,⟨p,m,a3⟩,⟨a4,a5,d⟩,g,f,a9⟩:=h;obtain⟨i,c,e⟩:=ZS (g a);rw[e,vK]at c2;rw[e]at a5 p;rw[List.all_append]at a5;simp only[afZ,agF,ah6,and_true]at a5;obtain⟨o,b⟩:=a5;unfold bF at b;simp only[afZ]at b;have key:Lt.last r.P.Classes (fun c=>{ c with Fields:=c.Fields++[⟨Lt.w1 l,Lt.w2 l⟩] })=i++[{ c with Fields:=c.Fields++[⟨Lt.w1 l,Lt.w2 l⟩] }]:=by rw[e,mB]
 show Lt.Inv ⟨⟨r.P.SSA,Lt.last r.P.Classes (fun c=>{ c with Fields:=c.Fields++[⟨Lt.w1 l,Lt.w2 l⟩] }),r.P.Globals,r.P.Externs,r.P.Funcs⟩,r.Where,r.Long⟩
 rw[key];refine yR a0.1 a0.2 (by grind) m a3 a4 ?_ d (fun _=>by simp) f (fun h=>by omega)
 ·rw[List.all_append,o];simp only[agF,ah6,ahU,ag1];unfold bF;have:=oe (k:=8) (v:=⟨Lt.w1 l,Lt.w2 l⟩) b.2 kQ1 n q
  grind
theorem nO{n k:Nat}(h:(if k<=n then(2:Int)else 0)=0):n<k:=by
 omega
theorem Me{r:Lt.Read}{l:List (List UInt8)}(h:Lt.Inv r)(hz:(dK r l).1=0):Lt.Inv (dK r l).2:=by
 unfold dK at hz⊢;split at hz
 ·cases hz
 rename_i a;rw[if_neg a];have c2:=nO hz
 simp only[agP,afZ]at a;obtain⟨d,f⟩:=kK a.2;have hf:=ye h a.1
 obtain⟨_,⟨e,c,a3⟩,⟨a4,a5,b⟩,_⟩:=h;exact yR (w:=2) (by decide) (by decide) e c a3 (oe (k:=8) a4 c2 d f) a5 b (fun h=>absurd h (by decide)) (fun _=>hf) (fun h=>absurd h (by decide))
theorem Md{r:Lt.Read}{l:List (List UInt8)}(h:Lt.Inv r)(hz:(dJ r l).1=0):Lt.Inv (dJ r l).2:=by
 unfold dJ at hz⊢;split at hz
 ·cases hz
 rename_i a;rw[if_neg a];have c2:=nO hz
 simp only[agP,afZ,aS]at a;have hf:=ye h a.1.1.1
 obtain⟨_,⟨d,c,a3⟩,⟨a4,a5,b⟩,_⟩:=h
 grind [yR,bW]
theorem VJ{r:Lt.Read}{l:List (List UInt8)}(h:Lt.Inv r)(hz:(Lt.fW r l).1=0):Lt.Inv (Lt.fW r l).2:=by
 unfold Lt.fW at hz⊢;split at hz
 ·cases hz
 rename_i a;rw[if_neg a];have c2:=nO hz
 simp only[agP,afZ]at a;obtain⟨d,f⟩:=kK a.2;have hf:=ye h a.1
 obtain⟨_,⟨e,c,a3⟩,⟨a4,a5,b⟩,_⟩:=h;exact yR (w:=3) (n:=0) (by decide) (by decide) e c (by grind) a4 a5 b (fun h=>absurd h (by decide)) (fun h=>absurd h (by decide)) (fun _=>⟨r.P.Funcs,_,rfl,hf,⟨⟨d,f,by rfl,by rfl⟩,⟨by simp,by decide,by decide⟩,fun _=>⟨rfl,rfl⟩,fun h=>absurd h (by decide)⟩⟩)
theorem Rp{r:Lt.Read}{l:List (List UInt8)}(h:Lt.Inv r)(hz:(fQ r l).1=0):Lt.Inv (fQ r l).2:=by
 unfold fQ at hz⊢;split at hz
 ·cases hz
 rename_i a;rw[if_neg a];have c2:=nO hz
 simp only[agP,afZ,decide_eq_true_eq]at a;obtain⟨a,c⟩:=a;obtain⟨d,b⟩:=kK c;obtain⟨p,fs,f,e,hp⟩:=t7 h kQ1;rw[e,nr]at c2;rw[e]at h;obtain⟨⟨k1,k2,k3,k4⟩,k5,k6,_⟩:=hp;have key:=EE (f':={ f with Params:=f.Params++[⟨Lt.w1 l,Lt.w2 l⟩] }) (w':=3) (n':=r.Long) h kQ1 kQ1 kQ1 ⟨⟨k1,k2,oe (k:=6) k3 c2 d b,k4⟩,k5,fun _=>k6 kQ1,fun h=>absurd h (by decide)⟩
 grind [nC]
theorem Y0{r:Lt.Read}{l:List (List UInt8)}(h:Lt.Inv r)(hz:(Lt.jA r l).1=0):Lt.Inv (Lt.jA r l).2:=by
 unfold Lt.jA at hz⊢;split at hz
 ·cases hz
 rename_i a;rw[if_neg a];have c2:=nO hz
 simp only[agP,afZ,decide_eq_true_eq,ag2]at a;obtain⟨a,c⟩:=a;obtain⟨d,b⟩:=kK c;obtain⟨p,fs,f,e,hp⟩:=t7 h kQ1;rw[e,nr]at c2;rw[e]at h;obtain⟨⟨k1,k2,k3,k4⟩,k5,k6,_⟩:=hp;have key:=EE (f':={ f with Vars:=f.Vars++[⟨Lt.w1 l,Lt.w2 l⟩] }) (w':=4) (n':=r.Long) h kQ1 kQ1 kQ1 ⟨⟨k1,k2,k3,oe (k:=1024) k4 c2 d b⟩,k5,fun _=>k6 kQ1,fun h=>absurd h (by decide)⟩
 grind [stF,nC]
theorem Rm{r:Lt.Read}{l:List (List UInt8)}(h:Lt.Inv r)(hz:(Lt.dG r l).1=0):Lt.Inv (Lt.dG r l).2:=by
 unfold Lt.dG at hz⊢;split at hz
 ·cases hz
 rename_i c;rw[if_neg c];have c2:=nO hz
 simp only[agP,afZ,decide_eq_true_eq,ag2,aS]at c;obtain⟨⟨c,_⟩,d⟩:=c;obtain⟨p,fs,f,e,hp⟩:=t7 h kQ1;rw[e,nr]at c2;rw[e]at h;have g:r.func (fun f=>{ f with Blocks:=f.Blocks++[⟨Lt.w1 l,[],[],⟨0,⟨0,[],0⟩,[],0⟩⟩] })=stF p fs { f with Blocks:=f.Blocks++[⟨Lt.w1 l,[],[],⟨0,⟨0,[],0⟩,[],0⟩⟩] } r.Where r.Long:=by
  grind [nC]
 rw[g];have a:f.Blocks.all Lt.block=true/\r.Long=((longs f.Blocks:Nat):Int)/\r.Long<=1024:=by
  by_cases h9:r.Where=9
  ·rw[h9]at hp;have hs:=nB (JQ hp)
   obtain⟨bs,b,i,o⟩:=wb kQ1 hp;exact⟨agH.2 hs.bl,by rw[o.long,i,Ar],o.most⟩
  obtain⟨_,_,k6,_⟩:=hp;obtain⟨k7,k8⟩:=k6 kQ1;rw[k7,k8];exact⟨rfl,rfl,by decide⟩
 refine EE h kQ1 kQ1 kQ1 (Pp kQ1 ⟨hp.1,by omega,?_,a.2.2,a.1,d,rfl,rfl,fun h=>absurd h (by decide),fun h=>absurd h (by decide)⟩);show r.Long=_
 grind
theorem AJ{l:List (List UInt8)}{k:Int}(h:(bQ l k objs).2=true):(∀b∈(bQ l k objs).1,Lt.Name b.Name=true/\bb objs b.A=true)/\((bQ l k objs).1.flatMap fun b=>[b.Name,al b.A])=l.drop k.toNat:=by
 grind [bQ,xn]
theorem YZ{r:Lt.Read}{l:List (List UInt8)}(h:Lt.Inv r)(hz:(Lt.lQ r l).1=0):Lt.Inv (Lt.lQ r l).2:=by
 unfold Lt.lQ at hz⊢;split at hz
 ·cases hz
 rename_i a;rw[if_neg a];split at hz
 ·cases hz
 rename_i c2;rw[if_neg c2];simp only[agP,afZ,decide_eq_true_eq,agS,decide_eq_false_iff_not,aS]at a;obtain⟨⟨⟨a,d⟩,i⟩,g⟩:=a;obtain⟨p,fs,f,bs,b,e,o⟩:=mr h kQ1;rw[e]at h;have c:({ r.block (fun b=>{ b with Phis:=b.Phis++[⟨Lt.w1 l,(bQ l 2 false).1.map fun x=>⟨x.Name,x.A⟩⟩] })with Long:=r.Long+1 }:Lt.Read)=stB p fs f bs { b with Phis:=b.Phis++[⟨Lt.w1 l,(bQ l 2 false).1.map fun x=>⟨x.Name,x.A⟩⟩] } 5 (r.Long+1):=by
  have:r.block (fun b=>{ b with Phis:=b.Phis++[⟨Lt.w1 l,(bQ l 2 false).1.map fun x=>⟨x.Name,x.A⟩⟩] })=stB p fs f bs { b with Phis:=b.Phis++[⟨Lt.w1 l,(bQ l 2 false).1.map fun x=>⟨x.Name,x.A⟩⟩] } r.Where r.Long:=by
   grind [jb]
  rw[this,a];rfl
 rw[c];have hl:=o.long
 refine tZ h kQ1 kQ1 kQ1 ⟨o.hd,o.len,?_,by omega,o.bl,o.nm,?_,o.cd,fun h=>absurd h (by decide),fun h=>absurd h (by decide)⟩
 all_goals grind [Open.ph,Lt.phi,AJ,ll]
theorem Kp{dst:List UInt8}{l:List (List UInt8)}{x:Lt.Instr}(h:Lt.fP dst l=some x)(hd:dst≠[]->Lt.Name dst=true):Lt.instr x=true/\x.Frames=[]/\x.Objs=[]:=by
 unfold Lt.fP at h;split at h
 ·cases h
 rename_i a;simp only[agP,afZ,beq_iff_eq]at a;obtain⟨_,o2,o3⟩:=W6 a.1;obtain⟨_,g,d,c,e,b⟩:=pG (Lt.sOp (Lt.w0 l)).1;rw[d]at a;split at h
 ·cases h
 rename_i nm rest hr;split at h
 ·rename_i c2;simp only[afZ,decide_eq_true_eq]at c2;obtain⟨⟨⟨c2,c3⟩,c4⟩,c5⟩:=c2;rw[c,aS]at c3;rw[e]at c4;rw[b]at c5;simp only[af0]at h;subst h;refine⟨?_,rfl,rfl⟩;have f:=(Bf c2).1
  have hN:(Lt.Of (Lt.sOp (Lt.w0 l)).1).1.Named=!decide (nm=[]):=by
   grind [Kr,Lt.Of,Lt.Name]
  grind [Lt.instr]
 grind
theorem IY{r:Lt.Read}{l:List (List UInt8)}(h:Lt.Inv r)(hz:(cY r l).1=0):Lt.Inv (cY r l).2:=by
 unfold cY at hz⊢;split at hz
 ·cases hz
 rename_i d;rw[if_neg d];split at hz
 ·cases hz
 rename_i a;rw[if_neg a];cases hs:Lt.fP (if Lt.sEq l then Lt.w0 l else []) (if Lt.sEq l then l.drop 2 else l)with
 |none=>omega
 |some x=>
  rw[hs]at hz;simp only at hz⊢
  split at hz
  ·cases hz
  rename_i c2;rw[if_neg c2];have c:5<=r.Where/\r.Where<=8:=by grind
  obtain⟨hx,hf,ho⟩:=Kp hs (by
   grind [aS])
  obtain⟨p,fs,f,bs,b,e,o⟩:=mr h kQ1;rw[e]at h;have g:({ r.block (fun b=>{ b with Code:=b.Code++[x] })with Where:=if x.Op=31\/x.Op=34 then 7 else 6,Long:=r.Long+1 }:Lt.Read)=stB p fs f bs { b with Code:=b.Code++[x] } (if x.Op=31\/x.Op=34 then 7 else 6) (r.Long+1):=by
   have:r.block (fun b=>{ b with Code:=b.Code++[x] })=stB p fs f bs { b with Code:=b.Code++[x] } r.Where r.Long:=by
    grind [jb]
   rw[this];rfl
  rw[g];have hl:=o.long
  have hw:∀{k:Int},k=(if x.Op=31\/x.Op=34 then(7:Int)else 6)->5<=k/\k<=8/\(7<=k->x.Op=31\/x.Op=34):=by
   omega
  obtain⟨w1,w2,w3⟩:=hw rfl;refine tZ h kQ1 w1 kQ1 ⟨o.hd,o.len,?_,by omega,o.bl,o.nm,o.ph,?_,fun h=>by omega,fun _ _=>⟨b.Code,x,rfl,w3⟩⟩
  all_goals grind [Open.cd]
theorem Ac{c:Lt.Instr}{fr:List Lt.Frame}{ob:List Lt.Virt}(h:Lt.instr c=true)(ho:c.Op=31\/c.Op=34)(h1:fr.length<=16)(h2:ob.length<=99)(h3:∀x∈fr,Lt.frame x=true)(h4:∀x∈ob,Lt.virt x=true):Lt.instr { c with Frames:=fr,Objs:=ob }=true:=by
 grind [Lt.instr]
theorem acV{r:Lt.Read}{l:List (List UInt8)}(h:Lt.Inv r)(hz:(Lt.sAt r l).1=0):Lt.Inv (Lt.sAt r l).2:=by
 unfold Lt.sAt at hz⊢;split at hz
 ·cases hz
 rename_i a;rw[if_neg a];split at hz
 ·cases hz
 rename_i c2;rw[if_neg c2];simp only[agP,afZ,decide_eq_true_eq,aS]at a;obtain⟨⟨⟨⟨a,m⟩,q⟩,j⟩,⟨k,n⟩,s⟩:=a;obtain⟨p,fs,f,bs,b,e,o⟩:=mr h kQ1;obtain⟨cs,c,d,hop⟩:=o.ins kQ1 kQ1;have hop:=hop kQ1
 have e':r=stI p fs f bs b cs c r.Where r.Long:=by
  unfold stI;rw[<- d];exact e
 have hc:=o.cd
 rw[d,List.all_append]at hc;simp only[afZ,agF,ah6,and_true]at hc;have g:=eD hc.2
 rw[e',xZ]at c2;rw[e]at h;have i:r.instr (fun x=>{ x with Frames:=x.Frames++[⟨Lt.w1 l,Lt.w2 l,(bq (Lt.w3 l)).1,(bQ l 4 true).1⟩] })=stI p fs f bs b cs { c with Frames:=c.Frames++[⟨Lt.w1 l,Lt.w2 l,(bq (Lt.w3 l)).1,(bQ l 4 true).1⟩] } r.Where r.Long:=by
  grind [tY]
 rw[i];have hl:=o.long
 refine tZ h kQ1 kQ1 kQ1 ⟨o.hd,o.len,?_,o.most,o.bl,o.nm,o.ph,?_,fun h=>by omega,fun _ _=>⟨cs,_,rfl,fun _=>hop⟩⟩
 all_goals grind [Ac,InstrOk.objs,InstrOk.ob,InstrOk.fr,AJ,Lt.frame,gF]
theorem YY{r:Lt.Read}{l:List (List UInt8)}(h:Lt.Inv r)(hi:r.ins=true)(hz:(Lt.lP r l).1=0):Lt.Inv (Lt.lP r l).2:=by
 unfold Lt.lP at hz⊢;split at hz
 ·cases hz
 rename_i a;rw[if_neg a];have c2:=nO hz
 have g:5<=r.Where/\r.Where<=8:=by grind
 simp only[agP,afZ,decide_eq_true_eq,aS]at a;obtain⟨⟨⟨⟨a,c3⟩,c4⟩,k⟩,m⟩:=a;obtain⟨p,fs,f,bs,b,e,o⟩:=mr h kQ1;obtain⟨cs,c,d,hop⟩:=o.ins kQ1 kQ1;have hop:=hop kQ1
 have e':r=stI p fs f bs b cs c r.Where r.Long:=by
  unfold stI;rw[<- d];exact e
 have hc:=o.cd
 rw[d,List.all_append]at hc;simp only[afZ,agF,ah6,and_true]at hc;have i:=eD hc.2
 rw[e',xZ]at c2;rw[e]at h;have j:({ r.instr (fun x=>{ x with Objs:=x.Objs++[⟨Lt.w1 l,(dB (l.drop 2) true).1⟩] })with Where:=8 }:Lt.Read)=stI p fs f bs b cs { c with Objs:=c.Objs++[⟨Lt.w1 l,(dB (l.drop 2) true).1⟩] } 8 r.Long:=by
  have:r.instr (fun x=>{ x with Objs:=x.Objs++[⟨Lt.w1 l,(dB (l.drop 2) true).1⟩] })=stI p fs f bs b cs { c with Objs:=c.Objs++[⟨Lt.w1 l,(dB (l.drop 2) true).1⟩] } r.Where r.Long:=by
   grind [tY]
  rw[this];rfl
 rw[j];have hl:=o.long
 refine tZ h kQ1 kQ1 kQ1 ⟨o.hd,o.len,?_,o.most,o.bl,o.nm,o.ph,?_,fun h=>by omega,fun _ _=>⟨cs,_,rfl,fun _=>hop⟩⟩
 all_goals grind [Ac,InstrOk.frames,InstrOk.fr,InstrOk.ob,Bf,Lt.virt]
theorem Nz{l:List (List UInt8)}(h:kJ l=some t):dp t=true:=by
 grind [kJ,aS,dp,Dn,rQ]
theorem YX{r:Lt.Read}{l:List (List UInt8)}(h:Lt.Inv r)(hi:r.ins=true)(hz:(uF r l).1=0):Lt.Inv (uF r l).2:=by
 have a:5<=r.Where/\r.Where<=8:=by grind
 unfold uF at hz⊢;cases hs:kJ l with
 |none=>grind
 |some t=>
  have c:=Nz hs
  obtain⟨p,fs,f,bs,b,e,o⟩:=mr h kQ1;rw[e]at h;have d:({ r.block (fun b=>{ b with End:=t })with Where:=9 }:Lt.Read)=stB p fs f bs { b with End:=t } 9 r.Long:=by
   have:r.block (fun b=>{ b with End:=t })=stB p fs f bs { b with End:=t } r.Where r.Long:=by
    grind [jb]
   rw[this];rfl
  show Lt.Inv ({ r.block (fun b=>{ b with End:=t })with Where:=9 }:Lt.Read)
  rw[d];exact tZ h kQ1 kQ1 kQ1 ⟨o.hd,o.len,o.long,o.most,o.bl,o.nm,o.ph,o.cd,fun _=>c,fun h1 h2=>absurd h2 kQ1⟩
theorem VK{r:Lt.Read}{l:List (List UInt8)}(h:Lt.Inv r)(hz:(bG r l).1.2=0):Lt.Inv (bG r l).2:=by
 grind [bG,Rn,Ro,Me,Md,VJ]
theorem VL{r:Lt.Read}{l:List (List UInt8)}(h:Lt.Inv r)(hz:(cg r l).1.2=0):Lt.Inv (cg r l).2:=by
 grind [cg,Rp,Y0,Rm,YZ]
theorem Rq{r:Lt.Read}{l:List (List UInt8)}(h:Lt.Inv r)(hz:(bi r l).1.2=0):Lt.Inv (bi r l).2:=by
 grind [bi,acV,YY,YX]
theorem IZ{r:Lt.Read}{l:List (List UInt8)}{b:Bool}(h:Lt.Inv r)(hz:(aK r l b).1=0):Lt.Inv (aK r l b).2:=by
 unfold aK at hz⊢;split at hz
 ·grind [IY]
 rename_i c;rw[if_neg c];split at hz
 ·rename_i c;rw[if_pos c];split at hz
  ·cases hz
  rename_i c;rw[if_neg c];exact h
 grind [VK,VL,Rq,IY]
theorem acF:∀(s:List UInt8)(k:Lt.Cut)(B:Nat),(∀x∈k.out,x.Words≠[]/\x.Words.length<=B)->k.l.length+s.length+1<=B->∀x∈(cD s k).1,x.Words≠[]/\x.Words.length<=B
 |s,k,B=>by
  have hw:∀k:Lt.Cut,k.word.l.length<=k.l.length+1/\k.word.out=k.out:=by
   grind [Lt.Cut.word]
  have b:∀k:Lt.Cut,(∀x∈k.out,x.Words≠[]/\x.Words.length<=B)->k.l.length+1<=B->∀x∈k.line.out,x.Words≠[]/\x.Words.length<=B:=by
   grind [Lt.Cut.line]
  have a:∀(k:Lt.Cut)(c:UInt8),(k.byte c).l.length<=k.l.length+1/\(k.byte c).out=k.out:=by
   grind [Lt.Cut.byte]
  induction s generalizing k with
  |nil=>
   grind [cD]
  |cons c r ih=>
   intro h hl x hx;have d:k.l.length+(r.length+1)+1<=B:=hl
   rw[cD]at hx;split at hx
   ·split at hx
    ·cases hx
    exact ih k.line (b k h kQ1) (by show 0+r.length+1<=B;omega) x hx
   have hb:=a k c
   exact ih (k.byte c) (by grind) kQ1 x hx
theorem Xc(s:List UInt8):∀x∈(fR s).1,x.Words≠[]/\x.Words.length<=1099511627776:=by
 intro x hx;unfold fR at hx;split at hx
 ·cases hx
 rename_i hc;exact acF s _ _ (by simp) (by grind) x hx
variable{s:List UInt8}
theorem wu(h:(bq s).2=true):aB (bq s).1=s:=by
 unfold bq at h⊢;split at h
 ·rename_i hc;rw[if_pos hc];exact hc
 grind
theorem kj{β:Type}(c:Bool)(x:β)(n:Int)(K:β->Prop)(KP:Value->Prop):exQ (if c=true then .ok x else .error (Lt.flt n)) K KP=if c=true then K x else KP (Lt.flt n):=by
 cases c<;>rfl
theorem RS(w:List UInt8)(KK:List UInt8->Prop)(KP:Value->Prop)(h:exQ (cG w) KK KP):Ot w KK KP:=by
 unfold Ot;unfold cG at h;rw[kj]at h
 grind
theorem RQ(w:List UInt8)(KK:List UInt8->Prop)(KP:Value->Prop)(h:exQ (io w) KK KP):Oo w KK KP:=by
 unfold Oo;unfold io at h;rw[kj]at h;simp only[aq,cc,aZ,Bool.not_true,agA,if_false]
 grind [pH,aS]
theorem V4(l:List Int)(n:Int)(KK:Bool->Prop)(h:KK (ir l n)):TQ l n KK:=by
 unfold TQ;refine fun hl=>nu l hl (fun(_:Unit) i=>i) (fun t _=>t.contains n) KK _ (fun R _ i hi ih h=>?_) (fun R _ h=>?_) () h
 ·simp only[bP hi,if_true,Int.toNat_natCast];refine⟨⟨af9 i,hi⟩,?_⟩;by_cases hc:l.getD i default=n
  ·grind
  ·rw[if_neg (by grind)];refine ih () ?_
   grind
 grind
theorem Jp(w:List UInt8)(a b:Int)(KK:Int->Prop)(KP:Value->Prop)(h:exQ (q0 w a b) KK KP):CD w a b KK KP:=by
 unfold CD;unfold q0 at h;rw[kj]at h
 grind [eM]
theorem V2(w:List UInt8)(o:Bool)(KK:Lt.Arg->Prop)(KP:Value->Prop)(h:exQ (Bv w o) KK KP):TO w o KK KP:=by
 unfold TO;unfold Bv at h;rw[kj]at h;unfold eQ at h;dsimp +instances only [qX]
 cases h1:(Lt.cX w).2<;>cases o<;>by_cases h2:(Lt.cX w).1.Kind=5<;>simpa[h1,h2,aq,aZ]using h
theorem Al(s:List UInt8)(KK:Lt.Arg×Bool->Prop)(h:KK (kP s)):ta s KK:=by
 grind [ta,kP,zJ,eM]
section
variable {r:Lt.Reader} {w:Int} (K:Unit->Lt.Reader->Prop) (KP:Value->Lt.Reader->Prop)
theorem fI(c:Prop)[Decidable c](x y:Int×Lt.Read):exP (gP r (if c then x else y) w) K KP=if c then exP (gP r x w) K KP else exP (gP r y w) K KP:=by grind
end
section
variable {r:Lt.Reader} {w:Int} (K:Unit->Lt.Reader->Prop) (KP:Value->Lt.Reader->Prop)
theorem mM(x:Lt.Read):exP (gP r (3,x) w) K KP=KP (Lt.flt 3) r:=rfl
end
section
variable {r:Lt.Reader} {w:Int} (K:Unit->Lt.Reader->Prop) (KP:Value->Lt.Reader->Prop)
theorem PA(x:Lt.Read):exP (gP r (2,x) w) K KP=KP (Lt.flt 2) r:=rfl
end
section
variable {r:Lt.Reader} {w:Int} (K:Unit->Lt.Reader->Prop) (KP:Value->Lt.Reader->Prop)
theorem Ki(x:Lt.Read):exP (gP r (0,x) w) K KP=K () ⟨x.P,r.at_,w,r.first,x.Long⟩:=rfl
end
section
variable {r:Lt.Reader} {w:Int} (K:Unit->Lt.Reader->Prop) (KP:Value->Lt.Reader->Prop)
theorem sL(c:Prop)[Decidable c](x:Lt.Read):exP (gP r (if c then 2 else 0,x) w) K KP=if c then KP (Lt.flt 2) r else K () ⟨x.P,r.at_,w,r.first,x.Long⟩:=by split<;>rfl
end
theorem zV{r:Lt.Reader}(hw:0<=r.where_/\r.where_<=7):ir [0,1] r.where_=r.abs.out:=by
 grind [ir,Lt.Reader.abs]
theorem dR(w:List UInt8)(K:List UInt8->Prop)(KP:Value->Prop):exQ (cG w) K KP=if cj w=true then K w else KP (Lt.flt 3):=by
 unfold cG;rw[kj,aS]
theorem ou(r:Lt.Reader):r.abs.P=r.p:=rfl
theorem ad4(r:Lt.Reader):r.abs.Long=r.long:=rfl
theorem MF(r:Lt.Reader)(l:List (List UInt8))(hp:bz r l)(KK:Unit×Lt.Reader->Prop)(KP:Value->Lt.Reader->Prop)(h:exP (FB r l) (fun z x=>KK (z,x)) KP):Gm r l KK KP:=by
 obtain⟨⟨hi,hw,_,_⟩,a,hr⟩:=hp;unfold Gm;unfold FB at h;unfold Lt.eh at h;simp only[fI,mM,PA,Ki]at h;simp only[zV hw,dR,show l.getD 1 default=Lt.w1 l from rfl];generalize cj (Lt.w1 l)=nm at h⊢;generalize r.abs.out=o at h⊢;cases o with
 |false=>grind
 |true=>
  refine ifk (fun hc=>by grind) (fun _=>fun _=>?_);by_cases h2:l.length=2
  ·refine ifk (fun hc=>by grind) (fun _=>⟨⟨by decide,by omega⟩,trivial,?_⟩);cases nm with
   |false=>grind
   |true=>
    rw[if_neg (by simp[h2])]at h;simp only[if_true,aq,az,and_self];refine fun _=>ifk (fun hc=>?_) (fun hc=>?_)
    ·grind [ou]
    ·rw[if_neg (show ¬ 8<=r.abs.P.Classes.length by grind [ou])]at h;have h8:r.p.Classes.length < 8:=by grind
     rw[agT];exact⟨⟨by omega,by omega⟩,h⟩
  grind
theorem o5(w:List UInt8)(K:List UInt8->Prop)(KP:Value->Prop):exQ (io w) K KP=if pH w=true then K w else KP (Lt.flt 3):=by
 unfold io;rw[kj]
theorem Jo(r:Lt.Reader)(l:List (List UInt8))(hp:bz r l)(KK:Unit×Lt.Reader->Prop)(KP:Value->Lt.Reader->Prop)(h:exP (yr r l) (fun z x=>KK (z,x)) KP):CC r l KK KP:=by
 obtain⟨⟨hi,hw,_,_⟩,a,hr⟩:=hp;have h8:=hi.1
 unfold CC;unfold yr dK ij at h;simp only[fI,mM,sL]at h;dsimp only;simp only[zV hw,dR,o5,show l.getD 1 default=Lt.w1 l from rfl,show l.getD 2 default=Lt.w2 l from rfl,show l.getD 1 []=Lt.w1 l from rfl,show l.getD 2 []=Lt.w2 l from rfl,aq,az,aC,cc,aZ,and_self,true_and]at h⊢;generalize cj (Lt.w1 l)=nm at h⊢;generalize pH (Lt.w2 l)=b at h⊢;generalize r.abs.out=o at h⊢;cases o with
 |false=>grind
 |true=>
  refine ifk (fun hc=>by grind) (fun _=>fun _=>?_);by_cases h3:l.length=3
  ·refine ifk (fun hc=>by grind) (fun _=>⟨⟨by decide,by omega⟩,⟨by decide,by omega⟩,?_⟩);cases nm with
   |false=>grind
   |true=>
    cases b with
    |false=>grind
    |true=>
     rw[if_neg (by simp[h3])]at h;simp only[if_true];refine fun _=>ifk (fun hc=>?_) (fun hc=>?_)
     ·grind [ou]
     ·rw[if_neg (show ¬ 8<=r.abs.P.Globals.length by grind [ou])]at h;have h9:r.p.Globals.length < 8:=by grind
      rw[agT];exact⟨⟨by omega,by omega⟩,h⟩
  grind
theorem BX(r:Lt.Reader)(l:List (List UInt8))(hp:bz r l)(KK:Unit×Lt.Reader->Prop)(KP:Value->Lt.Reader->Prop)(h:exP (qZ r l) (fun z x=>KK (z,x)) KP):wU r l KK KP:=by
 obtain⟨⟨hi,hw,_,_⟩,a,hr⟩:=hp;have h8:=hi.1
 unfold wU;unfold qZ Lt.fW ij at h;simp only[fI,mM,sL]at h;dsimp only;simp only[zV hw,dR,o5,show l.getD 1 default=Lt.w1 l from rfl,show l.getD 2 default=Lt.w2 l from rfl,show l.getD 1 []=Lt.w1 l from rfl,show l.getD 2 []=Lt.w2 l from rfl,aq,az,aC,cc,aZ,and_self,true_and]at h⊢;generalize cj (Lt.w1 l)=nm at h⊢;generalize pH (Lt.w2 l)=b at h⊢;generalize r.abs.out=o at h⊢;cases o with
 |false=>grind
 |true=>
  refine ifk (fun hc=>by grind) (fun _=>fun _=>?_);by_cases h3:l.length=3
  ·refine ifk (fun hc=>by grind) (fun _=>⟨⟨by decide,by omega⟩,⟨by decide,by omega⟩,?_⟩);cases nm with
   |false=>grind
   |true=>
    cases b with
    |false=>grind
    |true=>
     rw[if_neg (by simp[h3])]at h;simp only[if_true];refine fun _=>ifk (fun hc=>?_) (fun hc=>?_)
     ·grind [ou]
     ·rw[if_neg (show ¬ 8<=r.abs.P.Funcs.length by grind [ou])]at h;have h9:r.p.Funcs.length < 8:=by grind
      rw[agT];exact⟨⟨by omega,by omega⟩,h⟩
  grind
theorem zG(w:List UInt8)(a b:Int)(K:Int->Prop)(KP:Value->Prop):exQ (q0 w a b) K KP=if((bq w).2&&decide (a<=(bq w).1)&&decide ((bq w).1<=b))=true then K (bq w).1 else KP (Lt.flt 3):=by
 unfold q0;rw[kj,Bool.and_assoc]
theorem Jn(r:Lt.Reader)(l:List (List UInt8))(hp:bz r l)(KK:Unit×Lt.Reader->Prop)(KP:Value->Lt.Reader->Prop)(h:exP (yq r l) (fun z x=>KK (z,x)) KP):CB r l KK KP:=by
 obtain⟨⟨hi,hw,_,_⟩,a,hr⟩:=hp;unfold CB;unfold yq dJ at h;simp only[fI,mM,sL]at h;dsimp only;simp only[zV hw,dR,zG,show l.getD 1 default=Lt.w1 l from rfl,show l.getD 2 default=Lt.w2 l from rfl,aq,az,aC,cc,aZ,and_self,true_and]at h⊢;generalize cj (Lt.w1 l)=nm at h⊢;generalize((bq (Lt.w2 l)).2&&decide (0<=(bq (Lt.w2 l)).1)&&decide ((bq (Lt.w2 l)).1<=8))=b at h⊢;generalize r.abs.out=o at h⊢;cases o with
 |false=>grind
 |true=>
  refine ifk (fun hc=>by grind) (fun _=>fun _=>?_);by_cases h3:l.length=3
  ·refine ifk (fun hc=>by grind) (fun _=>⟨⟨by decide,by omega⟩,⟨by decide,by omega⟩,?_⟩);cases nm with
   |false=>grind
   |true=>
    cases b with
    |false=>grind
    |true=>
     rw[if_neg (by simp[h3])]at h;simp only[if_true];refine fun _=>ifk (fun hc=>?_) (fun hc=>?_)
     ·grind [ou]
     ·rw[if_neg (show ¬ 8<=r.abs.P.Externs.length by grind [ou])]at h;have h9:r.p.Externs.length < 8:=by grind
      rw[agT];exact⟨⟨by omega,by omega⟩,h⟩
  grind
theorem V6(r:Lt.Reader)(l:List (List UInt8))(hp:bz r l)(KK:Unit×Lt.Reader->Prop)(KP:Value->Lt.Reader->Prop)(h:exP (Z3 r l) (fun z x=>KK (z,x)) KP):TT r l KK KP:=by
 unfold TT;unfold Z3 at h;simp only[fI,mM,Ki]at h
 grind [ad4]
theorem zW{r:Lt.Reader}(hw:0<=r.where_/\r.where_<=7){n:Int}(h2:2<=n)(h7:n<=7):ir [n] r.where_=decide (r.abs.Where=n+1):=by
 grind [ir,Lt.Reader.abs]
theorem MI(r:Lt.Reader)(l:List (List UInt8))(hp:bz r l)(KK:Unit×Lt.Reader->Prop)(KP:Value->Lt.Reader->Prop)(h:exP (FG r l) (fun z x=>KK (z,x)) KP):Gq r l KK KP:=by
 obtain⟨⟨hi,hw,_,_⟩,d,hr⟩:=hp;unfold Gq;unfold FG fQ ij at h;simp only[fI,mM,sL]at h;dsimp only;simp only[zW hw (n:=2) (by decide) (by decide),dR,o5,show l.getD 1 default=Lt.w1 l from rfl,show l.getD 2 default=Lt.w2 l from rfl,show l.getD 1 []=Lt.w1 l from rfl,show l.getD 2 []=Lt.w2 l from rfl,aq,az,aC,cc,aZ,and_self,true_and]at h⊢;generalize cj (Lt.w1 l)=nm at h⊢;generalize pH (Lt.w2 l)=e at h⊢;by_cases c:r.abs.Where=3
 ·obtain⟨hf,_,a,_⟩:=iP hi kQ1;have hf:r.p.Funcs≠[]:=hf
  have b:r.p.Funcs.length<=5000:=by have:r.p.Funcs.length<=8:=hi.2.1.2.2;omega
  have a:(r.p.Funcs.getD (r.p.Funcs.length - 1) default).Params.length<=6:=a
  simp only[cy hf b,dI hf,dH hf,Int.toNat_natCast,true_and,and_self];refine ifk (fun hc=>by grind) (fun _=>fun _=>?_);by_cases h3:l.length=3
  ·refine ifk (fun hc=>by grind) (fun _=>⟨⟨by decide,by omega⟩,⟨by decide,by omega⟩,?_⟩);cases nm with
   |false=>grind
   |true=>
    cases e with
    |false=>grind
    |true=>
     rw[if_neg (by grind)]at h;simp only[if_true];refine fun _=>fun _=>ifk (fun hc=>?_) (fun hc=>?_)
     ·rw[if_pos (show 6<=r.abs.curF.Params.length from(show 6<=(r.p.Funcs.getD (r.p.Funcs.length - 1) default).Params.length by grind))]at h;exact h
     ·rw[if_neg (show ¬ 6<=r.abs.curF.Params.length from(show ¬ 6<=(r.p.Funcs.getD (r.p.Funcs.length - 1) default).Params.length by grind))]at h;rw[agT];exact⟨⟨by omega,by omega⟩,h⟩
  grind
 grind
theorem acO{r:Lt.Reader}(hw:0<=r.where_/\r.where_<=7):ir [2,3] r.where_=(decide (r.abs.Where=3)||decide (r.abs.Where=4)):=by
 have a:=zW hw (n:=2) (by decide) (by decide)
 have b:=zW hw (n:=3) (by decide) (by decide)
 grind [ir]
theorem aeX{r:Lt.Reader}(hw:0<=r.where_/\r.where_<=7):ir [1] r.where_=decide (r.abs.Where=1):=by
 grind [ir,Lt.Reader.abs]
theorem MG(r:Lt.Reader)(l:List (List UInt8))(hp:bz r l)(KK:Unit×Lt.Reader->Prop)(KP:Value->Lt.Reader->Prop)(h:exP (FE r l) (fun z x=>KK (z,x)) KP):Gn r l KK KP:=by
 obtain⟨⟨hi,hw,_,_⟩,c,hr⟩:=hp;unfold Gn;unfold FE fO ij at h;simp only[fI,mM,PA,Ki]at h;dsimp only;simp only[aeX hw,dR,o5,show l.getD 1 default=Lt.w1 l from rfl,show l.getD 2 default=Lt.w2 l from rfl,show l.getD 1 []=Lt.w1 l from rfl,show l.getD 2 []=Lt.w2 l from rfl,aq,az,aC,cc,aZ,and_self,true_and]at h⊢;generalize cj (Lt.w1 l)=nm at h⊢;generalize pH (Lt.w2 l)=d at h⊢;by_cases a:r.abs.Where=1
 ·have hf:r.abs.P.Classes≠[]:=hi.2.2.2.1 a
  have hf:r.p.Classes≠[]:=hf
  have b:r.p.Classes.length<=5000:=by have:r.p.Classes.length<=8:=hi.2.1.1;omega
  simp only[cy hf b,dI hf,dH hf,Int.toNat_natCast,true_and,and_self];refine ifk (fun hc=>by grind) (fun _=>fun _=>?_);by_cases h3:l.length=3
  ·refine ifk (fun hc=>by grind) (fun _=>⟨⟨by decide,by omega⟩,⟨by decide,by omega⟩,?_⟩);cases nm with
   |false=>grind
   |true=>
    cases d with
    |false=>grind
    |true=>
     rw[if_neg (by grind)]at h;simp only[if_true];refine fun _=>fun _=>ifk (fun hc=>?_) (fun hc=>?_)
     ·rw[if_pos (show 8<=(r.abs.P.Classes.getD (r.abs.P.Classes.length - 1) default).Fields.length from(show 8<=(r.p.Classes.getD (r.p.Classes.length - 1) default).Fields.length by grind))]at h;exact h
     ·rw[if_neg (show ¬ 8<=(r.abs.P.Classes.getD (r.abs.P.Classes.length - 1) default).Fields.length from(show ¬ 8<=(r.p.Classes.getD (r.p.Classes.length - 1) default).Fields.length by grind))]at h;have h9:(r.p.Classes.getD (r.p.Classes.length - 1) default).Fields.length < 8:=by grind
      rw[agT];exact⟨⟨by omega,by omega⟩,h⟩
  grind
 grind
theorem BY(r:Lt.Reader)(l:List (List UInt8))(hp:bz r l)(KK:Unit×Lt.Reader->Prop)(KP:Value->Lt.Reader->Prop)(h:exP (q8 r l) (fun z x=>KK (z,x)) KP):wV r l KK KP:=by
 obtain⟨⟨hi,hw,_,_⟩,d,hr⟩:=hp;unfold wV;unfold q8 Lt.jA ij at h;simp only[fI,mM,sL]at h;dsimp only;simp only[acO hw,dR,o5,show l.getD 1 default=Lt.w1 l from rfl,show l.getD 2 default=Lt.w2 l from rfl,show l.getD 1 []=Lt.w1 l from rfl,show l.getD 2 []=Lt.w2 l from rfl,aq,az,aC,cc,aZ,and_self,true_and]at h⊢;generalize cj (Lt.w1 l)=nm at h⊢;generalize pH (Lt.w2 l)=e at h⊢;by_cases c:(r.abs.Where=3\/r.abs.Where=4)
 ·have hb:(decide (r.abs.Where=3)||decide (r.abs.Where=4))=true:=by grind
  obtain⟨hf,_,_,a,_⟩:=iP hi kQ1;have hf:r.p.Funcs≠[]:=hf
  have b:r.p.Funcs.length<=5000:=by have:r.p.Funcs.length<=8:=hi.2.1.2.2;omega
  have a:(r.p.Funcs.getD (r.p.Funcs.length - 1) default).Vars.length<=1024:=a
  simp only[cy hf b,dI hf,dH hf,Int.toNat_natCast,true_and,and_self];refine ifk (fun hc=>by grind) (fun _=>fun _=>?_);by_cases h3:l.length=3
  ·refine ifk (fun hc=>by grind) (fun _=>⟨⟨by decide,by omega⟩,⟨by decide,by omega⟩,?_⟩);cases nm with
   |false=>grind
   |true=>
    cases e with
    |false=>grind
    |true=>
     rw[if_neg (by grind)]at h;simp only[if_true];refine fun _=>fun _=>ifk (fun hc=>?_) (fun hc=>?_)
     ·rw[if_pos (show 1024<=r.abs.curF.Vars.length from(show 1024<=(r.p.Funcs.getD (r.p.Funcs.length - 1) default).Vars.length by grind))]at h;exact h
     ·rw[if_neg (show ¬ 1024<=r.abs.curF.Vars.length from(show ¬ 1024<=(r.p.Funcs.getD (r.p.Funcs.length - 1) default).Vars.length by grind))]at h;rw[agT];exact⟨⟨by omega,by omega⟩,h⟩
  grind
 grind
theorem NB{f e c d n:Bool}{a:Prop}{B:Unit->Prop}(hb:(f||e||(c&&d))=true)(hn:n=true)(h:B ()) :
  aa (fun b:Unit->Prop=>if f=true then(if(!true)=true then a else b ())else(if e=true then(if(!true)=true then a else b ())else(if c=true then(if d=true then(if(!n)=true then a else b ())else(if(!false)=true then a else b ()))else(if(!false)=true then a else b ())))) B:=by
 intro J g
 grind
theorem MK(r:Lt.Reader)(l:List (List UInt8))(hp:bz r l)(KK:Unit×Lt.Reader->Prop)(KP:Value->Lt.Reader->Prop)(h:exP (FI r l) (fun z x=>KK (z,x)) KP):Gs r l KK KP:=by
 obtain⟨⟨hi,hw,_,_⟩,g,hr⟩:=hp;unfold Gs;unfold FI Lt.dG at h;simp only[fI,mM,sL]at h;dsimp only;simp only[dR,show l.getD 1 default=Lt.w1 l from rfl]at h⊢;generalize cj (Lt.w1 l)=nm at h⊢;have a:(decide (r.abs.Where=3)||decide (r.abs.Where=4)||decide (r.abs.Where=9))=(decide (r.where_=2)||decide (r.where_=3)||(decide (r.where_=0)&&decide (0<=r.long))):=by
  grind [Lt.Reader.abs]
 by_cases b:(decide (r.abs.Where=3)||decide (r.abs.Where=4)||decide (r.abs.Where=9))=true
 ·have f:r.abs.Where=3\/r.abs.Where=4\/r.abs.Where=9:=by grind
  obtain⟨hf,_,_,_,c⟩:=iP hi kQ1;have hf:r.p.Funcs≠[]:=hf
  have d:r.p.Funcs.length<=5000:=by have:r.p.Funcs.length<=8:=hi.2.1.2.2;omega
  have c:(r.p.Funcs.getD (r.p.Funcs.length - 1) default).Blocks.length<=256:=c
  have e:0<r.p.Funcs.length:=ahD.2 hf
  simp only[b,ag1]at h;rw[a]at b;simp only[cy hf d,dI hf,dH hf,Int.toNat_natCast,true_and,and_self];refine NB b (by grind) (fun _=>?_);by_cases h2:l.length=2
  ·refine ifk (fun hc=>by grind) (fun _=>⟨⟨by decide,by omega⟩,?_⟩);cases nm with
   |false=>grind
   |true=>
    rw[if_neg (by simp[h2])]at h;simp only[if_true,aq,az,and_self];refine fun _=>fun _=>ifk (fun hc=>?_) (fun hc=>?_)
    ·rw[if_pos (show 256<=r.abs.curF.Blocks.length from(show 256<=(r.p.Funcs.getD (r.p.Funcs.length - 1) default).Blocks.length by grind))]at h;exact h
    ·rw[if_neg (show ¬ 256<=r.abs.curF.Blocks.length from(show ¬ 256<=(r.p.Funcs.getD (r.p.Funcs.length - 1) default).Blocks.length by grind))]at h;rw[agT];exact⟨⟨by omega,by omega⟩,h⟩
  grind
 ·have b:(decide (r.abs.Where=3)||decide (r.abs.Where=4)||decide (r.abs.Where=9))=false:=by grind
  rw[b]at h;rw[a]at b;simp only[Bool.or_eq_false_iff,Bool.and_eq_false_iff,decide_eq_false_iff_not]at b;obtain⟨⟨b2,i⟩,b0⟩:=b;have h':KP (Lt.flt 3) r:=by grind
  simp only[b2,i,decide_false,agA,if_false];rcases b0 with b0|b0
  ·simpa[b0,aZ]using h'
  ·simp only[cc,aZ,b0,decide_false,agA,if_false,Bool.not_false,if_true]
   grind
theorem XM:∀k:Fin 35,1<=k.1->(Lt.Of (k.1:Int)).1.Word=gw.getD k.1 default:=by decide +kernel
theorem Y8(w:List UInt8)(KK:Int×Bool->Prop)(h:KK (Lt.yOp w)):aaC w KK:=by
 unfold aaC;unfold Lt.yOp Lt.sOp at h;have d:gw.length=35:=rfl
 have key:∀k i,1<=i->i+k=35->KK (Ny w (gw.drop i) (i:Int))->mG (fun(c:Int->Prop) a=>if(decide (a<=34))=true then(if(decide (((Lt.Of a).1).Word=w))=true then(KK (a,true))else(c (i64.wrap (a+1))))else(KK (0,false))) (k+1) (i:Int):=by
  intro k;induction k with
  |zero=>
   intro i h1 hi h;have e:i=35:=by omega
   subst e;exact h
  |succ k ih=>
   intro i h1 hi h;have b:i<gw.length:=by omega
   rw[agO b]at h;have e:gw.getD i default=gw[i]:=by grind
   rw[<- e]at h;show(if(decide ((i:Int)<=34))=true then _ else _)
   rw[if_pos (by grind)];simp only[Ny]at h;have hw:=XM ⟨i,by omega⟩ h1
   grind [au]
 exact⟨35,key 34 1 (af2 1) rfl h⟩
theorem RO(l:List (List UInt8))(objs:Bool)(hp:kG l objs)(KK:List Lt.Arg->Prop)(KP:Value->Prop)(h:exQ (rF l objs) KK KP):Om l objs KK KP:=by
 have hp:l.length<=1099511627776:=hp
 unfold Om;unfold rF dB at h;rw[kj]at h;refine fun hl=>aO _ l.length (fun i x=>x=((l.take i).map (fun w=>(Lt.cX w).1),(i:Int))/\(l.take i).all (eQ objs)=true) (fun R i x hi hx ih=>?_) (fun R x hx=>?_) _ ⟨rfl,rfl⟩
 ·obtain⟨rfl,a⟩:=hx;dsimp only;rw[if_pos (bP hi)];simp only[Int.toNat_natCast];refine⟨⟨af9 i,hi⟩,trivial,?_⟩;unfold Bv;rw[kj]
  grind [bC,au]
 grind
theorem ya(w:List UInt8)(o:Bool)(K:Lt.Arg->Prop)(KP:Value->Prop):exQ (Bv w o) K KP=if eQ o w=true then K (Lt.cX w).1 else KP (Lt.flt 3):=by
 unfold Bv;rw[kj]
theorem Iu(l:List (List UInt8))(o:Bool)(K:List Lt.Arg->Prop)(KP:Value->Prop):exQ (rF l o) K KP=if(dB l o).2=true then K (dB l o).1 else KP (Lt.flt 3):=by
 unfold rF;rw[kj]
theorem VB{r:Lt.Reader}(hw:0<=r.where_/\r.where_<=7):ir [4,5,6,7] r.where_=r.abs.ins:=by
 grind [ir,Lt.Reader.abs]
theorem acP{r:Lt.Reader}(hw:0<=r.where_/\r.where_<=7):ir [6,7] r.where_=(decide (7<=r.abs.Where)&&r.abs.ins):=by
 grind [ir,Lt.Reader.abs]
theorem Vk(n:Nat):decide (Int.tmod (n:Int) 2=0)=decide (n % 2=0):=by
 grind
theorem M4{σ:Type}(l:List (List UInt8))(objs:Bool)(st:List Lt.Bind->σ)(body:(Int×σ->Prop)->Int×σ->Prop)(E:Prop)(fin:List Lt.Bind->Prop)
  (hs:∀R i a,i+1<l.length->a.length<=i->(if cj (l.getD i default)=true then(if eQ objs (l.getD (i+1) default)=true then R (((i+2:Nat):Int),st (a++[⟨l.getD i default,(Lt.cX (l.getD (i+1) default)).1⟩]))else E)else E)->body R ((i:Int),st a))
  (he:∀R a,a.length<=l.length->fin a->body R ((l.length:Int),st a)) :
  ∀n i a,l.length=i+2*n->a.length<=i->(match cZ objs (l.drop i)with|some x=>fin (a++x)|none=>E)->mG body (n+1) ((i:Int),st a):=by
 intro n;induction n with
 |zero=>
  intro i a hi b h;have e:i=l.length:=by omega
  subst e;rw[ahH]at h;exact he _ a b (by grind [cZ])
 |succ n ih=>
  intro i a hi b h;have h3:i+1<l.length:=by omega
  have h4:i<l.length:=by omega
  have hd:l.drop i=l.getD i default::l.getD (i+1) default::l.drop (i+2):=by
   grind [agO]
  rw[hd,cZ]at h;refine hs _ i a h3 b ?_;refine ifk (fun c=>ifk (fun c2=>?_) (fun c2=>?_)) (fun c=>?_)
  ·rw[if_pos (by grind)]at h;refine ih (i+2) _ kQ1 (by grind) ?_
   grind
  all_goals grind
theorem Sk{l:List (List UInt8)}{f:Nat}(hf:f<=l.length){E:Prop}{fin:List Lt.Bind->Prop}
  (h1:(bQ l (f:Int) objs).2=false->E) (h2:(bQ l (f:Int) objs).2=true->fin (bQ l (f:Int) objs).1) :
  match cZ objs (l.drop f)with|some x=>fin ([]++x)|none=>E:=by
 grind [bQ]
theorem Dr{σ:Type}(l:List (List UInt8))(f:Nat)(objs:Bool)(st:List Lt.Bind->σ)(body:(Int×σ->Prop)->Int×σ->Prop)(E:Prop)(fin:List Lt.Bind->Prop)
  (hs:∀R i a,i+1<l.length->a.length<=i->(if cj (l.getD i default)=true then(if eQ objs (l.getD (i+1) default)=true then R (((i+2:Nat):Int),st (a++[⟨l.getD i default,(Lt.cX (l.getD (i+1) default)).1⟩]))else E)else E)->body R ((i:Int),st a))
  (he:∀R a,a.length<=l.length->fin a->body R ((l.length:Int),st a)) (n:Nat) (hn:l.length=f+2*n)
  (h1:(bQ l (f:Int) objs).2=false->E) (h2:(bQ l (f:Int) objs).2=true->fin (bQ l (f:Int) objs).1):ab body ((f:Int),st []):=
 ⟨_,M4 l objs st body E fin hs he n f [] hn (agW _) (Sk kQ1 h1 h2)⟩
theorem V5(r:Lt.Reader)(l:List (List UInt8))(hp:bz r l)(KK:Unit×Lt.Reader->Prop)(KP:Value->Lt.Reader->Prop)(h:exP (Z2 r l) (fun z x=>KK (z,x)) KP):TS r l KK KP:=by
 obtain⟨⟨hi,hw,B,_⟩,s,hr⟩:=hp;have hr:l.length<=1099511627776:=hr
 unfold TS;unfold Z2 Lt.lQ at h;simp only[fI,mM,PA,Ki]at h;dsimp only;simp only[zW hw (n:=4) (by decide) (by decide),dR,ya,Vk,aq,az,aC,cc,aZ,and_self,true_and];by_cases k:r.abs.Where=5
 ·obtain⟨hf,_,_,_,y⟩:=iP hi kQ1;obtain⟨a,q,_⟩:=lY hi kQ1;have hf:r.p.Funcs≠[]:=hf
  have d:r.p.Funcs.length<=5000:=by have:r.p.Funcs.length<=8:=hi.2.1.2.2;omega
  have e:r.abs.curF.Blocks.length<=5000:=by omega
  have v:r.p.Funcs.getD (r.p.Funcs.length - 1) default=r.abs.curF:=rfl
  have C:r.abs.curF.Blocks.getD (r.abs.curF.Blocks.length - 1) default=r.abs.curB:=rfl
  have o:i64.wrap (r.long+1)=r.long+1:=eI kQ1 kQ1
  simp only[cy hf d,dI hf,dH hf,Int.toNat_natCast,v,cy a e,dH a,dI a,C,true_and,and_self,agT,Eb (show r.abs.curB.Phis.length<=5000 by omega) (show 40<=200 by omega),o,show l.getD 1 default=Lt.w1 l from rfl];refine ifk (fun hc=>by grind) (fun _=>fun _=>?_);by_cases h4:4<=l.length/\l.length % 2=0
  ·obtain⟨n,hn⟩:∃n,l.length=2+2*(n+1):=⟨l.length / 2 - 2,by omega⟩
   rw[if_pos (by grind)];refine⟨by decide,ifk (fun hc=>by grind) (fun _=>⟨⟨by decide,by omega⟩,?_⟩)⟩;cases w:cj (Lt.w1 l)with
   |false=>grind
   |true=>
    rw[if_pos rfl];refine Dr l 2 false (fun c=>(⟨Lt.w1 l,c.map fun x=>⟨x.Name,x.A⟩⟩:Lt.Phi)) _ (KP (Lt.flt 3) r) (fun x=>if 256<x.length\/1024<=r.long then KP (Lt.flt 2) r else KK ((),⟨(r.abs.block (fun b=>{ b with Phis:=b.Phis++[⟨Lt.w1 l,x.map fun x=>⟨x.Name,x.A⟩⟩] })).P,r.at_,4,r.first,r.long+1⟩)) (fun R i c h1 u g=>?_) (fun R c u g=>?_) (n+1) hn (fun hc=>?_) (fun hc=>?_)
    ·simp only[bP (show i<l.length by omega),if_true,Int.toNat_natCast,show i64.wrap ((i:Int)+1)=((i+1:Nat):Int)from au kQ1,show i64.wrap ((i:Int)+2)=((i+2:Nat):Int)by grind [eI]]
     grind
    ·simp only[ji,agA,if_false];refine fun _ _=>?_
     rw[af7,eI kQ1 kQ1];refine ifk (fun m=>?_) (fun m=>ifk (fun c2=>?_) (fun c2=>fun _ _=>?_))
     ·grind
     ·grind
     ·rw[if_neg (by grind)]at g;have t:r.where_=4:=by
       have:=zW hw (n:=4) (by decide) (by decide)
       grind [ir]
      rw[t];exact g
    ·grind
    ·have j:=sO (l:=l) (f:=2) (objs:=false) hc (by decide)
     rw[if_neg (by grind)]at h;exact h
  grind [sO]
 grind
theorem MH(r:Lt.Reader)(l:List (List UInt8))(hp:bz r l)(KK:Unit×Lt.Reader->Prop)(KP:Value->Lt.Reader->Prop)(h:exP (FF r l) (fun z x=>KK (z,x)) KP):Gp r l KK KP:=by
 obtain⟨⟨hi,hw,s,_⟩,k,hr⟩:=hp;have hr:l.length<=1099511627776:=hr
 unfold Gp;unfold FF Lt.sAt at h;simp only[fI,mM,PA,Ki]at h;dsimp only;simp only[zW hw (n:=6) (by decide) (by decide),dR,ya,zG,Vk,aq,az,aC,cc,aZ,and_self,true_and];by_cases t:r.abs.Where=7
 ·obtain⟨hf,_,_,_,w⟩:=iP hi kQ1;obtain⟨b,D,A,_⟩:=lY hi kQ1;obtain⟨c,v,_⟩:=CF hi kQ1 kQ1;have hf:r.p.Funcs≠[]:=hf
  have g:r.p.Funcs.length<=5000:=by have:r.p.Funcs.length<=8:=hi.2.1.2.2;omega
  have j:r.abs.curF.Blocks.length<=5000:=by omega
  have f:r.abs.curB.Code.length<=5000:=by omega
  have q:r.p.Funcs.getD (r.p.Funcs.length - 1) default=r.abs.curF:=rfl
  have u:r.abs.curF.Blocks.getD (r.abs.curF.Blocks.length - 1) default=r.abs.curB:=rfl
  have B:r.abs.curB.Code.getD (r.abs.curB.Code.length - 1) default=r.abs.curI:=rfl
  simp only[cy hf g,dI hf,dH hf,Int.toNat_natCast,q,cy b j,dH b,dI b,u,cy c f,dH c,dI c,B,true_and,and_self,agT,Eb (show r.abs.curI.Frames.length<=5000 by omega) (show 64<=200 by omega),show l.getD 1 default=Lt.w1 l from rfl,show l.getD 2 default=Lt.w2 l from rfl,show l.getD 3 default=Lt.w3 l from rfl];refine ifk (fun hc=>by grind) (fun _=>fun _=>?_);by_cases h4:4<=l.length/\l.length % 2=0
  ·obtain⟨n,hn⟩:∃n,l.length=4+2*n:=⟨l.length / 2 - 2,by omega⟩
   rw[if_pos (by grind)];refine⟨by decide,ifk (fun hc=>by grind) (fun _=>⟨⟨by decide,by omega⟩,⟨by decide,by omega⟩,⟨by decide,by omega⟩,?_⟩)⟩;cases C:cj (Lt.w1 l)with
   |false=>grind
   |true=>
   cases m:cj (Lt.w2 l)with
   |false=>grind
   |true=>
   cases F:((bq (Lt.w3 l)).2&&decide (0<=(bq (Lt.w3 l)).1)&&decide ((bq (Lt.w3 l)).1<=1024))with
   |false=>grind
   |true=>
    rw[if_pos rfl,if_pos rfl,if_pos rfl];refine Dr l 4 true (fun a=>(⟨Lt.w1 l,Lt.w2 l,(bq (Lt.w3 l)).1,a⟩:Lt.Frame)) _ (KP (Lt.flt 3) r) (fun x=>if 16<x.length\/16<=r.abs.curI.Frames.length then KP (Lt.flt 2) r else KK ((),⟨(r.abs.instr (fun y=>{ y with Frames:=y.Frames++[⟨Lt.w1 l,Lt.w2 l,(bq (Lt.w3 l)).1,x⟩] })).P,r.at_,6,r.first,r.long⟩)) (fun R i a h1 o e=>?_) (fun R a o e=>?_) n hn (fun hc=>?_) (fun hc=>?_)
    ·simp only[bP (show i<l.length by omega),if_true,Int.toNat_natCast,show i64.wrap ((i:Int)+1)=((i+1:Nat):Int)from au kQ1,show i64.wrap ((i:Int)+2)=((i+2:Nat):Int)by grind [eI]];refine fun _=>⟨⟨af9 i,by omega⟩,⟨af9 _,h1⟩,?_⟩
     refine ifk (fun d=>?_) (fun d=>?_)
     ·rw[if_pos d]at e;refine ifk (fun c2=>?_) (fun c2=>?_)
      all_goals grind
     grind
    ·simp only[ji,agA,if_false];refine fun _ _=>?_
     rw[eI kQ1 kQ1];refine ifk (fun d=>?_) (fun d=>fun _ _ _ _=>ifk (fun c2=>?_) (fun c2=>?_))
     ·grind
     ·grind
     ·rw[if_neg (by grind)]at e;have E:r.where_=6:=by
       have:=zW hw (n:=6) (by decide) (by decide)
       grind [ir]
      rw[E];exact e
    ·grind
    ·rw[if_neg (by grind)]at h;exact h
  grind [sO]
 grind
theorem Jq(r:Lt.Reader)(l:List (List UInt8))(hp:bz r l)(KK:Unit×Lt.Reader->Prop)(KP:Value->Lt.Reader->Prop)(h:exP (q7 r l) (fun z x=>KK (z,x)) KP):CE r l KK KP:=by
 obtain⟨⟨hi,hw,o,_⟩,k,hr⟩:=hp;have hr:l.length<=1099511627776:=hr
 unfold CE;unfold q7 Lt.lP at h;simp only[fI,mM,sL]at h;dsimp only;simp only[acP hw,dR,Iu,aq,az,aC,cc,aZ,and_self,true_and];by_cases e:7<=r.abs.Where/\r.abs.Where<=8
 ·obtain⟨hf,_,_,_,s⟩:=iP hi kQ1;obtain⟨a,A,v,_⟩:=lY hi kQ1;obtain⟨b,_,u⟩:=CF hi kQ1 kQ1;have hf:r.p.Funcs≠[]:=hf
  have f:r.p.Funcs.length<=5000:=by have:r.p.Funcs.length<=8:=hi.2.1.2.2;omega
  have g:r.abs.curF.Blocks.length<=5000:=by omega
  have d:r.abs.curB.Code.length<=5000:=by omega
  have n:r.p.Funcs.getD (r.p.Funcs.length - 1) default=r.abs.curF:=rfl
  have q:r.abs.curF.Blocks.getD (r.abs.curF.Blocks.length - 1) default=r.abs.curB:=rfl
  have w:r.abs.curB.Code.getD (r.abs.curB.Code.length - 1) default=r.abs.curI:=rfl
  have t:r.abs.ins=true:=by grind
  have j:(l.drop 2).take (l.length - 2)=l.drop 2:=ag4 (by grind)
  simp only[cy hf f,dI hf,dH hf,Int.toNat_natCast,n,cy a g,dH a,dI a,q,cy b d,dH b,dI b,w,j,true_and,and_self,agT,Eb (show r.abs.curI.Objs.length<=5000 by omega) (show 40<=200 by omega),show l.getD 1 default=Lt.w1 l from rfl];refine ifk (fun hc=>by grind) (fun _=>fun _=>?_);rw[if_neg (by grind),decide_eq_true e.1]at h;simp only[ag1]at h;by_cases h2:2<=l.length
  ·rw[if_pos (by grind)];by_cases i:l.length<=10
   ·refine ifk (fun hc=>by grind) (fun _=>⟨⟨by decide,by omega⟩,by decide,⟨h2,af2 _⟩,?_⟩);rw[decide_eq_true h2,decide_eq_true i]at h;simp only[ag1]at h;cases y:cj (Lt.w1 l)with
    |false=>grind
    |true=>
     rw[if_pos rfl];refine⟨by show(l.drop 2).length<=1099511627776;grind,?_⟩;cases m:(dB (l.drop 2) true).2 with
     |false=>grind
     |true=>
      rw[if_pos rfl];rw[if_neg (by grind)]at h;refine fun _ _ _ _=>ifk (fun c=>?_) (fun c=>?_)
      ·grind
      ·rw[if_neg (by grind)]at h;exact h
   grind
  grind
 grind
theorem WW{r:Lt.Reader}{w:Int}(K:Unit->Lt.Reader->Prop)(KP:Value->Lt.Reader->Prop)(o:Option α)(X:α->Lt.Read)(Y:Lt.Read) :
  exP (gP r (match o with|some t=>(0,X t)|none=>(3,Y)) w) K KP=match o with|some t=>K () ⟨(X t).P,r.at_,w,r.first,(X t).Long⟩|none=>KP (Lt.flt 3) r:=by cases o<;>rfl
theorem V3(r:Lt.Reader)(l:List (List UInt8))(hp:bz r l)(KK:Unit×Lt.Reader->Prop)(KP:Value->Lt.Reader->Prop)(h:exP (FC r l) (fun z x=>KK (z,x)) KP):TP r l KK KP:=by
 obtain⟨⟨hi,hw,u,_⟩,f,hr⟩:=hp;have hr:l.length<=1099511627776:=hr
 have h0:0<l.length:=ahD.2 f
 unfold TP;unfold FC at h;simp only[fI,mM,WW]at h;dsimp only;dsimp +instances only [eM]
 simp only[VB hw,dR,ya,aq,az,aC,cc,aZ,and_self,true_and];cases n:r.abs.ins with
 |false=>grind
 |true=>
 rw[if_neg (by grind)]at h;have m:5<=r.abs.Where/\r.abs.Where<=8:=by grind
 obtain⟨hf,_,_,_,t⟩:=iP hi kQ1;obtain⟨b,q,o,_⟩:=lY hi kQ1;have hf:r.p.Funcs≠[]:=hf
 have d:r.p.Funcs.length<=5000:=by have:r.p.Funcs.length<=8:=hi.2.1.2.2;omega
 have e:r.abs.curF.Blocks.length<=5000:=by omega
 have s:r.p.Funcs.getD (r.p.Funcs.length - 1) default=r.abs.curF:=rfl
 have v:r.abs.curF.Blocks.getD (r.abs.curF.Blocks.length - 1) default=r.abs.curB:=rfl
 simp only[cy hf d,dI hf,dH hf,Int.toNat_natCast,s,cy b e,dH b,dI b,v,true_and,and_self,implies_true,forall_const,show l.getD 0 default=Lt.w0 l from rfl,show l.getD 1 default=Lt.w1 l from rfl,show l.getD 2 default=Lt.w2 l from rfl,show l.getD 3 default=Lt.w3 l from rfl];refine ifk (fun hc=>by grind) (fun _=>⟨⟨by decide,h0⟩,?_⟩);refine ifk (fun g=>?_) (fun g=>ifk (fun k=>?_) (fun k=>ifk (fun i=>?_) (fun i=>?_)))
 ·have g:Lt.w0 l=lm:=by grind
  have hT:pS l=if(decide (l.length=2)&&cj (Lt.w1 l))=true then some ⟨1,⟨0,[],0⟩,[Lt.w1 l],0⟩else none:=by
   grind [pS,kJ]
  rw[hT]at h;refine fun _=>ifk (fun c=>?_) (fun c=>?_)
  ·rw[if_neg (by grind)]at h;exact h
  ·have h2:l.length=2:=by grind
   refine⟨⟨by decide,by omega⟩,ifk (fun a=>?_) (fun a=>?_)⟩
   ·rw[if_pos (by grind)]at h;exact fun _ _=>h
   ·rw[if_neg (by grind)]at h;exact h
 ·have j:¬ Lt.w0 l=lm:=by grind
  have k:Lt.w0 l=dz:=by grind
  have hT:pS l=if(decide (l.length=4)&&(cj (Lt.w2 l)&&cj (Lt.w3 l))&&eQ false (Lt.w1 l))=true then some ⟨2,(Lt.cX (Lt.w1 l)).1,[Lt.w2 l,Lt.w3 l],0⟩else none:=by
   grind [pS,kJ]
  rw[hT]at h;refine fun _=>ifk (fun c=>?_) (fun c=>?_)
  ·rw[if_neg (by grind)]at h;exact h
  ·have h2:l.length=4:=by grind
   refine⟨⟨by decide,by omega⟩,⟨by decide,by omega⟩,⟨by decide,by omega⟩,ifk (fun a=>ifk (fun c2=>ifk (fun c3=>?_) (fun c3=>?_)) (fun c2=>?_)) (fun a=>?_)⟩
   ·rw[if_pos (by grind)]at h;exact fun _ _=>h
   ·rw[if_neg (by grind)]at h;exact h
   ·rw[if_neg (by grind)]at h;exact h
   ·rw[if_neg (by grind)]at h;exact h
 ·have j:¬ Lt.w0 l=lm:=by grind
  have n2:¬ Lt.w0 l=dz:=by grind
  have i:Lt.w0 l=rh:=by grind
  have hT:pS l=if(decide (l.length=2)&&eQ false (Lt.w1 l))=true then some ⟨3,(Lt.cX (Lt.w1 l)).1,[],0⟩else none:=by
   grind [pS,kJ]
  rw[hT]at h;refine fun _=>ifk (fun c=>?_) (fun c=>?_)
  ·rw[if_neg (by grind)]at h;exact h
  ·have h2:l.length=2:=by grind
   refine⟨⟨by decide,by omega⟩,ifk (fun a=>?_) (fun a=>?_)⟩
   ·rw[if_pos (by grind)]at h;exact fun _ _=>h
   ·rw[if_neg (by grind)]at h;exact h
 ·have j:¬ Lt.w0 l=lm:=by grind
  have n2:¬ Lt.w0 l=dz:=by grind
  have w:¬ Lt.w0 l=rh:=by grind
  have hT:pS l=if(decide (l.length=2)&&(bq (Lt.w1 l)).2)=true then some ⟨4,⟨0,[],0⟩,[],(bq (Lt.w1 l)).1⟩else none:=by
   grind [pS]
  rw[hT]at h;refine fun _=>ifk (fun c=>?_) (fun c=>?_)
  ·rw[if_neg (by grind)]at h;exact h
  ·have h2:l.length=2:=by grind
   refine⟨⟨by decide,by omega⟩,ifk (fun a=>?_) (fun a=>?_)⟩
   ·have a:(bq (Lt.w1 l)).2=false:=by grind
    rw[if_neg (by grind)]at h;exact h
   ·have a:(bq (Lt.w1 l)).2=true:=by grind
    rw[if_pos (by grind)]at h;exact fun _ _=>h
theorem Nw(w:List UInt8)(l:List (List UInt8))(o:Bool):dB (w::l) o=if eQ o w=true then(if(dB l o).2=true then((Lt.cX w).1::(dB l o).1,true)else([],false))else([],false):=by
 grind [dB]
theorem RP(r:Lt.Reader)(l:List (List UInt8))(hp:bz r l)(KK:Unit×Lt.Reader->Prop)(KP:Value->Lt.Reader->Prop)(h:exP (xF r l) (fun z x=>KK (z,x)) KP):On r l KK KP:=by
 obtain⟨⟨hi,hw,S,_⟩,v,hr⟩:=hp;have hr:l.length<=1099511627776:=hr
 have h0:0<l.length:=ahD.2 v
 have e0:cY r.abs l=if(Lt.sEq l&&!cj (Lt.w0 l))=true then(3,r.abs)else Ip r.abs (if Lt.sEq l then Lt.w0 l else []) (if Lt.sEq l then l.drop 2 else l):=rfl
 unfold On;unfold xF at h;rw[e0]at h;dsimp only;simp only[VB hw,dR,ya,Iu];cases E:r.abs.ins with
 |false=>
  have h3:KP (Lt.flt 3) r:=by
   unfold Ip at h;rw[if_pos E]at h;split at h<;>exact h
  exact h3
 |true=>
 have U:5<=r.abs.Where/\r.abs.Where<=8:=by grind
 obtain⟨hf,_,_,_,Y⟩:=iP hi kQ1;obtain⟨g,aa,Z,_⟩:=lY hi kQ1;have hf:r.p.Funcs≠[]:=hf
 have C:r.p.Funcs.length<=5000:=by have:r.p.Funcs.length<=8:=hi.2.1.2.2;omega
 have F:r.abs.curF.Blocks.length<=5000:=by omega
 have B:r.abs.curB.Code.length<=5000:=by omega
 have N:r.p.Funcs.getD (r.p.Funcs.length - 1) default=r.abs.curF:=rfl
 have T:r.abs.curF.Blocks.getD (r.abs.curF.Blocks.length - 1) default=r.abs.curB:=rfl
 have l1:∀x:Lt.Instr,([x]:List Lt.Instr).length=1:=fun _=>rfl
 have W:i64.wrap (r.long+1)=r.long+1:=eI kQ1 kQ1
 simp only[cy hf C,dI hf,dH hf,Int.toNat_natCast,N,cy g F,dH g,dI g,T,l1,Eb B (show 112<=200 by omega),W,true_and,and_self,show l.getD 0 default=Lt.w0 l from rfl,show l.getD 1 default=Lt.w1 l from rfl];refine ifk (fun hc=>by grind) (fun _=>?_);refine fun L t=>?_
 have key:∀(l':List (List UInt8))(dst:List UInt8),0<l'.length->l'.length<=1099511627776->exP (gP r (Ip r.abs dst l') ((Ip r.abs dst l').2.Where - 1)) (fun z x=>KK (z,x)) KP->L (l',⟨0,dst,[],[],[],[]⟩):=by
  intro l' dst w X hk;refine t _ ?_;clear t h e0 L;have hk:match Lt.fP dst l' with
    |none=>KP (Lt.flt 3) r
    |some x=>if 1024<=r.long then KP (Lt.flt 2) r else KK ((),⟨(r.abs.block (fun b=>{ b with Code:=b.Code++[x] })).P,r.at_,(if x.Op=31\/x.Op=34 then 7 else 6) - 1,r.first,r.long+1⟩):=by
   unfold Ip at hk;rw[if_neg (by grind)]at hk;cases hs:Lt.fP dst l' with
   |none=>rw[hs]at hk;exact hk
   |some x=>
    rw[hs]at hk;simp only[show r.abs.Long=r.long from rfl]at hk⊢;by_cases hl:1024<=r.long
    ·rw[if_pos hl]at hk⊢;exact hk
    ·rw[if_neg hl]at hk⊢;exact hk
  unfold Lt.fP Kr at hk;have ew:l'.getD 0 default=Lt.w0 l':=rfl
  refine⟨⟨by decide,w⟩,?_⟩;unfold Lt.yOp;simp only[ew];obtain⟨_,_,e3,e4,Q,e6⟩:=pG (Lt.sOp (Lt.w0 l')).1;simp only[<- e3,<- e4,<- Q,<- e6];have f:(Lt.sOp (Lt.w0 l')).1=26\/(Lt.sOp (Lt.w0 l')).1=27->(Lt.rOf (Lt.sOp (Lt.w0 l')).1).1.Named=true:=by
   rintro(e|e)<;>rw[e]<;>rfl
  generalize Lt.sOp (Lt.w0 l')=O at hk f⊢;obtain⟨op,n⟩:=O;simp only at hk f⊢
  generalize(Lt.rOf op).1=y at hk f⊢;cases A:n with
  |false=>grind
  |true=>
  rw[A]at hk;refine ifk (fun hc=>by grind) (fun _=>?_);refine ifk (fun hc=>?_) (fun hc=>?_)
  ·grind
  rw[if_neg (by grind)]at hk;have M:(l'.drop 1).take (l'.length - 1)=l'.drop 1:=ag4 (by grind)
  rw[M];refine⟨by decide,⟨by omega,af2 _⟩,fun J j=>?_⟩;have H:∀nm gs,(if(decide (y.Least<=(gs.length:Int))&&decide ((gs.length:Int)<=y.Most))=true then(if 1024<=r.long then KP (Lt.flt 2) r else KK ((),⟨(r.abs.block (fun b=>{ b with Code:=b.Code++[(⟨op,dst,nm,gs,[],[]⟩:Lt.Instr)] })).P,r.at_,(if op=31\/op=34 then 7 else 6) - 1,r.first,r.long+1⟩))else KP (Lt.flt 3) r)->J ⟨op,dst,nm,gs,[],[]⟩:=by
   intro nm gs d;refine j _ ?_;clear j hk J;refine fun _=>ifk (fun V=>ifk (fun c2=>?_) (fun c2=>?_)) (fun V=>?_)
   ·grind
   ·rw[if_pos (by grind)]at d;refine ifk (fun hl=>?_) (fun hl=>?_)
    ·grind
    rw[if_neg (by grind)]at d;simp only[implies_true,forall_const,aq,jval,bor];refine fun _ _=>?_
    by_cases q:op=31\/op=34
    ·rw[if_pos (by grind)];rw[if_pos q]at d;exact d
    ·rw[if_neg (by grind)];rw[if_neg q]at d;exact d
   grind
  clear j;refine fun J8 s=>?_
  have g8:=s (decide (op=26)||decide (op=27)) ?_
  ·grind
  clear s J8;refine ifk (fun c=>?_) (fun c=>?_)
  ·have c:op=26\/op=27:=by grind
   have a:=f c
   rw[if_pos c]at hk;refine fun _=>ifk (fun c3=>?_) (fun c3=>?_)
   ·grind
   have h3:3<=l'.length:=by grind
   rw[if_neg kQ1]at hk;simp only[a,ag1,Nw,Bool.not_not]at hk;have m:(l'.drop 1).getD 1 default=Lt.w2 l':=by grind
   have D:((l'.drop 1).drop 0).take (1 - 0)=[Lt.w1 l']:=by
    grind [agO]
   have k:((l'.drop 1).drop 2).take ((l'.drop 1).length - 2)=l'.drop 3:=by grind [List.drop_drop,aiD]
   rw[m,D,k];refine⟨⟨by decide,by grind⟩,?_⟩;have I:∀{P:Prop},(cj (Lt.w2 l')=false->KP (Lt.flt 3) r)/\(cj (Lt.w2 l')=true->P)->(if cj (Lt.w2 l')=true then P else KP (Lt.flt 3) r):=by
    grind
   refine I ⟨fun hn=>?_,fun hn=>?_⟩
   ·grind
   rw[hn]at hk;refine⟨by decide,⟨by decide,by grind⟩,by decide,⟨by grind,af2 _⟩,fun _=>?_⟩;refine aO _ 1 (fun i x=>(i=0/\x=(([]:List Lt.Arg),(0:Int)))\/(i=1/\x=([(Lt.cX (Lt.w1 l')).1],(1:Int))/\eQ false (Lt.w1 l')=true)) (fun R i x hi hx hR=>?_) (fun R x hx=>?_) _ (Or.inl ⟨rfl,rfl⟩)
   ·rcases hx with⟨rfl,rfl⟩|⟨h1,_⟩
    ·show(if decide ((0:Int) < (([Lt.w1 l']:List (List UInt8)).length:Int))=true then _ else _)
     rw[if_pos (by simp)];refine⟨⟨Int.le_refl _,Nat.one_pos⟩,?_⟩;show(if eQ false (Lt.w1 l')=true then _ else _)
     refine ifk (fun u=>?_) (fun u=>?_)
     ·exact⟨⟨by omega,by grind⟩,hR _ (Or.inr ⟨rfl,rfl,u⟩)⟩
     grind
    ·omega
   ·rcases hx with⟨h1,_⟩|⟨_,rfl,u⟩
    ·omega
    ·show(if decide ((1:Int) < (([Lt.w1 l']:List (List UInt8)).length:Int))=true then _ else _)
     rw[if_neg (by simp)];rw[if_pos u]at hk;refine⟨by show(l'.drop 3).length<=1099511627776;grind,?_⟩;refine ifk (fun o=>?_) (fun o=>?_)
     ·rw[if_pos o]at hk;have K:(dB (l'.drop 3) false).1.length<=1099511627776:=by
       grind [dB]
      grind
     grind
  ·have c:¬ (op=26\/op=27):=by grind
   rw[if_neg c]at hk;refine ifk (fun a=>?_) (fun a=>?_)
   ·rw[if_pos a]at hk;refine fun _=>ifk (fun c3=>?_) (fun c3=>?_)
    ·grind
    have h3:2<=l'.length:=by grind
    rw[if_neg kQ1]at hk;simp only[a,ag1,Bool.not_not]at hk;have m:(l'.drop 1).getD 0 default=Lt.w1 l':=by grind
    have k:((l'.drop 1).drop 1).take ((l'.drop 1).length - 1)=l'.drop 2:=by grind [List.drop_drop,aiD]
    rw[m,k];refine⟨⟨by decide,by grind⟩,?_⟩;refine ifk (fun hn=>?_) (fun hn=>?_)
    ·rw[hn]at hk;refine⟨by decide,⟨by grind,af2 _⟩,by show(l'.drop 2).length<=1099511627776;grind,?_⟩
     grind
    grind
   ·rw[if_neg a]at hk;have a:y.Named=false:=Bool.eq_false_iff.2 a
    simp only[a,Bool.false_and,Bool.not_false,ahU]at hk;refine⟨by show(l'.drop 1).length<=1099511627776;grind,?_⟩
    grind
 have es:((decide (2 < (l.length:Int)))&&(decide (Lt.w1 l=[61])))=Lt.sEq l:=by
  grind [Lt.sEq]
 refine fun J3 G=>?_
 have I:=G (Lt.sEq l) ?_
 ·grind
 show(if Lt.sEq l=true then _ else _)
 by_cases hs:Lt.sEq l=true
 ·rw[if_pos hs];rw[hs]at h;have h2:2<l.length:=by grind
  refine⟨⟨by decide,h0⟩,?_⟩;refine ifk (fun hc=>⟨by decide,⟨by omega,af2 _⟩,?_⟩) (fun hc=>?_)
  ·grind [ag4,aiD]
  ·rw[Bool.eq_false_iff.2 hc]at h;exact h
 grind
def hd(p:Lt.Program):Nat:=p.Classes.length+p.Globals.length+p.Externs.length
def Rel(w:Int)(r:Lt.Reader)(x:Lt.Read):Prop:=
 (r.heads<hd x.P/\((w=1/\x.Where=1)\/(w=0/\x.Where=2))) \/
 (¬ r.heads<hd x.P/\(0<=x.Long/\x.Long<=1024)/\((2<=w/\w<=7/\x.Where=w+1)\/(w=0/\x.Where=9))) \/
 (¬ r.heads<hd x.P/\w=r.where_/\x.Where=r.abs.Where/\x.Long=r.long)
theorem sq{r:Lt.Reader}(h:r.inv)(hw:3<=r.abs.Where):0<=r.long:=by
 obtain⟨_,_,_,h4⟩:=h
 grind [Lt.Reader.abs]
section
variable {r:Lt.Reader} {l:List (List UInt8)}
theorem Sz(hz:(Lt.eh r.abs l).1=0):Rel 1 r (Lt.eh r.abs l).2:=by
 unfold Lt.eh at hz⊢;split at hz
 ·omega
 ·rename_i h1;rw[if_neg h1];split at hz
  ·omega
  ·rename_i h2;rw[if_neg h2];refine .inl ⟨?_,.inl ⟨rfl,rfl⟩⟩
   grind [hd,Lt.Reader.heads,ou]
end
section
variable {r:Lt.Reader} {l:List (List UInt8)}
theorem SA(hz:(fO r.abs l).1=0):Rel r.where_ r (fO r.abs l).2:=by
 unfold fO at hz⊢;split at hz
 ·omega
 ·rename_i h1;rw[if_neg h1];split at hz
  ·omega
  ·rename_i h2;rw[if_neg h2];refine .inr (.inr ⟨?_,rfl,rfl,rfl⟩)
   grind [hd,Lt.Reader.heads,ou,Lt.last]
end
section
variable {r:Lt.Reader} {l:List (List UInt8)}
theorem Ns(hz:(dK r.abs l).1=0):Rel 0 r (dK r.abs l).2:=by
 unfold dK at hz⊢;split at hz
 ·omega
 ·rename_i h1;rw[if_neg h1];refine .inl ⟨?_,.inr ⟨rfl,rfl⟩⟩
  grind [hd,Lt.Reader.heads,ou]
end
section
variable {r:Lt.Reader} {l:List (List UInt8)}
theorem Nr(hz:(dJ r.abs l).1=0):Rel 0 r (dJ r.abs l).2:=by
 unfold dJ at hz⊢;split at hz
 ·omega
 ·rename_i h1;rw[if_neg h1];refine .inl ⟨?_,.inr ⟨rfl,rfl⟩⟩
  grind [hd,Lt.Reader.heads,ou]
end
section
variable {r:Lt.Reader} {l:List (List UInt8)}
theorem WT(hz:(Lt.fW r.abs l).1=0):Rel 2 r (Lt.fW r.abs l).2:=by
 unfold Lt.fW at hz⊢;split at hz
 ·omega
 ·rename_i h1;rw[if_neg h1];exact .inr (.inl ⟨ahV _,⟨Int.le_refl _,show(0:Int)<=1024 by decide⟩,.inl ⟨by decide,by decide,rfl⟩⟩)
end
section
variable {r:Lt.Reader} {l:List (List UInt8)}
variable (h:r.inv)
include h
theorem SB(hz:(fQ r.abs l).1=0):Rel r.where_ r (fQ r.abs l).2:=by
 unfold fQ at hz⊢;split at hz
 ·omega
 ·rename_i h1;rw[if_neg h1];exact .inr (.inr ⟨ahV _,rfl,rfl,rfl⟩)
end
section
variable {r:Lt.Reader} {l:List (List UInt8)}
variable (h:r.inv)
include h
theorem ZE(hz:(Lt.jA r.abs l).1=0):Rel 3 r (Lt.jA r.abs l).2:=by
 unfold Lt.jA at hz⊢;split at hz
 ·omega
 ·rename_i h1;rw[if_neg h1];have hw:3<=r.abs.Where:=by grind
  exact .inr (.inl ⟨ahV _,⟨sq h hw,h.2.2.1.2⟩,.inl ⟨by decide,by decide,rfl⟩⟩)
end
section
variable {r:Lt.Reader} {l:List (List UInt8)}
variable (h:r.inv)
include h
theorem Sy(hz:(Lt.dG r.abs l).1=0):Rel 4 r (Lt.dG r.abs l).2:=by
 unfold Lt.dG at hz⊢;split at hz
 ·omega
 ·rename_i h1;rw[if_neg h1];have hw:3<=r.abs.Where:=by grind
  exact .inr (.inl ⟨ahV _,⟨sq h hw,h.2.2.1.2⟩,.inl ⟨by decide,by decide,rfl⟩⟩)
end
section
variable {r:Lt.Reader} {l:List (List UInt8)}
variable (h:r.inv)
include h
theorem ZD(hz:(Lt.lQ r.abs l).1=0):Rel 4 r (Lt.lQ r.abs l).2:=by
 unfold Lt.lQ at hz⊢;split at hz
 ·omega
 ·rename_i h1;rw[if_neg h1];split at hz
  ·omega
  ·rename_i h2;rw[if_neg h2];have hw:r.abs.Where=5:=by
    grind
   have h0:=sq h kQ1
   have hl:¬ 1024<=r.long:=fun e=>h2 (.inr e)
   exact .inr (.inl ⟨ahV _,⟨by show 0<=r.long+1;omega,by grind⟩,.inl ⟨by decide,by decide,hw⟩⟩)
end
section
variable {r:Lt.Reader} {l:List (List UInt8)}
variable (h:r.inv)
include h
theorem Kf(hz:(cY r.abs l).1=0):Rel ((cY r.abs l).2.Where - 1) r (cY r.abs l).2:=by
 unfold cY at hz⊢;split at hz
 ·omega
 ·rename_i h1;rw[if_neg h1];split at hz
  ·omega
  ·rename_i h2;rw[if_neg h2];split at hz
   ·omega
   ·rename_i x hx;simp only[hx];split at hz
    ·omega
    ·rename_i hl;rw[if_neg hl];have hw:3<=r.abs.Where:=by
      grind
     have h0:=sq h hw
     have hl:¬ 1024<=r.long:=hl
     refine .inr (.inl ⟨ahV _,⟨by show 0<=r.long+1;omega,by grind⟩,.inl ?_⟩)
     grind
end
section
variable {r:Lt.Reader} {l:List (List UInt8)}
variable (h:r.inv)
include h
theorem adE(hz:(Lt.sAt r.abs l).1=0):Rel 6 r (Lt.sAt r.abs l).2:=by
 unfold Lt.sAt at hz⊢;split at hz
 ·omega
 ·rename_i h1;rw[if_neg h1];split at hz
  ·omega
  ·rename_i h2;rw[if_neg h2];have hw:r.abs.Where=7:=by
    grind
   exact .inr (.inl ⟨ahV _,⟨sq h kQ1,h.2.2.1.2⟩,.inl ⟨by decide,by decide,hw⟩⟩)
end
section
variable {r:Lt.Reader} {l:List (List UInt8)}
variable (h:r.inv)
include h
theorem ZC(hz:(Lt.lP r.abs l).1=0):Rel 7 r (Lt.lP r.abs l).2:=by
 unfold Lt.lP at hz⊢;split at hz
 ·omega
 ·rename_i h1;rw[if_neg h1];have hw:7<=r.abs.Where:=by
   grind
  exact .inr (.inl ⟨ahV _,⟨sq h kQ1,h.2.2.1.2⟩,.inl ⟨by decide,by decide,rfl⟩⟩)
end
section
variable {r:Lt.Reader} {l:List (List UInt8)}
variable (h:r.inv)
include h
theorem ZB(a:r.abs.ins=true)(hz:(uF r.abs l).1=0):Rel 0 r (uF r.abs l).2:=by
 have hw:3<=r.abs.Where:=by
  grind
 unfold uF at hz⊢;split at hz
 ·exact .inr (.inl ⟨ahV _,⟨sq h hw,h.2.2.1.2⟩,.inr ⟨rfl,rfl⟩⟩)
 omega
end
theorem DC{r:Lt.Reader}{x y:Int×Lt.Read}{w:Int}(h1:x.1=y.1)(h2:x.1=0->x.2=y.2):gP r x w=gP r y w:=by
 grind [gP]
theorem XA{l:List (List UInt8)}(h:Lt.w0 l=lm\/Lt.w0 l=dz\/Lt.w0 l=rh\/Lt.w0 l=pq):pS l=kJ l:=by
 grind [pS,kJ]
theorem OP(r:Lt.Reader)(l:List (List UInt8))(h:r.inv):∃w,rG r l=gP r (aK r.abs l r.first) w/\((aK r.abs l r.first).1=0->Rel w r (aK r.abs l r.first).2):=by
 have ff:∀x:Lt.Read,¬ (((false,(0:Int)),x).1.1=true):=fun x=>by simp
 unfold rG;by_cases hs:Lt.sEq l=true
 ·have e:aK r.abs l r.first=cY r.abs l:=by grind [aK]
  rw[e,if_pos hs];exact⟨_,rfl,Kf h⟩
 rw[if_neg hs];by_cases q:Lt.w0 l=si
 ·have e:aK r.abs l r.first=if(r.first&&decide (l.length=1))=false then(3,r.abs)else(0,{ r.abs with P:={ r.p with SSA:=true } }):=by unfold aK;rw[if_neg hs,if_pos q];rfl
  rw[e,if_pos q];refine⟨_,rfl,fun hz=>?_⟩;split at hz
  ·omega
  ·rename_i hc;rw[if_neg hc];exact .inr (.inr ⟨ahV _,rfl,rfl,rfl⟩)
 rw[if_neg q];have e0:aK r.abs l r.first=if(bG r.abs l).1.1 then((bG r.abs l).1.2,(bG r.abs l).2)else if(cg r.abs l).1.1 then((cg r.abs l).1.2,(cg r.abs l).2)else if(bi r.abs l).1.1 then((bi r.abs l).1.2,(bi r.abs l).2)else cY r.abs l:=by
  grind [aK]
 rw[e0];unfold bG;by_cases n:Lt.w0 l=nM
 ·rw[if_pos n,if_pos n];exact⟨_,rfl,Sz⟩
 rw[if_neg n,if_neg n];by_cases n2:Lt.w0 l=lH
 ·rw[if_pos n2,if_pos n2];exact⟨_,rfl,SA⟩
 rw[if_neg n2,if_neg n2];by_cases i:Lt.w0 l=g9
 ·rw[if_pos i,if_pos i];exact⟨_,rfl,Ns⟩
 rw[if_neg i,if_neg i];by_cases m:Lt.w0 l=fE
 ·rw[if_pos m,if_pos m];exact⟨_,rfl,Nr⟩
 rw[if_neg m,if_neg m];by_cases g:Lt.w0 l=rC
 ·rw[if_pos g,if_pos g];exact⟨_,rfl,WT⟩
 rw[if_neg g,if_neg g,if_neg (ff _)];unfold cg;by_cases o:Lt.w0 l=lI
 ·rw[if_pos o,if_pos o];exact⟨_,rfl,SB h⟩
 rw[if_neg o,if_neg o];by_cases k:Lt.w0 l=BK
 ·rw[if_pos k,if_pos k];exact⟨_,rfl,ZE h⟩
 rw[if_neg k,if_neg k];by_cases f:Lt.w0 l=nL
 ·rw[if_pos f,if_pos f];exact⟨_,rfl,Sy h⟩
 rw[if_neg f,if_neg f];by_cases j:Lt.w0 l=vQ
 ·rw[if_pos j,if_pos j];exact⟨_,rfl,ZD h⟩
 rw[if_neg j,if_neg j,if_neg (ff _)];have eS:(Lt.w0 l=Lt.kAt\/Lt.w0 l=my\/Lt.w0 l=lm\/Lt.w0 l=dz\/Lt.w0 l=rh\/Lt.w0 l=pq)->bi r.abs l=if r.abs.ins=false then((true,3),r.abs)else if Lt.w0 l=Lt.kAt then((true,(Lt.sAt r.abs l).1),(Lt.sAt r.abs l).2)else if Lt.w0 l=my then((true,(Lt.lP r.abs l).1),(Lt.lP r.abs l).2)else((true,(uF r.abs l).1),(uF r.abs l).2):=fun t=>by
  grind [bi]
 by_cases b:Lt.w0 l=Lt.kAt
 ·rw[if_pos b,eS (.inl b)];by_cases a:r.abs.ins=false
  ·rw[if_pos a];refine⟨6,?_,fun hz=>by grind⟩;have:(Lt.sAt r.abs l).1=3:=by
    have:decide (r.abs.Where=7)=false:=by
     grind
    grind [Lt.sAt]
   exact DC this (fun hz=>by omega)
  ·rw[if_neg a,if_pos b];exact⟨_,rfl,adE h⟩
 rw[if_neg b];by_cases d:Lt.w0 l=my
 ·rw[if_pos d,eS (.inr (.inl d))];by_cases a:r.abs.ins=false
  ·unfold q7;rw[if_pos a,if_pos a]
   grind
  grind [q7,ZC]
 rw[if_neg d];by_cases c:Lt.w0 l=lm\/Lt.w0 l=dz\/Lt.w0 l=rh\/Lt.w0 l=pq
 ·rw[if_pos c,eS (.inr (.inr c))];by_cases a:r.abs.ins=false
  ·unfold FC;rw[if_pos a,if_pos a]
   grind
  grind [FC,XA,DC,ZB,uF]
 have s:bi r.abs l=((false,0),r.abs):=by
  grind [bi]
 rw[if_neg c,s,if_neg (ff _)];exact⟨_,rfl,Kf h⟩
def Sim(a b:Lt.Read):Prop:=a.P=b.P/\(a=b\/(a.Where<=2/\b.Where<=2/\(a.Where=1 ↔ b.Where=1)))
theorem Sim.out{a b:Lt.Read}(h:Sim a b):a.out=b.out:=by
 rcases h with⟨_,rfl|⟨h1,h2,_⟩⟩
 all_goals grind
theorem Ou{P:Lt.Program}{w n m:Int}(h:Lt.Inv ⟨P,w,n⟩)(hw:w<=2):Lt.Inv ⟨P,w,m⟩:=
 ⟨h.1,h.2.1,h.2.2.1,h.2.2.2.1,h.2.2.2.2.1,fun h3=>absurd h3 (by grind)⟩
def ko(r:Lt.Reader)(w:Int)(x:Lt.Read):Lt.Reader:=⟨x.P,r.at_,w,false,if r.heads<hd x.P then -1 else x.Long⟩
theorem RV{r:Lt.Reader}{w:Int}{x:Lt.Read}(h:r.inv)(hx:Lt.Inv x)(hr:Rel w r x):(ko r w x).inv/\Sim (ko r w x).abs x:=by
 obtain⟨P,W,n⟩:=x;obtain⟨hi,hw,hl,b⟩:=h;rcases hr with⟨h1,⟨rfl,h2⟩|⟨rfl,h2⟩⟩|⟨h1,h2,⟨h3,h4,h5⟩|⟨rfl,h3⟩⟩|⟨h1,rfl,h3,h4⟩
 ·have h2:W=1:=h2
  subst h2;have e:(ko r 1 ⟨P,1,n⟩)=⟨P,r.at_,1,false,-1⟩:=by grind [ko]
  rw[e];exact⟨⟨show Lt.Inv ⟨P,1,-1⟩from Ou hx (by decide),show(0:Int)<=1/\(1:Int)<=7 by decide,show(-1:Int) <= -1/\(-1:Int)<=1024 by decide,by simp⟩,rfl,.inr ⟨by simp[Lt.Reader.abs],by simp,by rfl⟩⟩
 ·have h2:W=2:=h2
  subst h2;have e:(ko r 0 ⟨P,2,n⟩)=⟨P,r.at_,0,false,-1⟩:=by grind [ko]
  rw[e];exact⟨⟨show Lt.Inv ⟨P,2,-1⟩from Ou hx (by decide),show(0:Int)<=0/\(0:Int)<=7 by decide,show(-1:Int) <= -1/\(-1:Int)<=1024 by decide,by simp[Lt.Reader.abs]⟩,rfl,.inr ⟨by simp[Lt.Reader.abs],by simp,by rfl⟩⟩
 ·have h5:W=w+1:=h5
  have h2:0<=n/\n<=1024:=h2
  have e:(ko r w ⟨P,W,n⟩)=⟨P,r.at_,w,false,n⟩:=by grind [ko]
  have a:(⟨P,r.at_,w,false,n⟩:Lt.Reader).abs=⟨P,W,n⟩:=by
   grind [Lt.Reader.abs]
  rw[e];refine⟨⟨by grind,⟨by grind,h4⟩,⟨by grind,h2.2⟩,?_⟩,by rw[a];exact⟨rfl,.inl rfl⟩⟩
  grind
 ·have h3:W=9:=h3
  have h2:0<=n/\n<=1024:=h2
  have e:(ko r 0 ⟨P,W,n⟩)=⟨P,r.at_,0,false,n⟩:=by grind [ko]
  have a:(⟨P,r.at_,0,false,n⟩:Lt.Reader).abs=⟨P,W,n⟩:=by
   grind [Lt.Reader.abs]
  rw[e];refine⟨⟨by grind,show(0:Int)<=0/\(0:Int)<=7 by decide,⟨by grind,h2.2⟩,?_⟩,by rw[a];exact⟨rfl,.inl rfl⟩⟩
  grind
 ·have h4:n=r.long:=h4
  have h3:W=r.abs.Where:=h3
  have e:(ko r r.where_ ⟨P,W,n⟩)=⟨P,r.at_,r.where_,false,n⟩:=by grind [ko]
  have a:(⟨P,r.at_,r.where_,false,n⟩:Lt.Reader).abs=⟨P,W,n⟩:=by rw[h3,h4];rfl
  rw[e];refine⟨⟨by grind,hw,by grind,?_⟩,by rw[a];exact⟨rfl,.inl rfl⟩⟩
  grind
theorem Ze(r:Lt.Reader)(l:List (List UInt8))(h:r.inv):∃w,Bw r l=(if(aK r.abs l r.first).1=0 then(.ok (),ko r w (aK r.abs l r.first).2)else(.error (Lt.flt (aK r.abs l r.first).1),r)) /\
  ((aK r.abs l r.first).1=0->(ko r w (aK r.abs l r.first).2).inv/\Sim (ko r w (aK r.abs l r.first).2).abs (aK r.abs l r.first).2):=by
 obtain⟨w,h1,h2⟩:=OP r l h;refine⟨w,?_,fun hz=>RV h (IZ h.1 hz) (h2 hz)⟩;unfold Bw;rw[h1];unfold gP;by_cases hz:(aK r.abs l r.first).1=0
 ·rw[if_pos hz,if_pos hz];rfl
 grind
theorem zX{p:Lt.Program}(h1:p.Classes.length<=8)(h2:p.Globals.length<=8)(h3:p.Externs.length<=8) :
  (i64.wrap ((i64.wrap ((p.Classes.length:Int)+(p.Globals.length:Int)))+(p.Externs.length:Int)))=((hd p:Nat):Int):=by
 grind [eI,hd]
def afY(r:Lt.Reader)(X:Except Value Unit×Lt.Reader):Except Value Unit×Lt.Reader:=match X with
 |(.ok _,x)=>(.ok (),{ x with first:=false,long:=if r.heads<x.heads then -1 else x.long })
 |(.error v,x)=>(.error v,x)
variable{KK:Unit×Lt.Reader->Prop}{X:Except Value Unit×Lt.Reader}
theorem adX{r:Lt.Reader}{l:List (List UInt8)}(hp:bz r l){KP:Value->Lt.Reader->Prop}
  (hX:X=rG r l) (h:exP (Bw r l) (fun z x=>KK (z,x)) KP):yGo r l KK KP X:=by
 obtain⟨a,f,hr⟩:=id hp;have hi:=a.1
 have b1:r.p.Classes.length<=8:=hi.2.1.1
 have b2:r.p.Globals.length<=8:=jr (k:=8) hi.2.2.1.1
 have g:r.p.Externs.length<=8:=hi.2.1.2.1
 obtain⟨w,h1,h2⟩:=OP r l a;unfold yGo;rw[hX];refine fun _ _ _=>⟨hp,?_⟩
 have e:Bw r l=afY r (rG r l):=rfl
 rw[e]at h;by_cases hz:(aK r.abs l r.first).1=0
 ·have hx:=IZ hi hz
  have b:rG r l=(.ok (),⟨(aK r.abs l r.first).2.P,r.at_,w,r.first,(aK r.abs l r.first).2.Long⟩):=by
   grind [gP]
  rw[b]at h⊢;generalize(aK r.abs l r.first).2=x at hx h⊢;have d:x.P.Classes.length<=8:=hx.2.1.1
  have c2:x.P.Globals.length<=8:=jr (k:=8) hx.2.2.1.1
  have c3:x.P.Externs.length<=8:=hx.2.1.2.1
  show aa _ _
  simp only[aC,cc,aq];refine fun _ _ _=>?_
  rw[zX b1 b2 g,zX d c2 c3];refine ifk (fun c=>?_) (fun c=>?_)
  ·have c:r.heads<hd x.P:=by simp at c;exact c
   have h:KK ((),⟨x.P,r.at_,w,false,if r.heads<hd x.P then -1 else x.Long⟩):=h
   grind
  ·have c:¬ r.heads<hd x.P:=fun e=>c (by simpa using(show hd r.p<hd x.P from e))
   have h:KK ((),⟨x.P,r.at_,w,false,if r.heads<hd x.P then -1 else x.Long⟩):=h
   grind
 ·have b:rG r l=(.error (Lt.flt (aK r.abs l r.first).1),r):=by
   grind [gP]
  rw[b]at h⊢;exact h
theorem Z4{r:Lt.Reader}{l:List (List UInt8)}(hp:bz r l){KP:Value->Lt.Reader->Prop}
  (hX:(if Lt.sEq l then xF r l else X)=rG r l) (h:exP (Bw r l) (fun z x=>KK (z,x)) KP):oo r l KK KP X:=by
 have es:((decide (2 < (l.length:Int)))&&(decide ((l.getD 1 default)=[61])))=Lt.sEq l:=by
  grind [Lt.sEq]
 refine fun b a=>?_
 grind [adX]
theorem RR(r:Lt.Reader)(l:List (List UInt8))(hp:bz r l)(KK:Unit×Lt.Reader->Prop)(KP:Value->Lt.Reader->Prop)(h:exP (Bw r l) (fun z x=>KK (z,x)) KP):Oq r l KK KP:=by
 unfold Oq;refine⟨⟨by decide,ahD.2 hp.2.1⟩,?_⟩;have a:∀X,(if Lt.sEq l then xF r l else X)=rG r l->oo r l KK KP X:=fun X hX=>Z4 hp hX h
 grind (splits:=20) [rG]
theorem Xb{a b:Lt.Read}(h:Sim a b)(l:List (List UInt8))(first:Bool):(aK a l first).1=(aK b l first).1/\Sim (aK a l first).2 (aK b l first).2:=by
 obtain⟨d,rfl|⟨h1,h2,h3⟩⟩:=h
 ·exact⟨rfl,rfl,.inl rfl⟩
 obtain⟨P,w,n⟩:=a;obtain⟨e,w',n'⟩:=b;have d:P=e:=d
 subst d;have h1:w<=2:=h1
 have h2:w'<=2:=h2
 have h3:w=1 ↔ w'=1:=h3
 have s:∀p:Lt.Program,Sim ⟨p,w,n⟩ ⟨p,w',n'⟩:=fun p=>⟨rfl,.inr ⟨h1,h2,h3⟩⟩
 have c:(⟨P,w,n⟩:Lt.Read).out=true:=by grind
 have ob:(⟨P,w',n'⟩:Lt.Read).out=true:=by grind
 have u:(⟨P,w,n⟩:Lt.Read).ins=false:=by grind
 have m:(⟨P,w',n'⟩:Lt.Read).ins=false:=by grind
 have w1:decide (w=1)=decide (w'=1):=decide_eq_decide.2 h3
 have q:decide (w=3)=false:=by grind
 have i:decide (w'=3)=false:=by grind
 have v:decide (w=4)=false:=by grind
 have j:decide (w'=4)=false:=by grind
 have r:decide (w=5)=false:=by grind
 have g:decide (w'=5)=false:=by grind
 have o:decide (w=9)=false:=by grind
 have f:decide (w'=9)=false:=by grind
 have hc:(cY ⟨P,w,n⟩ l).1=(cY ⟨P,w',n'⟩ l).1/\Sim (cY ⟨P,w,n⟩ l).2 (cY ⟨P,w',n'⟩ l).2:=by
  grind [cY]
 have k:(bG ⟨P,w,n⟩ l).1=(bG ⟨P,w',n'⟩ l).1/\Sim (bG ⟨P,w,n⟩ l).2 (bG ⟨P,w',n'⟩ l).2:=by
  unfold bG;split
  ·unfold Lt.eh;simp only[c,ob];split
   ·grind
   ·split
    ·grind
    ·exact⟨rfl,rfl,.inr ⟨show(1:Int)<=2 by decide,show(1:Int)<=2 by decide,by simp⟩⟩
  split
  ·grind [fO]
  split
  ·unfold dK;simp only[c,ob];split
   ·grind
   ·exact⟨rfl,rfl,.inr ⟨show(2:Int)<=2 by decide,show(2:Int)<=2 by decide,by simp⟩⟩
  split
  ·unfold dJ;simp only[c,ob];split
   ·grind
   ·exact⟨rfl,rfl,.inr ⟨show(2:Int)<=2 by decide,show(2:Int)<=2 by decide,by simp⟩⟩
  split
  ·unfold Lt.fW;simp only[c,ob];split
   ·grind
   ·exact⟨rfl,rfl,.inl rfl⟩
  grind
 have hp:(cg ⟨P,w,n⟩ l).1=(cg ⟨P,w',n'⟩ l).1/\Sim (cg ⟨P,w,n⟩ l).2 (cg ⟨P,w',n'⟩ l).2:=by
  grind [cg,fQ,Lt.jA,Lt.dG,Lt.lQ]
 have t:(bi ⟨P,w,n⟩ l).1=(bi ⟨P,w',n'⟩ l).1/\Sim (bi ⟨P,w,n⟩ l).2 (bi ⟨P,w',n'⟩ l).2:=by
  grind [bi]
 grind [aK]
def c3(n:Int):Prop:=n=0\/n=2\/n=3
theorem kU:c3 0:=.inl rfl
theorem G1:c3 2:=.inr (.inl rfl)
theorem oV:c3 3:=.inr (.inr rfl)
theorem zm(c:Prop)[Decidable c]:c3 (if c then 2 else 0):=by
 grind [G1,kU]
theorem Ya(r:Lt.Read)(l:List (List UInt8)):c3 (cY r l).1:=by
 grind [cY,oV,G1,kU]
theorem Yb(r:Lt.Read)(l:List (List UInt8)):c3 (bG r l).1.2:=by
 unfold bG;split
 ·grind [Lt.eh,oV,G1,kU]
 split
 ·grind [fO,oV,G1,kU]
 split
 ·unfold dK;split
  ·exact oV
  ·exact zm _
 split
 ·unfold dJ;split
  ·exact oV
  ·exact zm _
 split
 ·unfold Lt.fW;split
  ·exact oV
  ·exact zm _
 ·exact kU
theorem Yc(r:Lt.Read)(l:List (List UInt8)):c3 (cg r l).1.2:=by
 unfold cg;split
 ·unfold fQ;split
  ·exact oV
  ·exact zm _
 split
 ·unfold Lt.jA;split
  ·exact oV
  ·exact zm _
 split
 ·unfold Lt.dG;split
  ·exact oV
  ·exact zm _
 grind [Lt.lQ,oV,G1,kU]
theorem Uy(r:Lt.Read)(l:List (List UInt8)):c3 (bi r l).1.2:=by
 unfold bi;split
 ·split
  ·exact oV
  split
  ·grind [Lt.sAt,oV,G1,kU]
  split
  ·unfold Lt.lP;split
   ·exact oV
   ·exact zm _
  grind [uF,kU,oV]
 ·exact kU
theorem MM(r:Lt.Read)(l:List (List UInt8))(b:Bool):c3 (aK r l b).1:=by
 grind [aK,Ya,oV,kU,Yb,Yc,Uy]
theorem acJ(r:Lt.Read)(l:List (List UInt8))(b:Bool):(Lit.int .i64 (aK r l b).1).wf=true:=by
 rcases MM r l b with e|e|e<;>rw[e]<;>decide
theorem MJ(s:List UInt8)(KK:Lt.Program×Int×Int->Prop)(h:KK (kQ s)):yO s KK:=by
 unfold yO;dsimp only;unfold kQ Fm at h;have l1:(fN s).1=(fR s).1.map fun l=>(⟨l.N,l.Words⟩:Lt.Line):=rfl
 have l2:(fN s).2.1=(fR s).2.1:=rfl
 have t:(fN s).2.2=(fR s).2.2:=rfl
 simp only[l1,l2,t,aq,az,and_self];refine ifk (fun hc=>?_) (fun hc=>?_)
 ·grind
 rw[if_pos (by grind)]at h;have f:=Xc s
 generalize(fR s).1=L at h f;rw[af7];refine fun hl=>?_
 refine aO _ L.length (fun i x=>∃r d,x=((i:Int),r)/\r.inv/\Sim r.abs d/\r.first=decide (i=0)/\KK (jN (L.drop i) (decide (i=0)) d)) (fun R i x hi hx k=>?_) (fun R x hx=>?_) _ ⟨_,⟨⟨false,[],[],[],[]⟩,0,0⟩,rfl,⟨?_,by decide,by decide,by decide⟩,⟨rfl,.inr ⟨by decide,by decide,by decide⟩⟩,rfl,h⟩
 ·obtain⟨r,d,rfl,a,hs,hf,hk⟩:=hx;have n:(L.map fun l=>(⟨l.N,l.Words⟩:Lt.Line)).getD i default=⟨(L.getD i default).N,(L.getD i default).Words⟩:=by
   grind
  simp only[bP hi,if_true,Int.toNat_natCast,n];obtain⟨e,c⟩:=f _ (bd L hi);rw[agO hi,show L[i]=L.getD i default by grind,jN]at hk;generalize L.getD i default=ln at hk e c⊢;have b:(⟨r.p,ln.N,r.where_,r.first,r.long⟩:Lt.Reader).inv:=a
  obtain⟨w,g,j⟩:=Ze _ ln.Words b;have o:(⟨r.p,ln.N,r.where_,r.first,r.long⟩:Lt.Reader).abs=r.abs:=rfl
  rw[o]at g j;have sl:=Xb hs ln.Words r.first
  rw[<- hf,<- sl.1]at hk;refine⟨⟨af9 i,hi⟩,⟨b,e,c⟩,?_⟩;rw[g];by_cases hz:(aK r.abs ln.Words r.first).1=0
  ·rw[if_pos hz];rw[if_pos hz]at hk;obtain⟨g1,g2⟩:=j hz;refine k _ ⟨_,_,by grind [au],g1,?_,by rfl,by simpa using hk⟩;obtain⟨m,u⟩:=g2;obtain⟨q,q2⟩:=sl.2;refine⟨m.trans q,?_⟩
   grind
  ·rw[if_neg hz];rw[if_neg hz]at hk;exact⟨_,rfl,acJ _ _ _,hk⟩
 ·obtain⟨r,d,rfl,a,hs,hf,hk⟩:=hx;rw[ahH,jN]at hk;simp only[ji,agA,if_false];rw[zV a.2.1,hs.out];cases ho:d.out with
  |true=>rw[ho,<- hs.1]at hk;exact hk
  |false=>rw[ho]at hk;exact⟨3,rfl,by decide,hk⟩
 ·exact⟨⟨by decide,by decide⟩,⟨by decide,by decide,by decide⟩,⟨rfl,rfl,rfl⟩,fun h=>absurd h (by decide),fun _=>rfl,fun h=>absurd h (by decide)⟩
theorem mX(n:Int):Lt.inR (i64.wrap n):=zT n
def ul(n:Int)(c:UInt8):Int:=i64.wrap ((i64.wrap (n*10)) - (i64.wrap (((UInt8.ofNat (IntKind.u8.wrap (((c.toNat:Nat):Int) - (((48:UInt8).toNat:Nat):Int))).toNat).toNat:Nat):Int)))
def t8(c:UInt8):Bool:=decide (48<=c.toNat)&&decide (c.toNat<=57)
variable{c:UInt8}
theorem Pd{m:Nat}(h1:48<=c.toNat)(h2:c.toNat<=57)(h3:10*m+(c.toNat - 48)<=9223372036854775808):ul (-(m:Int)) c=-((10*m+(c.toNat - 48):Nat):Int):=by
 unfold ul;have a:IntKind.u8.wrap (((c.toNat:Nat):Int) - (((48:UInt8).toNat:Nat):Int))=((c.toNat - 48:Nat):Int):=by
  grind [IntKind.wrap,IntKind.bits]
 rw[a,Int.toNat_natCast];have b:(UInt8.ofNat (c.toNat - 48)).toNat=c.toNat - 48:=by simp;omega
 grind [eI]
theorem LY:∀(n:Nat),n<=9223372036854775808->(Lt.digs n).foldl ul 0=-(n:Int):=by
 intro n;induction n using Nat.strongRecOn with
 |_ n ih=>
  intro hn;have hd:∀k:Nat,k < 10->(UInt8.ofNat (48+k)).toNat=48+k:=fun k hk=>by simp;omega
  by_cases h:n < 10
  ·rw[iF h];show ul (-((0:Nat):Int)) _=_
   rw[Pd (by grind) (by grind) (by grind),hd n h];omega
  ·rw[oZ h,sa,ih (n / 10) kQ1 kQ1];have:=ah3 n (show 10 > 0 by decide)
   rw[Pd (by grind) (by grind) (by grind),hd _ this];omega
theorem C1:∀(l:List UInt8)(b:Int),Lt.inR b->Lt.inR (l.foldl ul b)
 |[],b,h=>h
 |c::l,b,h=>C1 l _ (mX _)
theorem ZJ(h:∀n,Lt.inR n->aB n≠s):bq s=(0,false):=by
 unfold bq;rw[if_neg];exact h _ (zT _)
theorem Dp{n:Int}(h:Lt.inR n)(e:aB n=s):s≠[]/\s.length<=20 /\
  (∀a:Nat,(if decide (s.getD 0 0=45)=true then(1:Int)else 0)=(a:Int)->(s.drop a).all t8=true/\(if decide ((a:Int)=0)=true then i64.wrap (0 - (s.drop a).foldl ul 0)else(s.drop a).foldl ul 0)=n):=by
 have hl:=gA h
 have c:=Es n.natAbs
 have b:=r7 n.natAbs
 unfold Lt.inR at h;have hf:=LY n.natAbs kQ1
 have j:(Lt.digs n.natAbs).all t8=true:=by
  grind [t8]
 refine⟨by grind [vY],by grind,fun a k=>?_⟩;by_cases hn:n < 0
 ·grind [aB]
 ·have d:s=Lt.digs n.natAbs:=by grind [aB]
  have g:¬ s.getD 0 0=45:=by
   intro f;rw[d]at f;cases i:Lt.digs n.natAbs<;>simp_all
  have:a=0:=by
   grind
  grind [eI]
theorem zD(c d:UInt8):decide ((((c.toNat:Nat):Int))=((d.toNat:Nat):Int))=decide (c=d):=by
 grind [UInt8.toNat_inj]
theorem Mx(s:List UInt8)(KK:Int×Bool->Prop)(h:KK (eM s)):Gf s KK:=by
 unfold Gf;unfold eM at h;have no:(∀n,Lt.inR n->aB n≠s)->KK (0,false):=fun hn=>by grind [ZJ]
 simp only[zD,aq,az,cc,jval,bor];refine ifk (fun hc=>no (fun n hn e=>?_)) (fun hc=>?_)
 ·grind [Dp]
 simp only[ag2,decide_eq_true_eq,not_or]at hc;have h0:0<s.length:=ahD.2 hc.1
 refine⟨⟨by decide,h0⟩,?_⟩;obtain⟨a,k,u⟩:∃a:Nat,(if decide (s.getD 0 0=45)=true then(1:Int)else 0)=(a:Int)/\a<=1:=by
  by_cases r:s.getD 0 0=45
  ·exact⟨1,by grind,af2 _⟩
  grind
 have d:∀n,Lt.inR n->aB n=s->(s.drop a).all t8=true/\(if decide ((a:Int)=0)=true then i64.wrap (0 - (s.drop a).foldl ul 0)else(s.drop a).foldl ul 0)=n:=fun n hn e=>(Dp hn e).2.2 a k
 rw[k];refine aO _ (s.length-a) (fun i x=>x=((((s.drop a).take i).foldl ul 0),((a+i:Nat):Int))/\((s.drop a).take i).all t8=true) (fun R i x hi hx m=>?_) (fun R x hx=>?_) _ ⟨rfl,rfl⟩
 ·obtain⟨rfl,c⟩:=hx;have b:a+i<s.length:=by omega
  have g:i < (s.drop a).length:=by grind
  have p:(s.drop a).getD i default=s.getD (a+i) 0:=by grind
  have et:=bC (s.drop a) g
  rw[p]at et;simp only[bP b,if_true,Int.toNat_natCast];have bad:¬ t8 (s.getD (a+i) 0)=true->KK (0,false):=fun hd=>no (fun n hn e=>by
   grind)
  have t:(48:UInt8).toNat=48:=rfl
  have q:(57:UInt8).toNat=57:=rfl
  refine fun _=>⟨⟨by omega,b⟩,?_⟩
  refine ifk (fun l=>bad ?_) (fun l=>⟨⟨by omega,b⟩,ifk (fun c2=>bad ?_) (fun c2=>⟨⟨by omega,b⟩,m _ ⟨?_,?_⟩⟩)⟩)
  ·grind [t8]
  ·grind [t8]
  ·rw[et,sa,au kQ1];rfl
  grind [t8]
 ·obtain⟨rfl,c⟩:=hx;have o:a+(s.length-a)=s.length:=by omega
  have j:(s.drop a).take (s.length-a)=s.drop a:=ag4 (by grind)
  rw[j]at c;rw[o,j];simp only[ji,agA,if_false];refine fun _=>?_
  have f:Lt.inR (if decide ((a:Int)=0)=true then i64.wrap (0 - (s.drop a).foldl ul 0)else(s.drop a).foldl ul 0):=by
   grind [mX,C1,Lt.inR]
  generalize hv:(if decide ((a:Int)=0)=true then i64.wrap (0 - (s.drop a).foldl ul 0)else(s.drop a).foldl ul 0)=v at f d⊢;refine⟨f,?_⟩
  grind [jo]
def xP:List UInt8:=[48,49,50,51,52,53,54,55,56,57,97,98,99,100,101,102]
theorem acS(c:UInt8):gZ xP c < 0\/(0<=gZ xP c/\gZ xP c < 16/\lG (gZ xP c).toNat=c):=by
 have:∀k:Fin 256,gZ xP (UInt8.ofNat k.1) < 0\/(0<=gZ xP (UInt8.ofNat k.1)/\gZ xP (UInt8.ofNat k.1) < 16/\lG (gZ xP (UInt8.ofNat k.1)).toNat=UInt8.ofNat k.1):=by decide +kernel
 have h:=this ⟨c.toNat,c.toNat_lt⟩
 grind [UInt8.ofNat_toNat]
theorem YT(k:Nat):¬ gZ xP (lG k) < 0:=by
 have:∀j:Fin 16,¬ gZ xP (lG j.1) < 0:=by decide +kernel
 have h:=this ⟨k % 16,ah3 _ (by decide)⟩
 grind [lG]
theorem adJ{u d:Nat}(f:u < 1152921504606846976)(hd:d < 16) :
  (IntKind.u64.wrap ((BitVec.ofInt IntKind.u64.bits (IntKind.u64.wrap ((u:Int)*2 ^ (min (4:Int).toNat IntKind.u64.bits))) ||| BitVec.ofInt IntKind.u64.bits (IntKind.u64.wrap (d:Int))).toNat:Nat))=((16*u+d:Nat):Int):=by
 have c:(u:Int)*2 ^ (min (4:Int).toNat IntKind.u64.bits)=((u*16:Nat):Int):=by
  rfl
 have w1:IntKind.u64.wrap ((u*16:Nat):Int)=((u*16:Nat):Int):=cC kQ1
 have w2:IntKind.u64.wrap ((d:Nat):Int)=((d:Nat):Int):=cC kQ1
 rw[c,w1,w2];show IntKind.u64.wrap (((BitVec.ofInt 64 ((u*16:Nat):Int) ||| BitVec.ofInt 64 ((d:Nat):Int)).toNat:Nat):Int)=_
 have a:∀n:Nat,BitVec.ofInt 64 ((n:Nat):Int)=BitVec.ofNat 64 n:=fun n=>BitVec.ofInt_natCast ..
 rw[a,a,BitVec.toNat_or,BitVec.toNat_ofNat,BitVec.toNat_ofNat,Nat.mod_eq_of_lt kQ1,Nat.mod_eq_of_lt kQ1];have e:u*16 ||| d=16*u+d:=by
  have:=Nat.shiftLeft_add_eq_or_of_lt (i:=4) (b:=d) kQ1 u
  grind [Nat.shiftLeft_eq]
 rw[e,cC kQ1]
theorem ZI(h:∀n,Lt.inR n->oG n≠s):jm s=(0,false):=by
 unfold jm;rw[if_neg];exact fun hc=>h _ (mX _) hc.2
theorem VF{a b:Nat}(c:a < 18446744073709551616)(hb:b < 18446744073709551616)(h:nG 16 (a:Int) []=nG 16 (b:Int) []):a=b:=by
 grind [vN]
theorem Mp(s:List UInt8)(KK:Int×Bool->Prop)(h:KK (zJ s)):s9 s KK:=by
 unfold s9;unfold zJ at h;have no:(∀n,Lt.inR n->oG n≠s)->KK (0,false):=fun hn=>by grind [ZI]
 have pre:∀n,oG n=s->mm s [48,102]=(nG 16 (IntKind.u64.wrap (cW n)) [],true):=by
  intro n e;rw[<- e];rfl
 have m:∀n,(nG 16 (IntKind.u64.wrap (cW n)) []).length=16/\∀c∈nG 16 (IntKind.u64.wrap (cW n)) [],¬ gZ xP c < 0:=by
  intro n;refine⟨by rfl,?_⟩;rw[im,yd 16 _ [] (BitVec.isLt _)];intro c hc;rw[aiE]at hc;obtain⟨i,_,rfl⟩:=agL.1 hc;exact YT _
 have hp:(mm s [48,102]).2=true->s=[48,102]++(mm s [48,102]).1:=by
  unfold mm Go.Lib.trimPrefix;intro hp;have hp:Go.Lib.hasPrefix s [48,102]=true:=hp
  rw[if_pos hp];obtain⟨t,D⟩:=List.isPrefixOf_iff_prefix.1 hp
  grind
 change s9 s KK
 unfold s9;rw[show([48,49,50,51,52,53,54,55,56,57,97,98,99,100,101,102]:List UInt8)=xP from rfl];generalize mm s [48,102]=A at pre hp⊢;obtain⟨rest,ok⟩:=A;simp only at hp⊢
 simp only[aq,az,cc,jval,bor];refine ifk (fun hc=>no (fun n hn e=>?_)) (fun hc=>?_)
 ·grind
 simp only[ag2,agS,decide_eq_false_iff_not,not_or,Decidable.not_not,agP]at hc;have hs:=hp hc.1
 have v:rest.length=16:=by omega
 refine fun _=>?_
 refine aO _ 16 (fun i x=>∃u:Nat,x=((u:Int),(i:Int))/\u < 16 ^ i/\∀l,nG i (u:Int) l=rest.take i++l) (fun R i x hi hx r=>?_) (fun R x hx=>?_) _ ⟨0,rfl,by decide,fun l=>rfl⟩
 ·obtain⟨u,rfl,k,hl⟩:=hx;have b:i<rest.length:=by omega
  have et:rest.take (i+1)=rest.take i++[rest.getD i 0]:=bC rest b
  have E:rest.getD i 0∈rest:=bd rest b
  simp only[bP b,if_true,Int.toNat_natCast];refine⟨⟨af9 i,b⟩,ifk (fun a=>no (fun n hn e=>?_)) (fun a=>⟨by decide,r _ ?_⟩)⟩
  ·grind
  ·rcases acS (rest.getD i 0)with p|⟨q,j,hd⟩
   ·grind
   have o:16 ^ i<=16 ^ 15:=Nat.pow_le_pow_right (by decide) kQ1
   have w:(16:Nat) ^ 15=1152921504606846976:=by decide
   obtain⟨d,g⟩:=ahX q;rw[g]at hd j⊢;rw[Int.toNat_natCast]at hd;refine⟨16*u+d,?_,?_,fun l=>?_⟩
   ·grind [adJ,au]
   ·omega
   ·rw[nG,show Int.tdiv ((16*u+d:Nat):Int) 16=(((16*u+d) / 16:Nat):Int)from rfl,show(16*u+d) / 16=u by omega,cC kQ1,hl,EA];have:lG (16*u+d)=lG d:=by unfold lG;congr 1;omega
    grind
 ·obtain⟨u,rfl,k,hl⟩:=hx;have y:(16:Nat) ^ 16=18446744073709551616:=by decide
  have k:u < 18446744073709551616:=by omega
  have hr:=hl []
  rw[aiE,ag4 kQ1]at hr;have C:IntKind.u64.wrap (i64.wrap (u:Int))=(u:Int):=by
   grind [IntKind.wrap,IntKind.signed,IntKind.bits]
  have B:∀n:Int,Lt.inR n->i64.wrap (IntKind.u64.wrap n)=n:=by
   grind [Lt.inR,IntKind.wrap,IntKind.signed,IntKind.bits]
  rw[show decide (((16:Nat):Int) < (rest.length:Int))=false by grind];simp only[agA,if_false];by_cases a:(!decide (Lt.Plain (i64.wrap (u:Int))=i64.wrap (u:Int)))=true
  ·rw[if_pos a];refine no (fun n hn e=>?_);have f:=pre n e
   simp only[Prod.mk.injEq]at f;have h1:=f.1
   rw[<- hr,im]at h1;have h2:=VF k (BitVec.isLt _) h1
   have h3:i64.wrap (u:Int)=cW n:=by
    grind [im,Dt]
   have h4:cW (cW n)=cW n:=by
    grind [cW]
   grind [kB]
  ·rw[if_neg a];have z:Lt.Plain (i64.wrap (u:Int))=i64.wrap (u:Int):=by grind
   have e:oG (i64.wrap (u:Int))=s:=by
    grind [oG,kB]
   grind [uG,mX,kB]
theorem SG(h:(bq s).2=true):s≠[]/\∀c∈s,c=45\/(48<=c.toNat/\c.toNat<=57):=by
 grind [wu,vY,jk]
theorem Kq:Lt.inR (bq s).1:=by
 unfold bq;split
 ·exact zT _
 grind [Lt.inR]
theorem wt(h:(jm s).2=true):(∃r,s=48::102::r)/\Lt.Plain (jm s).1=(jm s).1/\eK (jm s).1=s:=by
 unfold jm at h⊢;split at h
 ·rename_i hc;rw[if_pos hc];have e:=uG (n:=Ko s) (mX _)
  rw[hc.2]at e;unfold jm at e;rw[if_pos hc]at e;simp only[Prod.mk.injEq,and_true]at e;refine⟨⟨_,by rw[<- hc.2];rfl⟩,by grind [kB],?_⟩
  grind [zK]
 grind
theorem W4:Lt.inR (jm s).1:=by
 unfold jm;split
 ·exact mX _
 grind [Lt.inR]
theorem W0{n:Int}:aU ⟨5,[],n⟩=true ↔ 0<=n/\n<=999:=by
 grind [aU]
theorem ZH(s:List UInt8):Lt.cX s=if Lt.Name s=true then(⟨1,s,0⟩,true)else if(bq s).2=true then(⟨2,[],(bq s).1⟩,true)else if(jm s).2=true then(⟨3,[],(jm s).1⟩,true)
  else if s=[110,117,108,108]then(⟨4,[],0⟩,true)else if s.getD 0 0=35/\(bq (s.drop 1)).2=true/\0<=(bq (s.drop 1)).1/\(bq (s.drop 1)).1<=999 then(⟨5,[],(bq (s.drop 1)).1⟩,true)else(⟨0,[],0⟩,false):=by
 unfold Lt.cX;rw[Xm];have a:nY s ⟨2,[],(bq s).1⟩=(bq s).2:=by
  rw[Bool.eq_iff_iff,fi,KT];constructor
  ·grind [jo,Kq]
  ·intro h;exact⟨rfl,wu h⟩
 have t3:nY s ⟨3,[],(jm s).1⟩=(jm s).2:=by
  rw[Bool.eq_iff_iff,fi];constructor
  ·intro ⟨hr,e⟩;have hp:Lt.Plain (jm s).1=(jm s).1:=by grind [aU]
   rw[DQ hp,<- zK]at e
   grind [uG,W4]
  grind [wt,aU,DQ]
 have t4:nY s ⟨4,[],0⟩=decide (s=[110,117,108,108]):=by
  rw[Bool.eq_iff_iff,fi,Xw,decide_eq_true_eq];exact⟨fun h=>h.2.symm,fun h=>⟨rfl,h.symm⟩⟩
 have t5:nY s ⟨5,[],(bq (s.drop 1)).1⟩=decide (s.getD 0 0=35/\(bq (s.drop 1)).2=true/\0<=(bq (s.drop 1)).1/\(bq (s.drop 1)).1<=999):=by
  rw[Bool.eq_iff_iff,fi,decide_eq_true_eq];constructor
  ·grind [W0,KU,jo,Kq]
  ·intro ⟨h1,h2,h3,h4⟩;refine⟨W0.2 ⟨h3,h4⟩,?_⟩;rw[KU h3 h4,wu h2];cases s<;>grind
 grind
theorem Jl(s:List UInt8)(KK:Lt.Arg×Bool->Prop)(h:KK (qX s)):Cz s KK:=by
 unfold Cz;unfold qX at h;rw[ZH]at h;have j:(s.drop 1).take (s.length - 1)=s.drop 1:=ag4 (by grind)
 have b:(bq s).2=true->∃a r,s=a::r/\(a=45\/(48<=a.toNat/\a.toNat<=57))/\∀c∈r,c=45\/(48<=c.toNat/\c.toNat<=57):=by
  intro hn;obtain⟨h1,h2⟩:=SG hn;cases s<;>grind
 rw[j];unfold eM;simp only[zD];refine ifk (fun d=>?_) (fun d=>ifk (fun c2=>?_) (fun c2=>ifk (fun c3=>?_) (fun c3=>?_)))
 ·have d:s=[]:=by grind
  subst d;exact kk h (by decide +kernel)
 ·have c2:s=[110,117,108,108]:=by grind
  subst c2;exact kk h (by decide +kernel)
 ·grind
 have d:s≠[]:=by grind
 have c2:¬ s=[110,117,108,108]:=by grind
 rw[if_neg c3,if_neg c2]at h;refine⟨⟨by decide,ahD.2 d⟩,ifk (fun c4=>⟨by decide,⟨by grind,af2 _⟩,?_⟩) (fun c4=>?_)⟩
 ·have c4:s.getD 0 0=35:=by grind
  have f:¬ (bq s).2=true:=by
   intro hn;obtain⟨a,r,rfl,l,_⟩:=b hn
   simp_all
  have n2:¬ (jm s).2=true:=by
   grind [wt]
  rw[if_neg f,if_neg n2]at h;simp only[aq,cc,jval,bor]
  grind
 ·have c4:¬ s.getD 0 0=35:=by grind
  refine kk h ?_;unfold kP;have k:¬ (s.getD 0 0=35/\(bq (s.drop 1)).2=true/\0<=(bq (s.drop 1)).1/\(bq (s.drop 1)).1<=999):=fun i=>c4 i.1
  by_cases f:(bq s).2=true
  ·have n2:¬ (jm s).2=true:=by
    intro hn;obtain⟨⟨r,e⟩,_⟩:=wt hn;obtain⟨a,m,n,_,g⟩:=b f
    simp_all
   grind
  grind
theorem RA(c:UInt8)(KK:Bool->Prop)(h:KK (Lt.blank c)):N8 c KK:=by
 unfold N8;unfold Lt.blank at h;simp only[zD]
 grind
theorem Mu(s:List UInt8)(hp:Dv s)(KK:List (List UInt8)×Bool->Prop)(h:KK (dt s)):Gb s KK:=by
 have hp:s.length<=1099511627776:=hp
 unfold Gb;dsimp only;unfold dt at h;refine aO _ (s.length+1) (fun i x=>(i<=s.length/\∃out f w,x=(out,f,(i:Int))/\((f=-1/\w=[])\/∃j:Nat,f=(j:Int)/\j<i/\w=(s.drop j).take (i-j))/\out.length<=i/\KK (iU (s.drop i) w out))\/(i=s.length+1/\∃out f,x=(out,f,(i:Int))/\KK (out,true))) (fun R i x hi hx m=>?_) (fun R x hx=>?_) _ (Or.inl ⟨agW _,[],-1,[],rfl,.inl ⟨rfl,rfl⟩,af2 _,h⟩)
 ·rcases hx with⟨hi,out,f,w,rfl,hw,ho,hk⟩|⟨e,_⟩
  ·simp only[show decide ((i:Int)<=(s.length:Int))=true by grind,if_true,Int.toNat_natCast];refine fun _ n b=>?_
   have w1:i64.wrap ((i:Int)+1)=((i+1:Nat):Int):=au kQ1
   rw[w1]at b;have push:∀B:List (List UInt8)->Prop,B (if w=[]then out else out++[w])->aa (α:=List (List UInt8)) (fun l=>if(decide (0<=f))=true then((0:Int)<=f/\(0:Int)<=(i:Int)/\(f.toNat<=i/\i<=s.length)/\(out.length+[(s.drop f.toNat).take (i-f.toNat)].length<=4611686018427387904/\(out.length+[(s.drop f.toNat).take (i-f.toNat)].length)*16<=140737488355328)/\l (out++[(s.drop f.toNat).take (i-f.toNat)]))else(l out)) B:=by
    intro B q J r;rcases hw with⟨rfl,rfl⟩|⟨j,rfl,hj,rfl⟩
    all_goals grind (splits:=20) [agB]
   have p:(if w=[]then out else out++[w]).length<=i+1:=by
    grind
   by_cases he:i=s.length
   ·refine fun o a=>?_
    rw[show decide ((i:Int)=(s.length:Int))=true from decide_eq_true kQ1];refine fun _=>(a true ?_)
    simp only[if_true];refine push _ (b _ (m _ (.inr ⟨by omega,_,_,rfl,?_⟩)));rw[he,ahH]at hk;exact hk
   have c:i<s.length:=by omega
   have hd:s.drop i=s.getD i 0::s.drop (i+1):=by
    grind [agO]
   have et:∀j,j<=i->(s.drop j).take (i+1-j)=(s.drop j).take (i-j)++[s.getD i 0]:=by
    intro j hj;have:=bC (s.drop j) (i:=i-j) (by grind)
    grind
   rw[hd,iU]at hk;rw[show decide ((i:Int)=(s.length:Int))=false from decide_eq_false kQ1];refine fun o a=>fun _=>⟨⟨by omega,c⟩,a _ ?_⟩
   refine ifk (fun hb=>?_) (fun hb=>?_)
   ·grind
   ·rw[if_neg hb]at hk;have g:(32:UInt8).toNat=32:=rfl
    have d:(126:UInt8).toNat=126:=rfl
    have bad:(s.getD i 0).toNat<=32\/126 < (s.getD i 0).toNat->KK ([],false):=fun hc=>by grind
    simp only[az,cc,aq,jval,g,d];refine⟨⟨by omega,c⟩,ifk (fun k=>?_) (fun k=>⟨⟨by omega,c⟩,ifk (fun c2=>?_) (fun c2=>?_)⟩)⟩
    ·grind
    ·grind
    rw[decide_eq_true_eq]at k c2;rw[if_neg kQ1]at hk;have fin:∀f:Int,(∃j:Nat,f=(j:Int)/\j<i+1/\w++[s.getD i 0]=(s.drop j).take (i+1-j))->n (out,f):=fun f hf=>b _ (m _ (.inl ⟨by omega,_,_,_,rfl,.inr hf,by grind,hk⟩))
    rcases hw with⟨rfl,rfl⟩|⟨j,rfl,hj,rfl⟩
    all_goals grind
  ·omega
 grind
theorem vO(c:UInt8):∀a b:List UInt8,(∀x∈a,x≠c)->Go.Lib.index (a++c::b) [c]=(a.length:Int)
 |[],b,_=>by grind [Go.Lib.index]
 |x::a,b,h=>by
  have ih:=vO c a b (fun y hy=>h y (by simp[hy]))
  grind [Go.Lib.index]
theorem Ab(c:UInt8):∀a:List UInt8,(∀x∈a,x≠c)->Go.Lib.index a [c]=-1
 |[],_=>by rfl
 |x::a,h=>by
  have ih:=Ab c a (fun y hy=>h y (by simp[hy]))
  grind [Go.Lib.index]
theorem vC(c:UInt8):∀s:List UInt8,(∀x∈s,x≠c)\/∃a b,s=a++c::b/\∀x∈a,x≠c
 |[]=>.inl (by simp)
 |x::s=>by
  by_cases hx:x=c
  ·subst hx;exact .inr ⟨[],s,rfl,by simp⟩
  ·have d:∀a:List UInt8,(∀y∈a,y≠c)->∀y∈x::a,y≠c:=fun a h y hy=>(agC.1 hy).elim (fun e=>e ▸ hx) (h y)
   rcases vC c s with h|⟨a,b,rfl,h⟩
   all_goals grind
theorem vJ(h:∀x∈s,x≠c):fd s [c]=[s]:=by
 unfold fd;rw[Go.Lib.splitB_data];have:Go.Lib.countB ⟨s.toArray⟩ ⟨[c].toArray⟩=0:=Go.Lib.count_miss (by grind [Ab])
 rw[this];rfl
theorem zQ{b:List UInt8}(h:∀x∈a,x≠c):fd (a++c::b) [c]=a::fd b [c]:=by
 unfold fd;rw[Go.Lib.splitB_data,Go.Lib.splitB_data];have hi:Go.Lib.index (a++c::b) [c]=(a.length:Int):=vO c a b h
 have hc:Go.Lib.countB ⟨(a++c::b).toArray⟩ ⟨[c].toArray⟩=1+Go.Lib.countB ⟨b.toArray⟩ ⟨[c].toArray⟩:=by
  have:=Go.Lib.count_hit (s:=a++c::b) (sub:=[c]) (i:=a.length) (by simp) hi
  simp_all
 rw[hc,Nat.add_comm,Go.Lib.splitK]
 simp_all
abbrev front(l:List UInt8):List UInt8:=(Vw l [59]).1
theorem zM{l:List UInt8}(h:∀x∈l,x≠59):front l=l:=by
 grind [Vw,Go.Lib.cut,Ab]
theorem vH{b:List UInt8}(h:∀x∈a,x≠59):front (a++59::b)=a:=by
 simp_all[front,Vw,Go.Lib.cut,vO]
theorem CQ:∀(l:List UInt8)(k:Lt.Cut),k.bad=true->(l.foldl Lt.Cut.byte k).bad=true
 |[],k,h=>h
 |c::l,k,h=>by
  refine CQ l _ ?_
  grind [Lt.Cut.byte,Lt.Cut.word]
theorem qf:∀(l:List UInt8)(k:Lt.Cut),(l.foldl Lt.Cut.byte k).out=k.out/\(l.foldl Lt.Cut.byte k).n=k.n
 |[],k=>⟨rfl,rfl⟩
 |c::l,k=>by
  have ih:=qf l (k.byte c)
  grind [Lt.Cut.byte,Lt.Cut.word]
theorem ng:∀(l:List UInt8)(k:Lt.Cut),k.remark=true->k.w=[]->(l.foldl Lt.Cut.byte k).word.l=k.l/\(l.foldl Lt.Cut.byte k).bad=k.bad
 |[],k,h,hw=>⟨by grind [Lt.Cut.word],rfl⟩
 |c::l,k,h,hw=>by
  have e:k.byte c=k:=by
   obtain⟨o,L,w,n,r,b⟩:=k
   grind [Lt.Cut.byte,Lt.Cut.word]
  rw[ahJ,e];exact ng l k h hw
theorem gI:∀(l:List UInt8)(k:Lt.Cut),(∀x∈l,x≠59)->k.remark=false->k.bad=false ->
  (l.foldl Lt.Cut.byte k).remark=false/\(l.foldl Lt.Cut.byte k).bad=!(iU l k.w k.l).2/\((iU l k.w k.l).2=true->(l.foldl Lt.Cut.byte k).word.l=(iU l k.w k.l).1)
 |[],k,_,hr,hb=>by
  refine⟨hr,by grind [iU],fun _=>?_⟩;rfl
 |c::l,k,h,hr,hb=>by
  have d:¬ c=59:=h c (by simp)
  have h':∀x∈l,x≠59:=fun x hx=>h x (by simp[hx])
  rw[ahJ,iU];by_cases b:Lt.blank c=true
  ·rw[if_pos b];have e:k.byte c=k.word:=by
    grind [Lt.Cut.byte,Lt.blank]
   rw[e];exact gI l k.word h' hr hb
  ·rw[if_neg b];have e:k.byte c={ k with bad:=k.bad||(decide (c.toNat < 33)||decide (126<c.toNat)),w:=k.w++[c] }:=by
    grind [Lt.Cut.byte,Lt.blank]
   rw[e];by_cases hc:c.toNat<=32\/126<c.toNat
   ·rw[if_pos hc];have a:(decide (c.toNat < 33)||decide (126<c.toNat))=true:=by grind
    rw[hb,a];refine⟨?_,?_,fun h=>by simp at h⟩
    ·have f:∀(l:List UInt8)(k:Lt.Cut),(∀x∈l,x≠59)->k.remark=false->(l.foldl Lt.Cut.byte k).remark=false:=by
      intro l;induction l<;>grind [Lt.Cut.byte,Lt.Cut.word]
     grind
    grind [CQ]
   ·rw[if_neg hc];have a:(decide (c.toNat < 33)||decide (126<c.toNat))=false:=by grind
    rw[hb,a];exact gI l ⟨k.out,k.l,k.w++[c],k.n,k.remark,false⟩ h' hr rfl
theorem zk(l:List UInt8)(out:List Lt.RLine)(n:Int):(l.foldl Lt.Cut.byte ⟨out,[],[],n,false,false⟩).bad=!(dt (front l)).2 /\
  ((dt (front l)).2=true->(l.foldl Lt.Cut.byte ⟨out,[],[],n,false,false⟩).line=⟨if(dt (front l)).1=[]then out else out++[⟨n,(dt (front l)).1⟩],[],[],n+1,false,false⟩):=by
 have fin:∀k:Lt.Cut,k.out=out->k.n=n->k.bad=!(dt (front l)).2->((dt (front l)).2=true->k.word.l=(dt (front l)).1)->k.bad=!(dt (front l)).2/\((dt (front l)).2=true->k.line=⟨if(dt (front l)).1=[]then out else out++[⟨n,(dt (front l)).1⟩],[],[],n+1,false,false⟩):=by
  grind [Lt.Cut.line]
 have ho:=qf l ⟨out,[],[],n,false,false⟩
 refine fin _ ho.1 ho.2 ?_ ?_
 ·rcases vC 59 l with h|⟨a,b,rfl,h⟩
  ·rw[zM h];exact(gI l ⟨out,[],[],n,false,false⟩ h rfl rfl).2.1
  ·rw[vH h,List.foldl_append,ahJ];obtain⟨h1,h2,h3⟩:=gI a ⟨out,[],[],n,false,false⟩ h rfl rfl;have e:(a.foldl Lt.Cut.byte ⟨out,[],[],n,false,false⟩).byte 59={ (a.foldl Lt.Cut.byte ⟨out,[],[],n,false,false⟩).word with remark:=true }:=by
    rfl
   rw[e,(ng b _ rfl rfl).2];exact h2
 ·rcases vC 59 l with h|⟨a,b,rfl,h⟩
  ·rw[zM h];exact(gI l ⟨out,[],[],n,false,false⟩ h rfl rfl).2.2
  ·rw[vH h,List.foldl_append,ahJ];obtain⟨h1,h2,h3⟩:=gI a ⟨out,[],[],n,false,false⟩ h rfl rfl;have e:(a.foldl Lt.Cut.byte ⟨out,[],[],n,false,false⟩).byte 59={ (a.foldl Lt.Cut.byte ⟨out,[],[],n,false,false⟩).word with remark:=true }:=by
    rfl
   rw[e,(ng b _ rfl rfl).1];exact h3
theorem vt:∀(l r:List UInt8)(k:Lt.Cut),(∀x∈l,x≠10)->cD (l++r) k=cD r (l.foldl Lt.Cut.byte k)
 |[],r,k,_=>rfl
 |c::l,r,k,h=>by
  rw[ahS,cD,if_neg (h c (by simp)),vt l r _ (fun x hx=>h x (by simp[hx]))];rfl
def nP:List (List UInt8)->Int->List Lt.RLine->List Lt.RLine×Int×Int
 |[],_,out=>(out,0,0)
 |l::r,n,out=>if(dt (front l)).2 then nP r (n+1) (if(dt (front l)).1=[]then out else out++[⟨n,(dt (front l)).1⟩])else([],n,3)
theorem LF:∀(m:Nat)(s:List UInt8)(n:Int)(out:List Lt.RLine),s.length<=m->cD s ⟨out,[],[],n,false,false⟩=nP (fd s [10]) n out:=by
 intro m;induction m with
 |zero=>
  intro s n out hs;have:s=[]:=List.length_eq_zero_iff.1 kQ1
  subst this;rfl
 |succ m ih=>
  intro s n out hs;rcases vC 10 s with h|⟨a,b,rfl,h⟩
  ·rw[vJ h];have:=vt s [] ⟨out,[],[],n,false,false⟩ h
   grind [cD,nP,zk,qf]
  grind [zQ,vt,cD,nP,zk,qf]
theorem L7:∀(m:Nat)(s:List UInt8),s.length<=m->(fd s [10]).length<=s.length+1/\∀l∈fd s [10],l.length<=s.length:=by
 intro m;induction m with
 |zero=>
  grind [vJ]
 |succ m ih=>
  intro s hs;rcases vC 10 s with h|⟨a,b,rfl,h⟩
  all_goals grind [vJ,zQ]
theorem Re(l:List UInt8):(front l).length<=l.length:=by
 rcases vC 59 l with h|⟨a,b,rfl,h⟩
 all_goals grind [zM,vH]
theorem Mt(s:List UInt8)(KK:List Lt.Line×Int×Int->Prop)(h:KK (fN s)):Ga s KK:=by
 unfold Ga;dsimp only;unfold fN fR at h;refine fun _=>ifk (fun hc=>?_) (fun hc=>?_)
 ·grind
 have hs:s.length<=4194304:=by grind
 rw[if_neg kQ1,LF _ s 1 [] (af2 _)]at h;obtain⟨c,a⟩:=L7 _ s (af2 _);generalize fd s [10]=L at h c a⊢;refine⟨⟨by omega,by decide⟩,fun _=>?_⟩;refine aO _ L.length (fun i x=>∃out:List Lt.RLine,x=(out.map fun l=>(⟨l.N,l.Words⟩:Lt.Line),(i:Int))/\out.length<=i/\KK ((nP (L.drop i) ((i:Int)+1) out).1.map fun l=>(⟨l.N,l.Words⟩:Lt.Line),(nP (L.drop i) ((i:Int)+1) out).2.1,(nP (L.drop i) ((i:Int)+1) out).2.2)) (fun R i x hi hx g=>?_) (fun R x hx=>?_) _ ⟨[],rfl,af2 _,by grind⟩
 ·obtain⟨out,rfl,ho,hk⟩:=hx;simp only[bP hi,if_true,Int.toNat_natCast];have d:=a _ (bd L hi)
  have hd:L.drop i=L.getD i default::L.drop (i+1):=by
   grind [agO]
  rw[hd,nP]at hk;have f:=Re (L.getD i default)
  simp only[show i64.wrap ((i:Int)+1)=((i:Int)+1)from eI kQ1 kQ1,az,cc,aC,aq,aZ];refine⟨⟨by omega,hi⟩,by show(L.getD i default).length < 4294967281;omega,by show(front (L.getD i default)).length<=1099511627776;omega,?_⟩;by_cases b:(dt (front (L.getD i default))).2=true
  ·rw[if_pos b]at hk;refine ifk (fun hc=>by grind) (fun _=>fun _=>?_);refine ifk (fun hc=>?_) (fun hc=>?_)
   ·grind
   ·have e:(dt (front (L.getD i default))).1=[]:=by
     simp_all
    grind
  grind
 grind [nP]
def TH(a:Int)(KK:(List UInt8)->Prop):Prop:=
 (lL a)/\KK (aB a)
def F9(b:Int)(KK:(List UInt8)->Prop):Prop:=
 have d:=([48,49,50,51,52,53,54,55,56,57,97,98,99,100,101,102]:List UInt8);ab (α:=List UInt8×Int) (fun e a=>have c:=(IntKind.u64.wrap ((BitVec.ofInt IntKind.u64.bits (Int.fdiv (IntKind.u64.wrap (Lt.Plain b)) (2 ^ (min (IntKind.u64.wrap a.2).toNat IntKind.u64.bits))) &&& BitVec.ofInt IntKind.u64.bits 15).toNat:Nat));have z3:=([(d.getD c.toNat 0)]:List UInt8);if(decide (0<=a.2))=true then((0:Int)<=(IntKind.u64.wrap a.2)/\((0:Int)<=c/\c.toNat<d.length)/\(a.1.length+z3.length<=4611686018427387904/\(a.1.length+z3.length)*1<=140737488355328)/\e ((a.1++z3),(i64.wrap (a.2 - 4))))else(KK a.1)) ([(48:UInt8),(102:UInt8)],60)
def CA(a:Lt.Arg)(KK:(List UInt8)->Prop):Prop:=
 if(!(aU a))=true then(KK ([]:List UInt8))else(if(decide (a.Kind=2))=true then((lL a.N)/\KK (aB a.N))else(if(decide (a.Kind=3))=true then(KK (eK a.N))else(if(decide (a.Kind=4))=true then(KK [110,117,108,108])else(if(decide (a.Kind=5))=true then((lL a.N)/\[35].length+(aB a.N).length<=4611686018427387904/\KK ([35]++(aB a.N)))else(KK a.S)))))
def TI(a:List Lt.Arg)(KK:(List (List UInt8))->Prop):Prop:=
 (a.length<=4611686018427387904->ab (α:=List (List UInt8)×Int) (fun c b=>if(decide (b.2 < (a.length:Int)))=true then(((0:Int)<=b.2/\b.2.toNat<a.length)/\(kE (a.getD b.2.toNat default))/\(b.1.length+([(al (a.getD b.2.toNat default))]:List (List UInt8)).length<=4611686018427387904/\(b.1.length+([(al (a.getD b.2.toNat default))]:List (List UInt8)).length)*16<=140737488355328)/\c ((b.1++([(al (a.getD b.2.toNat default))]:List (List UInt8))),(i64.wrap (b.2+1))))else(KK b.1)) ([],0))
def wM(b:Lt.Sheet)(a:List (List UInt8))(KK:((Unit)×Lt.Sheet)->Prop):Prop:=
 (b.l.length+([(Lt.Line.mk 0 a)]:List Lt.Line).length<=4611686018427387904/\(b.l.length+([(Lt.Line.mk 0 a)]:List Lt.Line).length)*32<=140737488355328)/\KK ((),(Lt.Sheet.mk (b.l++([(Lt.Line.mk 0 a)]:List Lt.Line))))
def wN(d:Lt.Sheet)(b:List UInt8)(a:List Lt.Var)(KK:((Unit)×Lt.Sheet)->Prop):Prop:=
 (a.length<=4611686018427387904->ab (α:=Int×Lt.Sheet) (fun e c=>if(decide (c.1 < (a.length:Int)))=true then(((0:Int)<=c.1/\c.1.toNat<a.length)/\(bt c.2 [b,(a.getD c.1.toNat default).Name,(a.getD c.1.toNat default).Type_])/\e ((i64.wrap (c.1+1)),((aT c.2 [b,(a.getD c.1.toNat default).Name,(a.getD c.1.toNat default).Type_]).2)))else(KK ((),c.2))) (0,d))
def wL(g:Lt.Sheet)(a:Lt.Instr)(KK:((Unit)×Lt.Sheet)->Prop):Prop:=
 have h:=([a.Name]:List (List UInt8));have p:=([((Lt.puts a.Args).getD 0 default),a.Name]:List (List UInt8));have z4:=([((Lt.Of a.Op).1).Word]:List (List UInt8));aa (α:=List (List UInt8)) (fun w=>if(((Lt.Of a.Op).1).Dst)=true then((([]:List (List UInt8)).length+([a.Dst,[61]]:List (List UInt8)).length<=4611686018427387904/\(([]:List (List UInt8)).length+([a.Dst,[61]]:List (List UInt8)).length)*16<=140737488355328)/\w [a.Dst,[61]])else(w [])) (fun d=>(d.length+z4.length<=4611686018427387904/\(d.length+z4.length)*16<=140737488355328)/\(E9 a.Args)/\aa (α:=List (List UInt8)×List (List UInt8)) (fun m=>aa (α:=Bool) (fun v=>if(decide (a.Op=26))=true then(v true)else(v (decide (a.Op=27)))) (fun x=>if x=true then(((0:Int)<=0/\0 < (Lt.puts a.Args).length)/\((d++z4).length+p.length<=4611686018427387904/\((d++z4).length+p.length)*16<=140737488355328)/\(0:Int)<=1/\(1<=(Lt.puts a.Args).length/\(Lt.puts a.Args).length<=(Lt.puts a.Args).length)/\m (((d++z4)++p),(((Lt.puts a.Args).drop 1).take ((Lt.puts a.Args).length - 1))))else(if(((Lt.Of a.Op).1).Named)=true then(((d++z4).length+h.length<=4611686018427387904/\((d++z4).length+h.length)*16<=140737488355328)/\m (((d++z4)++h),(Lt.puts a.Args)))else(m ((d++z4),(Lt.puts a.Args)))))) (fun v4=>(v4.1.length+v4.2.length<=4611686018427387904/\(v4.1.length+v4.2.length)*16<=140737488355328)/\(bt g (v4.1++v4.2))/\(a.Frames.length<=4611686018427387904->ab (α:=Int×Lt.Sheet) (fun y e=>have f:=a.Frames.getD e.1.toNat default;if(decide (e.1 < (a.Frames.length:Int)))=true then(((0:Int)<=e.1/\e.1.toNat<a.Frames.length)/\aa (α:=List (List UInt8)) (fun z=>have z5:=(lL (f.At))/\z [[97,116],f.Func,f.Block,(Lt.number (f.At))];(z5/\z5)/\(z5/\z5)/\z5) (fun s=>((f.Vars).length<=4611686018427387904->ab (α:=List (List UInt8)×Int) (fun r b=>have i:=(f.Vars).getD b.2.toNat default;have z3:=([i.Name,(al (i.A))]:List (List UInt8));if(decide (b.2 < ((f.Vars).length:Int)))=true then(aa (α:=List (List UInt8)) (fun q=>have u:=(kE (i.A))/\(b.1.length+z3.length<=4611686018427387904/\(b.1.length+z3.length)*16<=140737488355328)/\q (b.1++z3);((0:Int)<=b.2/\b.2.toNat < (f.Vars).length)/\u/\u) (fun o=>r (o,(i64.wrap (b.2+1)))))else((bt e.2 b.1)/\y ((i64.wrap (e.1+1)),((aT e.2 b.1).2)))) (s,0))))else((a.Objs.length<=4611686018427387904->ab (α:=Int×Lt.Sheet) (fun l c=>have k:=a.Objs.getD c.1.toNat default;have z9:=([[111,98,106],k.Class]:List (List UInt8));if(decide (c.1 < (a.Objs.length:Int)))=true then(aa (α:=Lt.Sheet) (fun t=>have j:=((E9 (k.Vals))/\(z9.length+(Lt.puts (k.Vals)).length<=4611686018427387904/\(z9.length+(Lt.puts (k.Vals)).length)*16<=140737488355328)/\(bt c.2 (z9++(Lt.puts (k.Vals))))/\t ((aT c.2 (z9++(Lt.puts (k.Vals)))).2));((0:Int)<=c.1/\c.1.toNat<a.Objs.length)/\(j/\(j/\j))/\((j/\j)/\j)) (fun n=>l ((i64.wrap (c.1+1)),n)))else(KK ((),c.2))) (0,e.2)))) (0,((aT g (v4.1++v4.2)).2)))))
def yK(b:Lt.Sheet)(a:Lt.Term)(KK:((Unit)×Lt.Sheet)->Prop):Prop:=
 have z5:=a.To.getD 0 default;have z4:=((0:Int)<=1/\1<a.To.length);have z3:=((0:Int)<=0/\0<a.To.length);have d:=bt b [[98,114,97,110,99,104],(al a.A),z5,(a.To.getD 1 default)];have c:=(aT b [[98,114,97,110,99,104],(al a.A),z5,(a.To.getD 1 default)]).2;if(decide (a.Kind=1))=true then(z3/\(bt b [[106,117,109,112],z5])/\KK ((),((aT b [[106,117,109,112],z5]).2)))else(if(decide (a.Kind=2))=true then(((kE a.A)/\z3/\z4/\d/\KK ((),c))/\(z3/\((kE a.A)/\z4/\d/\KK ((),c))/\(z4/\(kE a.A)/\d/\KK ((),c)))/\(z4/\((kE a.A)/\z3/\d/\KK ((),c))/\(z3/\(kE a.A)/\d/\KK ((),c))))else(if(decide (a.Kind=3))=true then((kE a.A)/\(bt b [[114,101,116],(al a.A)])/\KK ((),((aT b [[114,101,116],(al a.A)]).2)))else((lL a.N)/\(bt b [[116,114,97,112],(aB a.N)])/\KK ((),((aT b [[116,114,97,112],(aB a.N)]).2)))))
def oq(e:Lt.Sheet)(a:Lt.Func)(KK:((Unit)×Lt.Sheet)->Prop):Prop:=
 have z4:=(aT e [[102,117,110,99],a.Name,a.Result]).2;(bt e [[102,117,110,99],a.Name,a.Result])/\(iV z4 [112,97,114,97,109] a.Params)/\(iV ((dc z4 [112,97,114,97,109] a.Params).2) [118,97,114] a.Vars)/\(a.Blocks.length<=4611686018427387904->ab (α:=Int×Lt.Sheet) (fun k f=>have c:=a.Blocks.getD f.1.toNat default;have i:=Lt.Term.mk ((c.End).Kind) ((c.End).A) ((c.End).To) ((c.End).N);if(decide (f.1 < (a.Blocks.length:Int)))=true then(((0:Int)<=f.1/\f.1.toNat<a.Blocks.length)/\(bt f.2 [[98,108,111,99,107],c.Name])/\((c.Phis).length<=4611686018427387904->ab (α:=Int×Lt.Sheet) (fun l v4=>have z5:=(c.Phis).getD v4.1.toNat default;if(decide (v4.1 < ((c.Phis).length:Int)))=true then(((0:Int)<=v4.1/\v4.1.toNat < (c.Phis).length)/\((z5.Ins).length<=4611686018427387904->ab (α:=List (List UInt8)×Int) (fun n d=>have g:=(z5.Ins).getD d.2.toNat default;have h:=([g.Block,(al (g.A))]:List (List UInt8));if(decide (d.2 < ((z5.Ins).length:Int)))=true then(aa (α:=List (List UInt8)) (fun j=>have z3:=((kE (g.A))/\(d.1.length+h.length<=4611686018427387904/\(d.1.length+h.length)*16<=140737488355328)/\j (d.1++h));((0:Int)<=d.2/\d.2.toNat < (z5.Ins).length)/\z3/\z3) (fun o=>n (o,(i64.wrap (d.2+1)))))else((bt v4.2 d.1)/\l ((i64.wrap (v4.1+1)),((aT v4.2 d.1).2)))) ([[112,104,105],z5.Dst],0)))else(((c.Code).length<=4611686018427387904->ab (α:=Int×Lt.Sheet) (fun m b=>if(decide (b.1 < ((c.Code).length:Int)))=true then(((0:Int)<=b.1/\b.1.toNat < (c.Code).length)/\(Pq b.2 ((c.Code).getD b.1.toNat default))/\m ((i64.wrap (b.1+1)),((wv b.2 ((c.Code).getD b.1.toNat default)).2)))else((WF b.2 i)/\k ((i64.wrap (f.1+1)),((Bh b.2 i).2)))) (0,v4.2)))) (0,((aT f.2 [[98,108,111,99,107],c.Name]).2))))else(KK ((),f.2))) (0,((dc ((dc z4 [112,97,114,97,109] a.Params).2) [118,97,114] a.Vars).2)))
def yM(a:Lt.Program)(KK:(List UInt8×Int)->Prop):Prop:=
 if(!(bB a))=true then(KK (([]:List UInt8),1))else(aa (α:=Lt.Sheet) (fun f=>if a.SSA=true then((bt (Lt.Sheet.mk []) [[115,115,97]])/\f ((aT (Lt.Sheet.mk []) [[115,115,97]]).2))else(f (Lt.Sheet.mk []))) (fun m=>(a.Classes.length<=4611686018427387904->ab (α:=Int×Lt.Sheet) (fun i v4=>have d:=a.Classes.getD v4.1.toNat default;if(decide (v4.1 < (a.Classes.length:Int)))=true then(((0:Int)<=v4.1/\v4.1.toNat<a.Classes.length)/\(bt v4.2 [[99,108,97,115,115],d.Name])/\(iV ((aT v4.2 [[99,108,97,115,115],d.Name]).2) [102,105,101,108,100] (d.Fields))/\i ((i64.wrap (v4.1+1)),((dc ((aT v4.2 [[99,108,97,115,115],d.Name]).2) [102,105,101,108,100] (d.Fields)).2)))else((iV v4.2 [103,108,111,98,97,108] a.Globals)/\(a.Externs.length<=4611686018427387904->ab (α:=Int×Lt.Sheet) (fun k c=>have z3:=a.Externs.getD c.1.toNat default;if(decide (c.1 < (a.Externs.length:Int)))=true then(aa (α:=Lt.Sheet) (fun g=>have e:=(lL (z3.N))/\(bt c.2 [[101,120,116,101,114,110],z3.Name,(Lt.number (z3.N))])/\g ((aT c.2 [[101,120,116,101,114,110],z3.Name,(Lt.number (z3.N))]).2);((0:Int)<=c.1/\c.1.toNat<a.Externs.length)/\e/\e) (fun h=>k ((i64.wrap (c.1+1)),h)))else((a.Funcs.length<=4611686018427387904->ab (α:=Int×Lt.Sheet) (fun j b=>if(decide (b.1 < (a.Funcs.length:Int)))=true then(((0:Int)<=b.1/\b.1.toNat<a.Funcs.length)/\(xq b.2 (a.Funcs.getD b.1.toNat default))/\j ((i64.wrap (b.1+1)),((lR b.2 (a.Funcs.getD b.1.toNat default)).2)))else((Ps b.2.l)/\((Lt.Join b.2.l).length<=4611686018427387904->if(decide (4194304 < ((Lt.Join b.2.l).length:Int)))=true then(KK (([]:List UInt8),2))else(KK ((Lt.Join b.2.l),0))))) (0,c.2)))) (0,((dc v4.2 [103,108,111,98,97,108] a.Globals).2))))) (0,m))))
end Go.Am
end
