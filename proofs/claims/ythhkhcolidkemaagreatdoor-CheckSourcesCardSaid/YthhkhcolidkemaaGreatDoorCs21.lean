/-
  Part 21: AmPkR · AmL45 · AmKS · AmFew6a · AmFew6 · AmFew41 · AmFew42 · AmFew40.
-/
import Derived.Test.YthhkhcolidkemaaGreatDoorCs20
set_option linter.unusedSimpArgs false
set_option linter.unusedVariables false
set_option linter.unusedSectionVars false
set_option linter.unnecessarySimpa false
open Lt
open Go.Proofs.Tryz
open Go.IntKind (i64)
section
namespace Go.Am
open Go
theorem I5{x:Lt.Frame}(h:Lt.frame x=true)(ok:x.ok):aM (kQ x) 4 true=(x.Vars,true):=by
 obtain⟨_,_,_,_,_,h4⟩:=zU h;unfold aM kQ;have a:=sT (objs:=true) (l:=x.Vars) (by
  intro b hb;have:=h4 b hb
  unfold iJ at this;simp only[ai9]at this;exact⟨this.1,this.2,ok.2 b hb⟩)
 grind
theorem xz{p:Lt.Program}{fs:List Lt.Func}{f:Lt.Func}{bs:List Lt.Block}{b:Lt.Block}{cs:List Lt.Instr}{n:Int}:∀(l:List Lt.Frame)(i:Lt.Instr),(∀x∈l,Lt.frame x=true/\x.ok)->i.Frames.length+l.length<=16 ->
  Runs (stI p fs f bs b cs i 7 n) (l.map kQ) (stI p fs f bs b cs { i with Frames:=i.Frames++l } 7 n)
 |[],i,_,_=>by simpa using eG _
 |x::l,i,h,hl=>by
  obtain⟨h1,a⟩:=h x (by simp);obtain⟨hf,hb,d,e,k,_⟩:=zU h1;have m:i.Frames.length+(l.length+1)<=16:=hl
  have ih:=xz (p:=p) (fs:=fs) (f:=f) (bs:=bs) (b:=b) (cs:=cs) (n:=n) l { i with Frames:=i.Frames++[x] } (fun y hy=>h y (by grind)) (by grind)
  refine⟨stI p fs f bs b cs { i with Frames:=i.Frames++[x] } 7 n,fun c=>sL (iX (fX hf)) (by show ¬ Lt.kAt=vY;decide) (lY (by show ¬ Lt.kAt=_;decide) (by show ¬ Lt.kAt=_;decide) (by show ¬ Lt.kAt=_;decide) (by show ¬ Lt.kAt=_;decide) (by show ¬ Lt.kAt=_;decide)) (ye (by show ¬ Lt.kAt=_;decide) (by show ¬ Lt.kAt=_;decide) (by show ¬ Lt.kAt=_;decide) (by show ¬ Lt.kAt=_;decide)) ?_,by grind⟩;refine(Yx (by rfl) rfl).trans ?_;have:Lt.sAt (stI p fs f bs b cs i 7 n) (kQ x)=(0,stI p fs f bs b cs { i with Frames:=i.Frames++[x] } 7 n):=by
   unfold Lt.sAt;have en:eQ (Lt.w3 (kQ x))=(x.At,true):=qg (by grind [Lt.inR])
   have g:Lt.w1 (kQ x)=x.Func:=rfl
   have j:Lt.w2 (kQ x)=x.Block:=rfl
   rw[I5 h1 a,aW,aW,en,g,j,hf,hb,x8,ul];have o:(decide ((stI p fs f bs b cs i 7 n).Where=7)&&(x.Vars,true).2&&true&&true&&((x.At,true).2&&decide (0<=(x.At,true).1)&&decide ((x.At,true).1<=1024)))=true:=by
    show(true&&true&&true&&true&&(true&&decide (0<=x.At)&&decide (x.At<=1024)))=true
    grind
   rw[o,if_neg (by decide),if_neg (by grind)]
  grind
theorem DV{p:Lt.Program}{fs:List Lt.Func}{f:Lt.Func}{bs:List Lt.Block}{b:Lt.Block}{cs:List Lt.Instr}{n:Int}:∀(l:List Lt.Virt)(i:Lt.Instr)(w:Int),(w=7\/w=8)->(∀x∈l,Lt.virt x=true/\x.ok)->i.Objs.length+l.length<=99 ->
  ∃w',(w'=7\/w'=8)/\Runs (stI p fs f bs b cs i w n) (l.map sb) (stI p fs f bs b cs { i with Objs:=i.Objs++l } w' n)
 |[],i,w,hw,_,_=>⟨w,hw,by simpa using eG _⟩
 |x::l,i,w,hw,h,hl=>by
  obtain⟨h1,d⟩:=h x (by simp);obtain⟨hc,h8,hv⟩:=QA h1;have k:i.Objs.length+(l.length+1)<=99:=hl
  obtain⟨w',a,ih⟩:=DV (p:=p) (fs:=fs) (f:=f) (bs:=bs) (b:=b) (cs:=cs) (n:=n) l { i with Objs:=i.Objs++[x] } 8 (.inr rfl) (fun y hy=>h y (by grind)) (by grind);refine⟨w',a,stI p fs f bs b cs { i with Objs:=i.Objs++[x] } 8 n,fun c=>sL (iX (fX hc)) (by show ¬ rL=vY;decide) (lY (by show ¬ rL=_;decide) (by show ¬ rL=_;decide) (by show ¬ rL=_;decide) (by show ¬ rL=_;decide) (by show ¬ rL=_;decide)) (ye (by show ¬ rL=_;decide) (by show ¬ rL=_;decide) (by show ¬ rL=_;decide) (by show ¬ rL=_;decide)) ?_,by grind⟩;have e:(stI p fs f bs b cs i w n).ins=true:=by
   show(decide (5<=w)&&decide (w<=8))=true
   grind
  refine(T0 e rfl).trans ?_;have:Lt.rN (stI p fs f bs b cs i w n) (sb x)=(0,stI p fs f bs b cs { i with Objs:=i.Objs++[x] } 8 n):=by
   unfold Lt.rN;have g:(sb x).drop 2=Lt.puts x.Vals:=rfl
   have j:Lt.w1 (sb x)=x.Class:=rfl
   have el:(sb x).length=x.Vals.length+2:=by simp[sb,Lt.puts]
   rw[g,DO hv d,aW,j,hc,x8,ul,el];have m:(decide (7<=(stI p fs f bs b cs i w n).Where)&&decide (2<=x.Vals.length+2)&&decide (x.Vals.length+2<=10)&&true&&(x.Vals,true).2)=true:=by
    show(decide (7<=w)&&decide (2<=x.Vals.length+2)&&decide (x.Vals.length+2<=10)&&true&&true)=true
    grind
   rw[m,if_neg (by decide),if_neg kQ1];rfl
  grind
theorem K6{p:Lt.Program}{fs:List Lt.Func}{f:Lt.Func}{bs:List Lt.Block}{b:Lt.Block}{w:Int}{n:Nat}{i:Lt.Instr}(hw:5<=w/\w<=8)(h:Lt.instr i=true)(ok:i.ok)(hl:n+1<=1024) :
  ∃w',(5<=w'/\w'<=8)/\Runs (stB p fs f bs b w n) ((rT i).map fun x=>x.Words) (stB p fs f bs { b with Code:=b.Code++[i] } w' ((n+1:Nat):Int)):=by
 have c:=ii h
 have a:=T1 (p:=p) (fs:=fs) (f:=f) (bs:=bs) (b:=b) hw h ok hl
 have e:(rT i).map (fun x=>x.Words)=[Lt.words i]++(i.Frames.map kQ++i.Objs.map sb):=by
  simp[rT,Lt.ln,Function.comp_def]
 rw[e];by_cases hc:i.Op=31\/i.Op=34
 ·rw[if_pos hc]at a;have b1:=xz (p:=p) (fs:=fs) (f:=f) (bs:=bs) (b:=b) (cs:=b.Code) (n:=((n+1:Nat):Int)) i.Frames { i with Frames:=[],Objs:=[] } (fun x hx=>⟨c.fr x hx,ok.2.1 x hx⟩) (by simpa using c.frames)
  obtain⟨w',k,b2⟩:=DV (p:=p) (fs:=fs) (f:=f) (bs:=bs) (b:=b) (cs:=b.Code) (n:=((n+1:Nat):Int)) i.Objs { i with Objs:=[] } 7 (.inl rfl) (fun x hx=>⟨c.ob x hx,ok.2.2 x hx⟩) (by simpa using c.objs);simp only[aj7]at b1 b2;exact⟨w',by omega,cG a (cG b1 b2)⟩
 rw[if_neg hc]at a;obtain⟨g,d⟩:=c.none kQ1;refine⟨6,by omega,?_⟩;have j:({ i with Frames:=[],Objs:=[] }:Lt.Instr)=i:=by
  rw[<- g,<- d]
 rw[j]at a;rw[g,d];exact a
theorem Bp{p:Lt.Program}{fs:List Lt.Func}{f:Lt.Func}{bs:List Lt.Block}:∀(l:List Lt.Instr)(b:Lt.Block)(w:Int)(n:Nat),(5<=w/\w<=8)->(∀i∈l,Lt.instr i=true/\i.ok)->n+l.length<=1024 ->
  ∃w',(5<=w'/\w'<=8)/\Runs (stB p fs f bs b w n) ((l.flatMap rT).map fun x=>x.Words) (stB p fs f bs { b with Code:=b.Code++l } w' ((n+l.length:Nat):Int))
 |[],b,w,n,hw,_,_=>⟨w,hw,by simpa using eG _⟩
 |i::l,b,w,n,hw,h,hl=>by
  obtain⟨h1,c⟩:=h i (by simp);have d:n+(l.length+1)<=1024:=hl
  obtain⟨w1,hw1,a⟩:=K6 (p:=p) (fs:=fs) (f:=f) (bs:=bs) (b:=b) hw h1 c (n:=n) kQ1;obtain⟨w2,g,ih⟩:=Bp (p:=p) (fs:=fs) (f:=f) (bs:=bs) l { b with Code:=b.Code++[i] } w1 (n+1) hw1 (fun y hy=>h y (by grind)) kQ1;have e:n+1+l.length=n+(i::l).length:=by grind
  rw[e]at ih
  grind [cG]
variable{t:Lt.Term}
theorem YD(h:eY t=true)(ok:t.ok):jt (jX t)=some t:=by
 rcases qM h with⟨x,rfl,h1⟩|⟨a,x,y,rfl,h1,h2,h3⟩|⟨a,rfl,h1⟩|⟨n,rfl⟩
 ·grind [jX,jt,aW]
 ·have e:jX ⟨2,a,[x,y],0⟩=[i6,ay a,x,y]:=by rfl
  have b:Lt.dC (ay a)=(a,true):=nG (by grind [bd]) ok.1
  rw[e];unfold jt;rw[if_neg (by grind),if_pos (show Lt.w0 [i6,ay a,x,y]=i6 from rfl),aW,aW,if_pos (by
   show(true&&(Lt.Name x&&Lt.Name y)&&iA false (ay a))=true
   rw[h2,h3,qI h1 ok.1];rfl)]
  grind [ay]
 ·have e:jX ⟨3,a,[],0⟩=[EO,ay a]:=by rfl
  have b:Lt.dC (ay a)=(a,true):=nG (by grind [bd]) ok.1
  rw[e];unfold jt;rw[if_neg (by grind),if_neg (by grind),if_pos (show Lt.w0 [EO,ay a]=EO from rfl),if_pos (by
   show(true&&iA false (ay a))=true
   rw[qI h1 ok.1];rfl)]
  grind
 have e:jX ⟨4,⟨0,[],0⟩,[],n⟩=[Ai,bf n]:=by rfl
 have b:eQ (bf n)=(n,true):=qg ok.2
 grind [jt]
variable{b:Lt.Block}{bs:List Lt.Block}{f:Lt.Func}{fs:List Lt.Func}{n:Int}{p:Lt.Program}
theorem Yz{w:Int}(hw:5<=w/\w<=8)(h:eY t=true)(ok:t.ok) :
  Runs (stB p fs f bs b w n) [jX t] (stB p fs f bs { b with End:=t } 9 n):=by
 have g:(stB p fs f bs b w n).ins=true:=by
  show(decide (5<=w)&&decide (w<=8))=true
  grind
 have key:wD (stB p fs f bs b w n) (jX t)=(0,stB p fs f bs { b with End:=t } 9 n):=by
  unfold wD;rw[YD h ok];simp only[jg];rfl
 have hk:Lt.sEq (jX t)=false/\(Lt.w0 (jX t)=Ag\/Lt.w0 (jX t)=i6\/Lt.w0 (jX t)=EO\/Lt.w0 (jX t)=Ai):=by
  rcases qM h with⟨x,rfl,h1⟩|⟨a,x,y,rfl,h1,h2,h3⟩|⟨a,rfl,h1⟩|⟨n,rfl⟩
  ·exact⟨rfl,.inl rfl⟩
  ·have e:jX ⟨2,a,[x,y],0⟩=[i6,ay a,x,y]:=by rfl
   rw[e];unfold bd at h1;simp only[ai9]at h1;exact⟨iX (Ll h1.1 ok.1),.inr (.inl rfl)⟩
  ·have e:jX ⟨3,a,[],0⟩=[EO,ay a]:=by rfl
   rw[e];exact⟨rfl,.inr (.inr (.inl rfl))⟩
  have e:jX ⟨4,⟨0,[],0⟩,[],n⟩=[Ai,bf n]:=by rfl
  rw[e];exact⟨rfl,.inr (.inr (.inr rfl))⟩
 obtain⟨d,hk⟩:=hk;have hn:∀k∈[vY,sJ,pR,j0,ij,xh,pS,Js,sI,Ah,Lt.kAt,rL],¬ Lt.w0 (jX t)=k:=by
  rcases hk with e|e|e|e<;>rw[e]<;>decide
 refine pf fun c=>sL d (hn _ (by simp)) (lY (hn _ (by simp)) (hn _ (by simp)) (hn _ (by simp)) (hn _ (by simp)) (hn _ (by simp))) (ye (hn _ (by simp)) (hn _ (by simp)) (hn _ (by simp)) (hn _ (by simp))) ?_
 grind [cr]
theorem K5{p:Lt.Program}{fs:List Lt.Func}{f:Lt.Func}{w:Int}{n:Nat}{b:Lt.Block}(hw:w=3\/w=4\/w=9)(h:Lt.block b=true)(ok:b.ok)(hb:f.Blocks.length < 256)(hl:n+(b.Phis.length+b.Code.length)<=1024) :
  Runs (stF p fs f w n) ((mu b).map fun x=>x.Words) (stF p fs { f with Blocks:=f.Blocks++[b] } 9 ((n+(b.Phis.length+b.Code.length):Nat):Int)):=by
 obtain⟨hn,g,hp,hc⟩:=zi h;obtain⟨o1,o2,o3⟩:=ok;have d:=Om (p:=p) (fs:=fs) (f:=f) (n:=(n:Int)) hw hn hb
 have c:=DW (p:=p) (fs:=fs) (f:=f) (bs:=f.Blocks) b.Phis ⟨b.Name,[],[],⟨0,⟨0,[],0⟩,[],0⟩⟩ n (fun x hx=>⟨hp x hx,o1 x hx⟩) kQ1
 simp only[aj7]at c;obtain⟨w',a,a3⟩:=Bp (p:=p) (fs:=fs) (f:=f) (bs:=f.Blocks) b.Code ⟨b.Name,b.Phis,[],⟨0,⟨0,[],0⟩,[],0⟩⟩ 5 (n+b.Phis.length) kQ1 (fun x hx=>⟨hc x hx,o2 x hx⟩) kQ1;simp only[aj7]at a3;have a4:=Yz (p:=p) (fs:=fs) (f:=f) (bs:=f.Blocks) (b:=⟨b.Name,b.Phis,b.Code,⟨0,⟨0,[],0⟩,[],0⟩⟩) (n:=((n+b.Phis.length+b.Code.length:Nat):Int)) a g o3
 have e:(mu b).map (fun x=>x.Words)=[[sI,b.Name]]++(b.Phis.map Fv++((b.Code.flatMap rT).map (fun x=>x.Words)++[jX b.End])):=by
  simp_all[mu,Lt.ln]
 rw[e,<- Nat.add_assoc];exact cG d (cG c (cG a3 a4))
theorem u5{p:Lt.Program}{fs:List Lt.Func}:∀(l:List Lt.Block)(f:Lt.Func)(w:Int)(n:Nat),(w=3\/w=4\/w=9)->(∀b∈l,Lt.block b=true/\b.ok)->f.Blocks.length+l.length<=256->n+longs l<=1024 ->
  Runs (stF p fs f w n) ((l.flatMap mu).map fun x=>x.Words) (stF p fs { f with Blocks:=f.Blocks++l } (if l=[]then w else 9) ((n+longs l:Nat):Int))
 |[],f,w,n,_,_,_,_=>by simp_all[longs,eG]
 |b::l,f,w,n,hw,h,hb,hl=>by
  obtain⟨h1,c⟩:=h b (by simp);have d:f.Blocks.length+(l.length+1)<=256:=hb
  have el:longs (b::l)=(b.Phis.length+b.Code.length)+longs l:=by rfl
  rw[el]at hl⊢;have a:=K5 (p:=p) (fs:=fs) (f:=f) hw h1 c kQ1 (n:=n) kQ1
  have ih:=u5 (p:=p) (fs:=fs) l { f with Blocks:=f.Blocks++[b] } 9 (n+(b.Phis.length+b.Code.length)) kQ1 (fun y hy=>h y (by grind)) (by grind) kQ1
  grind [cG]
theorem Oo{p:Lt.Program}{fs:List Lt.Func}{w n:Int}(hw:w<=2\/w=9)(h:aG f=true)(ok:f.ok)(hl:fs.length < 8) :
  Runs ⟨{ p with Funcs:=fs },w,n⟩ ((pL f).map fun x=>x.Words) ⟨{ p with Funcs:=fs++[f] },9,(longs f.Blocks:Int)⟩:=by
 have a:=yd h
 have d:=T2 (p:=p) (fs:=fs) (n:=n) hw a.name a.res hl
 have c:=xB (p:=p) (fs:=fs) (n:=0) f.Params ⟨f.Name,f.Result,[],[],[]⟩ (rC a.params) (by simp_all[jy,FuncOk.params])
 simp only[aj7]at c;obtain⟨w',g,a3⟩:=DX (p:=p) (fs:=fs) (n:=0) f.Vars ⟨f.Name,f.Result,f.Params,[],[]⟩ 3 (.inl rfl) (rC a.vars) (by simp_all[jy,FuncOk.vars]);simp only[aj7]at a3;have a4:=u5 (p:=p) (fs:=fs) f.Blocks ⟨f.Name,f.Result,f.Params,f.Vars,[]⟩ w' 0 kQ1 (fun b hb=>⟨a.bl b hb,ok b hb⟩) (by simpa using a.len) (by simpa using a.long)
 simp only[aj7,if_neg a.ne,akX]at a4;have e:(pL f).map (fun x=>x.Words)=[[xh,f.Name,f.Result]]++(f.Params.map (fun v=>[pS,v.Name,v.Type_])++(f.Vars.map (fun v=>[Js,v.Name,v.Type_])++(f.Blocks.flatMap mu).map fun x=>x.Words)):=by
  simp[pL,Lt.ln,sa,Function.comp_def]
 rw[e];exact cG d (cG c (cG a3 a4))
theorem xA{p:Lt.Program}:∀(l fs:List Lt.Func)(w n:Int),(w<=2\/w=9)->(∀f∈l,aG f=true/\f.ok)->fs.length+l.length<=8 ->
  ∃w' n',(w'<=2\/w'=9)/\Runs ⟨{ p with Funcs:=fs },w,n⟩ ((l.flatMap pL).map fun x=>x.Words) ⟨{ p with Funcs:=fs++l },w',n'⟩
 |[],fs,w,n,hw,_,_=>⟨w,n,hw,by grind [eG]⟩
 |f::l,fs,w,n,hw,h,hl=>by
  obtain⟨h1,b⟩:=h f (by simp);have c:fs.length+(l.length+1)<=8:=hl
  have a:=Oo (p:=p) (n:=n) hw h1 b (fs:=fs) kQ1
  obtain⟨w',n',d,ih⟩:=xA (p:=p) l (fs++[f]) 9 (longs f.Blocks) (.inr rfl) (fun y hy=>h y (by grind)) (by grind)
  grind [cG]
def DM(p:Lt.Program):List Lt.Line:=p.Classes.flatMap kM++sa j0 p.Globals++p.Externs.map ue++p.Funcs.flatMap pL
theorem Oq{p:Lt.Program}(h:aX p=true)(ok:p.ok):∃w n,(w<=2\/w=9)/\Runs ⟨⟨p.SSA,[],[],[],[]⟩,0,0⟩ ((DM p).map fun x=>x.Words) ⟨p,w,n⟩:=by
 have a:=Fx h
 obtain⟨w1,hw1,g⟩:=xx (s:=p.SSA) (gs:=[]) (es:=[]) (fs:=[]) (n:=0) p.Classes [] 0 kQ1 a.cl (by simpa using a.nc);obtain⟨w2,b,i⟩:=u7 (s:=p.SSA) (cs:=p.Classes) (es:=[]) (fs:=[]) (n:=0) p.Globals [] w1 hw1 (rC a.glob) (by simp_all[jy,ProgOk.glob]);obtain⟨w3,c,a3⟩:=u6 (s:=p.SSA) (cs:=p.Classes) (gs:=p.Globals) (fs:=[]) (n:=0) p.Externs [] w2 b a.ex (by simpa using a.ne);obtain⟨j,k,d,a4⟩:=xA (p:=p) p.Funcs [] w3 0 c (fun f hf=>⟨a.fn f hf,ok f hf⟩) (by simpa using a.nf);simp only[aj7]at g i a3 a4;refine⟨j,k,d,?_⟩;have e:(DM p).map (fun x=>x.Words)=(p.Classes.flatMap kM).map (fun x=>x.Words)++(p.Globals.map (fun v=>[j0,v.Name,v.Type_])++(p.Externs.map (fun x=>[ij,x.Name,bf x.N])++(p.Funcs.flatMap pL).map fun x=>x.Words)):=by
  simp[DM,Lt.ln,sa,ue,Lt.number,Function.comp_def]
 rw[e];exact cG g (cG i (cG a3 a4))
theorem NQ(h:aX p=true)(ok:p.ok)(hl:(gD p).length<=4194304):lr (gD p)=(p,0,0):=by
 have e:=TH h
 rw[e]at hl⊢;obtain⟨w,n,hw,hr⟩:=Oq h ok;have a:(⟨p,w,n⟩:Lt.Read).out=true:=by
  grind
 unfold lr;rw[Ol (N2 h) hl];simp only[if_true];have el:DG p=(if p.SSA then [Lt.ln [vY]]else [])++DM p:=by
  grind [DG,DM]
 rw[el];cases hs:p.SSA with
 |true=>
  rw[hs]at hr;rw[if_pos rfl];show fL (⟨1,[vY]⟩::numb (1+1) (DM p)) true _=_
  have h1:dJ ⟨⟨false,[],[],[],[]⟩,0,0⟩ [vY] true=(0,⟨⟨true,[],[],[],[]⟩,0,0⟩):=rfl
  rw[fL,h1,if_pos rfl,sU _ _ _ _ _ hr,a];rfl
 |false=>
  rw[hs]at hr;rw[if_neg (by decide),aj7,sU _ _ _ _ _ hr,a];rfl
theorem As(bs:List Lt.Block)(b:Lt.Block):longs (bs++[b])=longs bs+(b.Phis.length+b.Code.length):=by simp[longs]
theorem CW:∀(l:List Lt.Block)(n:Nat),n+longs l<=1024->(∀b∈l,Lt.block b=true)->Lt.blocks l n=true
 |[],_,_,_=>rfl
 |b::r,n,h,hb=>by
  have e:longs (b::r)=(b.Phis.length+b.Code.length)+longs r:=by rfl
  rw[e]at h;rw[Lt.blocks,hb b (by simp),CW r _ kQ1 (fun x hx=>hb x (by grind))]
  grind
def afM(f:Lt.Func):Prop:=Lt.Name f.Name=true/\Lt.kind f.Result=true/\Lt.typed f.Params 6=true/\Lt.typed f.Vars 1024=true
structure Open (f:Lt.Func) (bs:List Lt.Block) (b:Lt.Block) (w n:Int):Prop where
 hd:afM f
 len:bs.length+1<=256
 long:n=((longs bs+(b.Phis.length+b.Code.length):Nat):Int)
 most:n<=1024
 bl:bs.all Lt.block=true
 nm:Lt.Name b.Name=true
 ph:b.Phis.all Lt.phi=true
 cd:b.Code.all Lt.instr=true
 fin:w=9->eY b.End=true
 ins:6<=w->w<=8->∃cs c,b.Code=cs++[c]/\(7<=w->c.Op=31\/c.Op=34)
theorem Qh{w:Int}(hw:5<=w)(h:Open f bs b w n):pJ { f with Blocks:=bs++[b] } w n:=by
 have hl:=h.long
 have hm:=h.most
 refine⟨h.hd,⟨by simpa using h.len,by omega,hm⟩,fun _=>by omega,fun _=>⟨bs,b,rfl,h.bl,?_,⟨h.nm,h.ph,h.cd⟩,h.fin,h.ins⟩⟩
 grind [longs]
theorem wo{w:Int}(hw:5<=w)(h:pJ f w n):∃bs b,f.Blocks=bs++[b]/\Open f bs b w n:=by
 obtain⟨h1,⟨h2,h3,h4⟩,_,h5⟩:=h;obtain⟨bs,b,e,hb,hn,⟨k1,k2,k3⟩,hf,hi⟩:=h5 hw;refine⟨bs,b,e,⟨h1,by grind,?_,h4,hb,k1,k2,k3,hf,hi⟩⟩
 grind [longs]
theorem Kx(h:pJ f 9 n):aG f=true:=by
 obtain⟨bs,b,e,o⟩:=wo kQ1 h;obtain⟨h1,h2,h3,h4⟩:=o.hd;have hl:=o.long
 have hm:=o.most
 have hn:=o.len
 unfold aG;have hb:∀x∈f.Blocks,Lt.block x=true:=by
  rw[e];intro x hx;rcases ajO.1 hx with hx|hx
  ·exact ajM.1 o.bl x hx
  grind [Lt.block,Open.nm,Open.fin,Open.ph,Open.cd]
 grind [CW,As,decide]
variable{r:Lt.Read}
theorem uF(h:Lt.Inv r)(a:r.out=true):r.P.Funcs.all aG=true:=by
 obtain⟨_,_,_,_,h2,h3⟩:=h
 grind [Kx]
theorem SJ(h:Lt.Inv r)(a:r.out=true):aX r.P=true:=by
 have hf:=uF h a
 obtain⟨_,⟨h1,h2,h3⟩,⟨h4,h5,h6⟩,_⟩:=h
 grind [aX]
theorem EN{f':Lt.Func}{w w' n':Int}(h:Lt.Inv (stF p fs f w n))(hw:3<=w)(h1:3<=w')(h2:w'<=9)(hp:pJ f' w' n'):Lt.Inv (stF p fs f' w' n'):=by
 obtain⟨_,⟨i,j,a3⟩,⟨a4,a5,c⟩,_,_,b⟩:=h;obtain⟨a,d,e,hf,_⟩:=b hw;have e:fs++[f]=a++[d]:=e
 obtain⟨g,_⟩:=List.append_inj' e rfl;subst g;have a3:(fs++[f]).length<=8:=a3
 refine⟨⟨by show 0<=w';omega,h2⟩,⟨i,j,by show(fs++[f']).length<=8;grind⟩,⟨a4,a5,c⟩,fun h=>?_,fun h=>?_,fun _=>⟨fs,f',rfl,hf,hp⟩⟩
 ·have:w'=1:=h
  omega
 have:w'<=2:=h
 omega
theorem uo(h:Lt.Inv r)(hw:3<=r.Where):∃p fs f,r=stF p fs f r.Where r.Long/\pJ f r.Where r.Long:=by
 obtain⟨_,_,_,_,_,a⟩:=h;obtain⟨fs,f,e,_,hp⟩:=a hw;refine⟨r.P,fs,f,?_,hp⟩;unfold stF;rw[<- e]
theorem m8(h:Lt.Inv r)(hw:5<=r.Where):∃p fs f bs b,r=stB p fs f bs b r.Where r.Long/\Open f bs b r.Where r.Long:=by
 obtain⟨p,fs,f,e,hp⟩:=uo h kQ1;obtain⟨bs,b,a,o⟩:=wo hw hp;refine⟨p,fs,f,bs,b,?_,o⟩;unfold stB;rw[<- a];exact e
theorem um{a:List Lt.Block}{b':Lt.Block}{w w' n':Int}(h:Lt.Inv (stB p fs f bs b w n))(hw:5<=w)(h1:5<=w')(h2:w'<=9)(o:Open f a b' w' n'):Lt.Inv (stB p fs f a b' w' n'):=
 EN h kQ1 kQ1 h2 (Qh h1 o)
theorem oN{l:List Lt.Var}{v:Lt.Var}{k:Nat}(h:Lt.typed l k=true)(hl:l.length<k)(h1:Lt.Name v.Name=true)(h2:Lt.kind v.Type_=true):Lt.typed (l++[v]) k=true:=by
 grind [Lt.typed]
variable{l:List a8}
theorem lz(h:cW l=true):Lt.Name (Lt.w1 l)=true/\Lt.kind (Lt.w2 l)=true:=by
 grind [cW,aW,P6]
theorem acJ{α:Type}{l:List α}(h:l≠[]):∃i x,l=i++[x]:=⟨l.dropLast,l.getLast h,(List.dropLast_concat_getLast h).symm⟩
theorem yQ{s:Bool}{cs:List Lt.Class}{gs:List Lt.Var}{es:List Lt.Extern}{w:Int}(h0:0<=w)(h9:w<=9)(e:cs.length<=8)(g:es.length<=8)(a3:fs.length<=8)(a4:Lt.typed gs 8=true)(a5:cs.all cO=true)(c:es.all cK=true)
  (b:w=1->cs≠[]) (d:w<=2->fs.all aG=true) (a9:3<=w->∃a f,fs=a++[f]/\a.all aG=true/\pJ f w n):Lt.Inv ⟨⟨s,cs,gs,es,fs⟩,w,n⟩:=⟨⟨h0,h9⟩,⟨e,g,a3⟩,⟨a4,a5,c⟩,b,d,a9⟩
theorem SG(h:Lt.Inv r)(a:(Lt.iU r l).1=0):Lt.Inv (Lt.iU r l).2:=by
 unfold Lt.iU at a⊢;split at a
 ·cases a
 rename_i b;rw[if_neg b];split at a
 ·cases a
 rename_i c;rw[if_neg c];simp only[ajV,ai9,aW]at b;have hf:=uF h b.1.1
 obtain⟨_,⟨f,e,a3⟩,⟨a4,a5,d⟩,_⟩:=h;refine yQ (by decide) (by decide) (by grind) e a3 a4 ?_ d (fun _=>by simp) (fun _=>hf) (fun h=>absurd h (by decide));rw[List.all_append,a5];simp only[ajJ,alH,alJ,aj3];unfold cO;rw[b.2];rfl
theorem SH(h:Lt.Inv r)(b:(lm r l).1=0):Lt.Inv (lm r l).2:=by
 unfold lm at b⊢;split at b
 ·cases b
 rename_i a;rw[if_neg a];split at b
 ·cases b
 rename_i f;rw[if_neg f];simp only[ajV,ai9,decide_eq_true_eq]at a;obtain⟨a,o⟩:=a;obtain⟨p,q⟩:=lz o;obtain⟨a0,⟨g,t,a3⟩,⟨a4,a5,m⟩,j,n,a9⟩:=h;obtain⟨i,c,e⟩:=acJ (j a);rw[e,vU]at f;rw[e]at a5 g;rw[List.all_append]at a5;simp only[ai9,ajJ,alH,and_true]at a5;obtain⟨s,d⟩:=a5;unfold cO at d;simp only[ai9]at d;have key:Lt.last r.P.Classes (fun c=>{ c with Fields:=c.Fields++[⟨Lt.w1 l,Lt.w2 l⟩] })=i++[{ c with Fields:=c.Fields++[⟨Lt.w1 l,Lt.w2 l⟩] }]:=by rw[e,nk]
 show Lt.Inv ⟨⟨r.P.SSA,Lt.last r.P.Classes (fun c=>{ c with Fields:=c.Fields++[⟨Lt.w1 l,Lt.w2 l⟩] }),r.P.Globals,r.P.Externs,r.P.Funcs⟩,r.Where,r.Long⟩
 rw[key];refine yQ a0.1 a0.2 (by grind) t a3 a4 ?_ m (fun _=>by simp) n (fun h=>by omega)
 ·rw[List.all_append,s];simp only[ajJ,alH,alJ,aj3];unfold cO;have:=oN (k:=8) (v:=⟨Lt.w1 l,Lt.w2 l⟩) d.2 kQ1 p q
  grind
theorem oC{n k:Nat}(h:(if k<=n then(2:Int)else 0)=0):n<k:=by
 omega
theorem ML(h:Lt.Inv r)(b:(iu r l).1=0):Lt.Inv (iu r l).2:=by
 unfold iu at b⊢;split at b
 ·cases b
 rename_i a;rw[if_neg a];have d:=oC b
 simp only[ajV,ai9]at a;obtain⟨f,g⟩:=lz a.2;have hf:=uF h a.1
 obtain⟨_,⟨c,i,a3⟩,⟨a4,a5,e⟩,_⟩:=h;exact yQ (w:=2) (by decide) (by decide) c i a3 (oN (k:=8) a4 d f g) a5 e (fun h=>absurd h (by decide)) (fun _=>hf) (fun h=>absurd h (by decide))
theorem MK(h:Lt.Inv r)(a:(gl r l).1=0):Lt.Inv (gl r l).2:=by
 unfold gl at a⊢;split at a
 ·cases a
 rename_i b;rw[if_neg b];have d:=oC a
 simp only[ajV,ai9,aW]at b;have hf:=uF h b.1.1.1
 obtain⟨_,⟨c,f,a3⟩,⟨a4,a5,e⟩,_⟩:=h
 grind [yQ,cK]
theorem WY(h:Lt.Inv r)(b:(Lt.jQ r l).1=0):Lt.Inv (Lt.jQ r l).2:=by
 unfold Lt.jQ at b⊢;split at b
 ·cases b
 rename_i a;rw[if_neg a];have i:=oC b
 simp only[ajV,ai9]at a;obtain⟨e,f⟩:=lz a.2;have hf:=uF h a.1
 obtain⟨_,⟨c,g,a3⟩,⟨a4,a5,d⟩,_⟩:=h;exact yQ (w:=3) (n:=0) (by decide) (by decide) c g (by grind) a4 a5 d (fun h=>absurd h (by decide)) (fun h=>absurd h (by decide)) (fun _=>⟨r.P.Funcs,_,rfl,hf,⟨⟨e,f,by rfl,by rfl⟩,⟨by simp,by decide,by decide⟩,fun _=>⟨rfl,rfl⟩,fun h=>absurd h (by decide)⟩⟩)
theorem SI(h:Lt.Inv r)(b:(jM r l).1=0):Lt.Inv (jM r l).2:=by
 unfold jM at b⊢;split at b
 ·cases b
 rename_i a;rw[if_neg a];have c:=oC b
 simp only[ajV,ai9,decide_eq_true_eq]at a;obtain⟨a,d⟩:=a;obtain⟨g,i⟩:=lz d;obtain⟨p,fs,f,e,hp⟩:=uo h kQ1;rw[e,nZ]at c;rw[e]at h;obtain⟨⟨k1,k2,k3,k4⟩,k5,k6,_⟩:=hp;have key:=EN (f':={ f with Params:=f.Params++[⟨Lt.w1 l,Lt.w2 l⟩] }) (w':=3) (n':=r.Long) h kQ1 kQ1 kQ1 ⟨⟨k1,k2,oN (k:=6) k3 c g i,k4⟩,k5,fun _=>k6 kQ1,fun h=>absurd h (by decide)⟩
 grind [oh]
theorem aa1(h:Lt.Inv r)(b:(Lt.mI r l).1=0):Lt.Inv (Lt.mI r l).2:=by
 unfold Lt.mI at b⊢;split at b
 ·cases b
 rename_i a;rw[if_neg a];have c:=oC b
 simp only[ajV,ai9,decide_eq_true_eq,akD]at a;obtain⟨a,d⟩:=a;obtain⟨g,i⟩:=lz d;obtain⟨p,fs,f,e,hp⟩:=uo h kQ1;rw[e,nZ]at c;rw[e]at h;obtain⟨⟨k1,k2,k3,k4⟩,k5,k6,_⟩:=hp;have key:=EN (f':={ f with Vars:=f.Vars++[⟨Lt.w1 l,Lt.w2 l⟩] }) (w':=4) (n':=r.Long) h kQ1 kQ1 kQ1 ⟨⟨k1,k2,k3,oN (k:=1024) k4 c g i⟩,k5,fun _=>k6 kQ1,fun h=>absurd h (by decide)⟩
 grind [stF,oh]
theorem SF(h:Lt.Inv r)(d:(Lt.fu r l).1=0):Lt.Inv (Lt.fu r l).2:=by
 unfold Lt.fu at d⊢;split at d
 ·cases d
 rename_i c;rw[if_neg c];have i:=oC d
 simp only[ajV,ai9,decide_eq_true_eq,akD,aW]at c;obtain⟨⟨c,_⟩,g⟩:=c;obtain⟨p,fs,f,e,hp⟩:=uo h kQ1;rw[e,nZ]at i;rw[e]at h;have k:r.func (fun f=>{ f with Blocks:=f.Blocks++[⟨Lt.w1 l,[],[],⟨0,⟨0,[],0⟩,[],0⟩⟩] })=stF p fs { f with Blocks:=f.Blocks++[⟨Lt.w1 l,[],[],⟨0,⟨0,[],0⟩,[],0⟩⟩] } r.Where r.Long:=by
  grind [oh]
 rw[k];have a:f.Blocks.all Lt.block=true/\r.Long=((longs f.Blocks:Nat):Int)/\r.Long<=1024:=by
  by_cases h9:r.Where=9
  ·rw[h9]at hp;have hs:=yd (Kx hp)
   obtain⟨bs,b,j,o⟩:=wo kQ1 hp;exact⟨ajM.2 hs.bl,by rw[o.long,j,As],o.most⟩
  obtain⟨_,_,k6,_⟩:=hp;obtain⟨k7,k8⟩:=k6 kQ1;rw[k7,k8];exact⟨rfl,rfl,by decide⟩
 refine EN h kQ1 kQ1 kQ1 (Qh kQ1 ⟨hp.1,by omega,?_,a.2.2,a.1,g,rfl,rfl,fun h=>absurd h (by decide),fun h=>absurd h (by decide)⟩);show r.Long=_
 grind
theorem AN{objs:Bool}{k:Int}(h:(aM l k objs).2=true):(∀b∈(aM l k objs).1,Lt.Name b.Name=true/\bd objs b.A=true)/\((aM l k objs).1.flatMap fun b=>[b.Name,ay b.A])=l.drop k.toNat:=by
 grind [aM,xk]
theorem aa0(h:Lt.Inv r)(c:(Lt.o6 r l).1=0):Lt.Inv (Lt.o6 r l).2:=by
 unfold Lt.o6 at c⊢;split at c
 ·cases c
 rename_i a;rw[if_neg a];split at c
 ·cases c
 rename_i d;rw[if_neg d];simp only[ajV,ai9,decide_eq_true_eq,ajY,decide_eq_false_iff_not,aW]at a;obtain⟨⟨⟨a,k⟩,i⟩,j⟩:=a;obtain⟨p,fs,f,bs,b,e,o⟩:=m8 h kQ1;rw[e]at h;have g:({ r.block (fun b=>{ b with Phis:=b.Phis++[⟨Lt.w1 l,(aM l 2 false).1.map fun x=>⟨x.Name,x.A⟩⟩] })with Long:=r.Long+1 }:Lt.Read)=stB p fs f bs { b with Phis:=b.Phis++[⟨Lt.w1 l,(aM l 2 false).1.map fun x=>⟨x.Name,x.A⟩⟩] } 5 (r.Long+1):=by
  have:r.block (fun b=>{ b with Phis:=b.Phis++[⟨Lt.w1 l,(aM l 2 false).1.map fun x=>⟨x.Name,x.A⟩⟩] })=stB p fs f bs { b with Phis:=b.Phis++[⟨Lt.w1 l,(aM l 2 false).1.map fun x=>⟨x.Name,x.A⟩⟩] } r.Where r.Long:=by
   grind [jg]
  rw[this,a];rfl
 rw[g];have hl:=o.long
 refine um h kQ1 kQ1 kQ1 ⟨o.hd,o.len,?_,by omega,o.bl,o.nm,?_,o.cd,fun h=>absurd h (by decide),fun h=>absurd h (by decide)⟩
 all_goals grind [Open.ph,Lt.phi,AN,ox]
theorem KU{dst:List UInt8}{x:Lt.Instr}(h:Lt.gE dst l=some x)(hd:dst≠[]->Lt.Name dst=true):Lt.instr x=true/\x.Frames=[]/\x.Objs=[]:=by
 unfold Lt.gE at h;split at h
 ·cases h
 rename_i b;simp only[ajV,ai9,beq_iff_eq]at b;obtain⟨_,o2,o3⟩:=Ys b.1;obtain⟨_,m,d,j,g,k⟩:=sY (Lt.sOp (Lt.w0 l)).1;rw[d]at b;split at h
 ·cases h
 rename_i nm rest hr;split at h
 ·rename_i a;simp only[ai9,decide_eq_true_eq]at a;obtain⟨⟨⟨a,i⟩,f⟩,e⟩:=a;rw[j,aW]at i;rw[g]at f;rw[k]at e;simp only[ai8]at h;subst h;refine⟨?_,rfl,rfl⟩;have c:=(Bh a).1
  have hN:(Lt.Of (Lt.sOp (Lt.w0 l)).1).1.Named=!decide (nm=[]):=by
   grind [KW,Lt.Of,Lt.Name]
  grind [Lt.instr]
 grind
theorem Jm(h:Lt.Inv r)(a:(eN r l).1=0):Lt.Inv (eN r l).2:=by
 unfold eN at a⊢;split at a
 ·cases a
 rename_i i;rw[if_neg i];split at a
 ·cases a
 rename_i c;rw[if_neg c];cases hs:Lt.gE (if Lt.sEq l then Lt.w0 l else []) (if Lt.sEq l then l.drop 2 else l)with
 |none=>omega
 |some x=>
  rw[hs]at a;simp only at a⊢
  split at a
  ·cases a
  rename_i d;rw[if_neg d];have j:5<=r.Where/\r.Where<=8:=by grind
  obtain⟨hx,hf,m⟩:=KU hs (by
   grind [aW])
  obtain⟨p,fs,f,bs,b,e,o⟩:=m8 h kQ1;rw[e]at h;have g:({ r.block (fun b=>{ b with Code:=b.Code++[x] })with Where:=if x.Op=31\/x.Op=34 then 7 else 6,Long:=r.Long+1 }:Lt.Read)=stB p fs f bs { b with Code:=b.Code++[x] } (if x.Op=31\/x.Op=34 then 7 else 6) (r.Long+1):=by
   have:r.block (fun b=>{ b with Code:=b.Code++[x] })=stB p fs f bs { b with Code:=b.Code++[x] } r.Where r.Long:=by
    grind [jg]
   rw[this];rfl
  rw[g];have hl:=o.long
  have hw:∀{k:Int},k=(if x.Op=31\/x.Op=34 then(7:Int)else 6)->5<=k/\k<=8/\(7<=k->x.Op=31\/x.Op=34):=by
   omega
  obtain⟨w1,w2,w3⟩:=hw rfl;refine um h kQ1 w1 kQ1 ⟨o.hd,o.len,?_,by omega,o.bl,o.nm,o.ph,?_,fun h=>by omega,fun _ _=>⟨b.Code,x,rfl,w3⟩⟩
  all_goals grind [Open.cd]
theorem Ae{c:Lt.Instr}{fr:List Lt.Frame}{ob:List Lt.Virt}(h:Lt.instr c=true)(a:c.Op=31\/c.Op=34)(h1:fr.length<=16)(h2:ob.length<=99)(h3:∀x∈fr,Lt.frame x=true)(h4:∀x∈ob,Lt.virt x=true):Lt.instr { c with Frames:=fr,Objs:=ob }=true:=by
 grind [Lt.instr]
theorem afQ(h:Lt.Inv r)(a:(Lt.sAt r l).1=0):Lt.Inv (Lt.sAt r l).2:=by
 unfold Lt.sAt at a⊢;split at a
 ·cases a
 rename_i d;rw[if_neg d];split at a
 ·cases a
 rename_i g;rw[if_neg g];simp only[ajV,ai9,decide_eq_true_eq,aW]at d;obtain⟨⟨⟨⟨d,n⟩,q⟩,t⟩,⟨m,u⟩,s⟩:=d;obtain⟨p,fs,f,bs,b,e,o⟩:=m8 h kQ1;obtain⟨cs,c,i,hop⟩:=o.ins kQ1 kQ1;have hop:=hop kQ1
 have e':r=stI p fs f bs b cs c r.Where r.Long:=by
  unfold stI;rw[<- i];exact e
 have hc:=o.cd
 rw[i,List.all_append]at hc;simp only[ai9,ajJ,alH,and_true]at hc;have j:=ii hc.2
 rw[e',x8]at g;rw[e]at h;have k:r.instr (fun x=>{ x with Frames:=x.Frames++[⟨Lt.w1 l,Lt.w2 l,(eQ (Lt.w3 l)).1,(aM l 4 true).1⟩] })=stI p fs f bs b cs { c with Frames:=c.Frames++[⟨Lt.w1 l,Lt.w2 l,(eQ (Lt.w3 l)).1,(aM l 4 true).1⟩] } r.Where r.Long:=by
  grind [ul]
 rw[k];have hl:=o.long
 refine um h kQ1 kQ1 kQ1 ⟨o.hd,o.len,?_,o.most,o.bl,o.nm,o.ph,?_,fun h=>by omega,fun _ _=>⟨cs,_,rfl,fun _=>hop⟩⟩
 all_goals grind [Ae,InstrOk.objs,InstrOk.ob,InstrOk.fr,AN,Lt.frame,iJ]
theorem aaZ(h:Lt.Inv r)(hi:r.ins=true)(d:(Lt.rN r l).1=0):Lt.Inv (Lt.rN r l).2:=by
 unfold Lt.rN at d⊢;split at d
 ·cases d
 rename_i a;rw[if_neg a];have j:=oC d
 have m:5<=r.Where/\r.Where<=8:=by grind
 simp only[ajV,ai9,decide_eq_true_eq,aW]at a;obtain⟨⟨⟨⟨a,t⟩,s⟩,n⟩,q⟩:=a;obtain⟨p,fs,f,bs,b,e,o⟩:=m8 h kQ1;obtain⟨cs,c,g,hop⟩:=o.ins kQ1 kQ1;have hop:=hop kQ1
 have e':r=stI p fs f bs b cs c r.Where r.Long:=by
  unfold stI;rw[<- g];exact e
 have hc:=o.cd
 rw[g,List.all_append]at hc;simp only[ai9,ajJ,alH,and_true]at hc;have i:=ii hc.2
 rw[e',x8]at j;rw[e]at h;have k:({ r.instr (fun x=>{ x with Objs:=x.Objs++[⟨Lt.w1 l,(cj (l.drop 2) true).1⟩] })with Where:=8 }:Lt.Read)=stI p fs f bs b cs { c with Objs:=c.Objs++[⟨Lt.w1 l,(cj (l.drop 2) true).1⟩] } 8 r.Long:=by
  have:r.instr (fun x=>{ x with Objs:=x.Objs++[⟨Lt.w1 l,(cj (l.drop 2) true).1⟩] })=stI p fs f bs b cs { c with Objs:=c.Objs++[⟨Lt.w1 l,(cj (l.drop 2) true).1⟩] } r.Where r.Long:=by
   grind [ul]
  rw[this];rfl
 rw[k];have hl:=o.long
 refine um h kQ1 kQ1 kQ1 ⟨o.hd,o.len,?_,o.most,o.bl,o.nm,o.ph,?_,fun h=>by omega,fun _ _=>⟨cs,_,rfl,fun _=>hop⟩⟩
 all_goals grind [Ae,InstrOk.frames,InstrOk.fr,InstrOk.ob,Bh,Lt.virt]
theorem Oi(h:jt l=some t):eY t=true:=by
 grind [jt,aW,eY,Dw,sv]
theorem aaY(h:Lt.Inv r)(hi:r.ins=true)(a:(wD r l).1=0):Lt.Inv (wD r l).2:=by
 have d:5<=r.Where/\r.Where<=8:=by grind
 unfold wD at a⊢;cases hs:jt l with
 |none=>grind
 |some t=>
  have c:=Oi hs
  obtain⟨p,fs,f,bs,b,e,o⟩:=m8 h kQ1;rw[e]at h;have g:({ r.block (fun b=>{ b with End:=t })with Where:=9 }:Lt.Read)=stB p fs f bs { b with End:=t } 9 r.Long:=by
   have:r.block (fun b=>{ b with End:=t })=stB p fs f bs { b with End:=t } r.Where r.Long:=by
    grind [jg]
   rw[this];rfl
  show Lt.Inv ({ r.block (fun b=>{ b with End:=t })with Where:=9 }:Lt.Read)
  rw[g];exact um h kQ1 kQ1 kQ1 ⟨o.hd,o.len,o.long,o.most,o.bl,o.nm,o.ph,o.cd,fun _=>c,fun h1 h2=>absurd h2 kQ1⟩
theorem WZ(h:Lt.Inv r)(a:(bB r l).1.2=0):Lt.Inv (bB r l).2:=by
 grind [bB,SG,SH,ML,MK,WY]
theorem W0(h:Lt.Inv r)(a:(bW r l).1.2=0):Lt.Inv (bW r l).2:=by
 grind [bW,SI,aa1,SF,aa0]
theorem SK(h:Lt.Inv r)(a:(cr r l).1.2=0):Lt.Inv (cr r l).2:=by
 grind [cr,afQ,aaZ,aaY]
theorem Jn{b:Bool}(h:Lt.Inv r)(a:(dJ r l b).1=0):Lt.Inv (dJ r l b).2:=by
 unfold dJ at a⊢;split at a
 ·grind [Jm]
 rename_i c;rw[if_neg c];split at a
 ·rename_i c;rw[if_pos c];split at a
  ·cases a
  rename_i c;rw[if_neg c];exact h
 grind [WZ,W0,SK,Jm]
theorem adP:Lt.Inv ⟨⟨false,[],[],[],[]⟩,0,0⟩:=⟨⟨by decide,by decide⟩,⟨by decide,by decide,by decide⟩,⟨rfl,rfl,rfl⟩,fun h=>absurd h (by decide),fun _=>rfl,fun h=>absurd h (by decide)⟩
theorem uH:∀(L:List Lt.RLine)(b:Bool)(r:Lt.Read),Lt.Inv r->(fL L b r).2.2=0->aX (fL L b r).1=true
 |[],b,r,h,a=>by
  grind [fL,SJ]
 |x::t,b,r,h,a=>by
  rw[fL]at a⊢;split at a
  ·rename_i c;rw[if_pos c];exact uH t false _ (Jn h c) a
  grind
theorem Kw{s:a8}(h:(lr s).2.2=0):aX (lr s).1=true:=by
 grind [lr,uH,adP]
theorem Yh(ok:p.ok)(hl:(gD p).length<=4194304):DJ p=aX p:=by
 grind [DJ,NQ,Kw]
theorem afG:∀(s:a8)(k:Lt.Cut)(B:Nat),(∀x∈k.out,x.Words≠[]/\x.Words.length<=B)->k.l.length+s.length+1<=B->∀x∈(cE s k).1,x.Words≠[]/\x.Words.length<=B
 |s,k,B=>by
  have hw:∀k:Lt.Cut,k.word.l.length<=k.l.length+1/\k.word.out=k.out:=by
   grind [Lt.Cut.word]
  have a:∀k:Lt.Cut,(∀x∈k.out,x.Words≠[]/\x.Words.length<=B)->k.l.length+1<=B->∀x∈k.line.out,x.Words≠[]/\x.Words.length<=B:=by
   grind [Lt.Cut.line]
  have b:∀(k:Lt.Cut)(c:UInt8),(k.byte c).l.length<=k.l.length+1/\(k.byte c).out=k.out:=by
   grind [Lt.Cut.byte]
  induction s generalizing k with
  |nil=>
   grind [cE]
  |cons c r ih=>
   intro h hl x hx;have d:k.l.length+(r.length+1)+1<=B:=hl
   rw[cE]at hx;split at hx
   ·split at hx
    ·cases hx
    exact ih k.line (a k h kQ1) (by show 0+r.length+1<=B;omega) x hx
   have hb:=b k c
   exact ih (k.byte c) (by grind) kQ1 x hx
theorem Yw(s:a8):∀x∈(eE s).1,x.Words≠[]/\x.Words.length<=1099511627776:=by
 intro x hx;unfold eE at hx;split at hx
 ·cases hx
 rename_i hc;exact afG s _ _ (by simp) (by grind) x hx
theorem Nj(s:a8)(KK:Lt.Program×Int×Int->Prop)(h:KK (lr s)):GI s KK:=by
 unfold GI;dsimp only;unfold lr at h;have a:=Yw s
 generalize eE s=S at h a⊢;obtain⟨L,at_,b⟩:=S;dsimp only at h a⊢;refine ifk (fun hc=>?_) (fun hc=>?_)
 ·grind
 rw[if_pos (by grind)]at h;refine uz (fun hl=>?_);refine au _ L.length (fun i x=>∃r,x=((i:Int),r)/\Lt.Inv r/\KK (fL (L.drop i) (decide ((i:Int)=0)) r)) (fun R i x hi hx c=>?_) (fun R x hx=>?_) _ ⟨_,rfl,adP,h⟩
 ·obtain⟨r,rfl,hI,hk⟩:=hx;simp only[aP hi,if_true,Int.toNat_natCast];obtain⟨o1,o2⟩:=a _ (aC L hi);refine⟨⟨ajE i,hi⟩,⟨hI,o1,o2⟩,?_⟩;rw[ajT hi]at hk;have e:L.getD i default=L[i]:=by grind
  rw[<- e,fL]at hk;refine ifk (fun hc=>?_) (fun hc=>c _ ⟨_,by rw[ae kQ1],?_,?_⟩)
  ·grind
  ·exact Jn hI (by grind)
  rw[if_pos (by grind)]at hk;have e0:decide (((i+1:Nat):Int)=0)=false:=by rfl
  simp_all
 obtain⟨r,rfl,hI,hk⟩:=hx;simp only[kZ,ajC,if_false];rw[akJ,fL]at hk;simp only[bL,ac]
 grind
theorem S4(p:Lt.Program)(hp:kn p)(KK:Bool->Prop)(h:KK (DJ p)):O8 p KK:=by
 unfold O8;unfold DJ at h;refine⟨hp,ifk (fun hc=>?_) (fun hc=>?_)⟩
 ·rw[hc,aj3]at h;exact h
 grind
theorem S9(n:Int)(KK:Int->Prop)(h:KK (xr n)):Y6 n KK:=h
theorem BU(p:Lt.Program)(hp:oH p)(KK:Int->Prop)(h:KK (cu p)):wP p KK:=by
 unfold wP;obtain⟨h1,h2,⟨h3,h4⟩,h5⟩:=hp;rw[h2];unfold cu at h;have k3:aX p=false\/iW p=false->KK 3:=fun e=>by grind
 have g:iW p=(p.Funcs.all mG&&!p.SSA):=rfl
 intro J n;have j:J (!aX p||p.SSA):=n _ (by
  dsimp only;refine ifk (fun hc=>k3 (by grind)) (fun hc=>?_);have hs:aX p=true/\p.SSA=false:=by grind
  refine dk p.Funcs.length (fun i=>mG (p.Funcs.getD i default)=true) (KK 3) (fun R i hi hN ih hl=>?_) (fun R q hl=>?_) (fun i hi hn=>k3 (.inr (by
   grind)))
  ·grind [qc]
  rw[if_neg (by simp)];have k:p.Funcs.all mG=true:=ajM.2 fun x hx=>by
   grind [ajU]
  rw[if_neg (by grind)]at h;refine dk p.Funcs.length (fun i=>rE (p.Funcs.getD i default)=true) (KK 2) (fun R i hi hN ih=>?_) (fun R q=>?_) (fun i hi hn=>by
   grind [ia])
  ·try dsimp only
   intro hl;rw[if_pos (aP hi),Int.toNat_natCast];refine⟨⟨by omega,hi⟩,fun o b=>?_⟩;have ih:=ih hl
   generalize p.Funcs.getD i default=f at hN ih;have s:o (!rE f):=b _ (by
    grind)
   intro _;unfold rE at s;refine ifk (fun d=>?_) (fun d=>⟨trivial,ifk (fun a=>?_) (fun a=>?_)⟩)
   all_goals grind
  try dsimp only
  intro hl;rw[if_neg (by simp)];have m:ia p=true:=ajM.2 fun x hx=>by
   grind [ajU]
  rw[if_neg (by grind)]at h;refine⟨h3,ifk (fun c=>?_) (fun c=>?_)⟩
  ·grind
  rw[if_neg (by grind)]at h;refine bO p.Funcs (fun l=>KK (xP p l)) (fun R i x r hi hx hm ih h=>?_) (fun R h=>?_) h
  ·try dsimp only
   intro hl;rw[if_pos (aP hi),Int.toNat_natCast,hx];refine⟨⟨by omega,hi⟩,h4 x hm,?_⟩
   grind [xP,A4]
  try dsimp only
  intro hl;rw[if_neg (by simp)];exact h)
 grind
theorem vZ(p:Lt.Program)(hp:XZ p)(KK:Bool->Prop)(h:KK (D4 p)):kD p KK:=by
 obtain⟨okP,d,a,hr⟩:=hp;unfold kD;have h:KK true:=h
 have hm:NZ p 6000:=⟨okP,by decide⟩
 intro J j;refine ifk (fun hc=>absurd hc (by decide)) (fun _=>⟨hm,j _ ?_⟩);refine ifk (fun hc=>h) (fun hc=>?_);have hc:Lt.Few p 6000=true:=by grind
 obtain⟨h1,h2,h3⟩:=hr hc;have hl:kn p:=⟨okP,d,a,by grind [Lt.room]⟩
 have hs:oH p:=⟨hl,Yh okP h3,h1,h2⟩
 intro g b;have k:g (!decide (cu p=cu p)):=b _ (by
  rw[decide_eq_true rfl];dsimp only;rw[if_neg (by simp)];refine dk p.Funcs.length (fun _=>True) (KK false) (fun R i hi _ ih hl=>?_) (fun R _ _=>?_) (fun i hi hn=>absurd trivial hn)
  ·rw[if_pos (aP hi),Int.toNat_natCast];intro l c;have f:=c (!decide (ip (p.Funcs.getD i default)=ip (p.Funcs.getD i default))) (by
    grind)
   have e:(0:Int)<=(i:Int)/\i<p.Funcs.length:=⟨by omega,hi⟩
   exact⟨e,⟨trivial,e,trivial,f⟩,e,trivial,trivial,f⟩
  grind)
 grind
end Go.Am
end

section
namespace Go.Am
open Go Go.Proofs
set_option maxRecDepth 100000
section
variable {sh:List (TypeId×List Sh)}
noncomputable def b3(E:Ev sh){f:Nat}(fn:Func)(an:An)(u:U)(ps:List U){pre:List (El u)->Fl ps->Prop}{F:List (El u)->Fl ps->List (El u)}{G:List (El u)->Fl ps->(List (El u)->Prop)->Prop}(a:∀x y,pre x y->∀KK:List (El u)->Prop,KK (F x y)->G x y KK)(hw:∀x y KK,G x y KK=VK E.en fn an u ps x y KK:=by intros;kernel_rfl)(hf:prog.funcs[f]? = some fn:=by kernel_rfl)(hb:okF (ps.length+1) fn=true:=by kernel_rfl):Cb f:=
 ⟨abW u ps pre F,Uz E.ok mixed hf (dY hb).1 (dY hb).2.1 (dY hb).2.2.1 (dY hb).2.2.2 fun x y hp KK h=>hw x y KK ▸ a x y hp KK h⟩
noncomputable def b2(E:Ev sh){f:Nat}(fn:Func)(an:An)(a:List Sh)(u:U)(ps rs:List U){pre:El u->Fl ps->Prop}{F:El u->Fl ps->Fl rs×El u}{G:El u->Fl ps->(Fl rs×El u->Prop)->Prop}(b:∀x y,pre x y->∀KK:Fl rs×El u->Prop,KK (F x y)->G x y KK)(hw:∀x y KK c,G x y KK=xW E.en fn an a u ps rs x y KK c:=by intros;kernel_rfl)(hf:prog.funcs[f]? = some fn:=by kernel_rfl)(hb:okF (ps.length+1) fn=true:=by kernel_rfl):Cb f:=
 ⟨Qm a u ps rs pre fun x y=>(.ok (F x y).1,(F x y).2),QJ E.ok mixed hf (dY hb).1 (dY hb).2.1 (dY hb).2.2.1 (dY hb).2.2.2 fun x y hp KK c h=>hw x y KK c ▸ b x y hp KK h⟩
def tB:List (Nat->Sp):=[(.sl · uI),(.ow · [.fr] .b8),(.sl · (.i .u64)),(.sl · .bo),(.sl · .b8),fun k=>.rt (.loc k) [.fr,.fr,.fr,.fr,.fr] (.st .RForm),(.ow · [.fr] .s),(.ow · [.fr,.fr] (.st .RLine)),(.sl · .s),(.ow · [.fr,.fr,.fr] (.st .Arg)),(.sl · (.sl .s)),fun k=>.rt (.loc k) [.fr,.fr,.fr,.ow [],.ow [],.ow []] (.st .Instr),fun k=>.rt (.out k) [.fr,.ow [.fr,.ow [.fr,.fr]],.ow [.fr,.fr],.ow [.fr,.fr],.ow [.fr,.fr,.ow [.fr,.fr],.ow [.fr,.fr],.ow [.fr,.ow [.fr,.fr],.ow [.fr,.fr,.fr,.fr,.ow [.fr,.fr,.fr,.fr],.ow [.fr,.fr]],.fr,.fr,.fr,.fr,.fr,.fr]],.fr,.fr] (.st .Read),(.ow · [.fr,.fr,.fr,.fr] (.st .Bind)),fun k=>.rt (.loc k) [.fr,.ow [.fr,.ow [.fr,.fr]],.ow [.fr,.fr],.ow [.fr,.fr],.ow [.fr,.fr,.ow [.fr,.fr],.ow [.fr,.fr],.ow [.fr,.ow [.fr,.fr],.ow [.fr,.fr,.fr,.fr,.ow [.fr,.fr,.fr,.fr],.ow [.fr,.fr]],.fr,.fr,.fr,.fr,.fr,.fr]],.fr,.fr] (.st .Read),(.ow · [.fr] .bo),fun k=>.rt (.loc k) [.fr,.fr] (.st .Var)]
noncomputable def RA:Cb 7:=⟨_,ZJ⟩
noncomputable def C0:Cb 12:=b1 (eZ:Ev []) f12 (aN tB 0x20320204d609041 [0x1000c0100001040041]) [.st .Func] [uI] JF
noncomputable def Es:Cb 39:=b3 (eZ:Ev []) f39 (aN tB 0x2000818c8081358241 [0x5000044000000041,0x1080000005042]) .b8 [.sl .s] (fun x y=>Xd x y)
noncomputable def ZX:Cb 40:=b3 ((ad Es eZ):Ev []) f40 (aN tB 0x80c8081358241 [0x1c0001100000002042]) .b8 [.s,.sl (.st .Var)] (fun x y=>S6 x y.1 y.2)
noncomputable def ZW:Cb 82:=b0 (eZ:Ev []) f82 (aN tB 0x40050241 []) [uI] [.i .u64] S5
noncomputable def zA:Cb 41:=b1 ((ad ZW eZ):Ev []) f41 (aN tB 0x20028120204105d701041 [0x3042000000001,0x4083044000000001]) [uI] [.s] Xc
noncomputable def Er:Cb 152:=b0 (eZ:Ev []) f152 (aN tB 0x8000508202c8081358241 [0x3002000000001,0x50c2000000103003,0xb83080000003002,0x83080000000]) [.s] [.bo] S3
noncomputable def V7:Cb 199:=b0 (eZ:Ev []) f199 (aN tB 0x1041 []) [uI] [.bo] M7
noncomputable def Iw:Cb 153:=b0 ((ad V7 eZ):Ev []) f153 (aN tB 0x40050241 []) [uI] [uI] M9
noncomputable def Ix:Cb 83:=b0 ((ad Er (ad Iw eZ)):Ev []) f83 (aN tB 0x100050840050241 [0x683080001040041,0x83080000000]) [.st .Arg] [.bo] Na
noncomputable def V6:Cb 84:=b0 ((ad Iw eZ):Ev []) f84 (aN tB 0x2002020602c8081358241041 [0x1401010c2180000000,0x6102000004dc11440c3]) [uI] [.s] Xb
noncomputable def t8:Cb 42:=b1 ((ad zA (ad Ix (ad V6 eZ))):Ev []) f42 (aN tB 0x40050240050240050240050240050241 []) [.st .Arg] [.s] S7
noncomputable def V9:Cb 85:=b0 (eZ:Ev []) f85 (aN tB 0x804201030201021030028040840840840840c60c100050841 [0xa0c2000081002002,0x1050801040c0081002002,0x4142000081004082,0x330c2000102080c04083,0x1390c2000102080c04083,0x9e43080004082004082]) [uI] [.st .RForm,.bo] aa9
noncomputable def ZS:Cb 86:=b3 ((ad t8 eZ):Ev []) f86 (aN tB 0x80c8081358241 [0x5000184000000041]) .s [.sl (.st .Arg)] (fun x y=>S0 x y)
noncomputable def ZT:Cb 43:=b3 ((ad Es (ad zA (ad t8 (ad V9 (ad ZS eZ))))):Ev []) f43 (aN tB 0x20380204d609000700409ac122320204d609040081801050901010301041 [0x1c6080001143080143003,0x1c60800010c1003002,0xac308000114309d047143004,0x1c60800010c1003002,0x2000011000030400c1,0x246080003040dc1203003,0x280246100003040dc1203003,0x91820000c103704a203004,0x2c00011000030400c1,0x420000c100b0c2]) .b8 [.st .Instr] (fun x y=>S1 x y)
noncomputable def ZU:Cb 44:=b3 ((ad Es (ad zA (ad t8 eZ))):Ev []) f44 (aN tB 0x1010301010901001421041 [0x3c30800010c11c1143003,0x1860800010c1003002,0x7830800010c1581183003,0x186080001000001]) .b8 [.st .Term] (fun x y=>S2 x y)
noncomputable def V8:Cb 14:=b1 ((ad Es (ad ZX (ad zA (ad t8 (ad ZT (ad ZU eZ)))))):Ev []) f14 (aN tB 0x8000640409ac12000e0081358241640409ac12082c80813582202c8081358240700409ac12080e008135824040c041 [0xc1080001040041,0x1000c1100001040041,0x3042000041004042,0x1400c1100001040041,0x3042000041005042,0x1800c1100001040041,0x30420001c10801c6043,0x80030440001c10801c6043,0x2800c11000091c10c02481c6045,0x3002c61000091c10c3dc1289207183047,0xb1820002470430f704c289207183048,0x3400c11000091c10c02481c6045]) [.st .Program] [.s] M8
noncomputable def Wg:Cb 111:=b0 (eZ:Ev []) f111 (aN tB 0x800104040c0014094081000818848021208e0081358241041041040050241 [0xb00a0c90c80070461851ce000000001,0x2832432001c118614730000000b002,0x3030800001f71b71770cb289207185008,0x2430800001f71b71770cc2ca207185008,0x270c2000007dc6dc5dc330b289207185009,0x2831c118618000017704c2c9205006,0xdf80c2000007dc6dc5dc330b289207185009,0x6182000005dc130b289205007,0x2830800001f71b71770cc2c9207185008,0x51c2000007dc12ca207005]) [.s] [.sl (.st .RLine),uI,uI] Nl
noncomputable def kK:Cb 212:=b0 ((ad Er eZ):Ev []) f212 (aN tB 0x2000502c8081358241 [0x3002000000001]) [.sl .s] [.bo] Nh
noncomputable def ahA:Cb 213:=b0 (eZ:Ev []) f213 (aN tB 0x2000502c8081358241 [0x4002000000001]) [.s] [uI,.bo] abA
noncomputable def ZY:Cb 240:=b0 (eZ:Ev []) f240 (aN tB 0x41 []) [.i .u64] [uI] S9
noncomputable def Et:Cb 218:=b0 ((ad zA (ad ZY eZ)):Ev []) f218 (aN tB 0x20028120212000210b80210d609041 [0x5004084000000001,0xd0c2000000144003,0x102080000005002,0x160c2000000144003,0x4082000000001,0x983080000004002]) [.s] [uI,.bo] Xg
noncomputable def ae9:Cb 251:=b0 ((ad V6 eZ):Ev []) f251 (aN tB 0x20028120008180b20204d609040050241 [0x5004084000000001,0x6082000000144003]) [.s] [uI,.bo] Xf
noncomputable def ae8:Cb 238:=b0 ((ad t8 (ad Ix (ad Et (ad ae9 eZ)))):Ev []) f238 (aN tB 0x1000284640409d9824104104040c041 [0x4202000081002002,0x2e430800022c200c2c2004]) [.s] [.st .Arg,.bo] Xe
noncomputable def xY:Cb 215:=b1 ((ad ae8 eZ):Ev []) f215 (aN tB 0x800028420b20204d609041 [0x1c0189100000001002,0x883080008046dc1207181005]) [.sl .s,.bo] [.sl (.st .Arg),.bo] (fun x=>S8 x.1 x.2)
noncomputable def Wb:Cb 177:=b2 ((ad V9 (ad kK (ad ahA (ad (bI (eZ:Ev eS) 214 f214 (aN tB 0x41 [])) (ad xY eZ))))):Ev eS) f177 (aN tB 0x1010901101041040050240050841001001409408041001409424041001421041001001409424041 [0x52c1284000040005002,0x180c2000045040141003,0x7e43080001205080206141005,0x14b28a100001201008185004,0x3f90c200004814200a206141006,0x85e0308000114100b185004,0xc080000006002,0xc080000000,0xc1e03080001000001]) [.fr,.ow [.fr,.ow [.fr,.fr]],.ow [.fr,.fr],.ow [.fr,.fr],.ow [.fr,.fr,.ow [.fr,.fr],.ow [.fr,.fr],.ow [.fr,.ow [.fr,.fr],.ow [.fr,.fr,.fr,.fr,.ow [.fr,.fr,.fr,.fr],.ow [.fr,.fr]],.fr,.fr,.fr,.fr,.fr,.fr]],.fr,.fr] (.st .Read) [.sl .s] [uI] (fun x y=>Nc x y)
noncomputable def zB:Cb 216:=b0 (eZ:Ev []) f216 (aN tB 0x40050241 []) [uI,uI] [uI] (fun x=>Nf x.1 x.2)
noncomputable def ZZ:Cb 239:=b0 ((ad Er eZ):Ev []) f239 (aN tB 0x101 [0x83080000000]) [.s] [.bo] Ta
noncomputable def Iz:Cb 217:=b0 ((ad kK (ad ZZ eZ)):Ev []) f217 (aN tB 0x101 [0x83080000000]) [.sl .s] [.bo] Nn
noncomputable def Wc:Cb 178:=b2 ((ad (bS 19 (bI (eZ:Ev eS) 113 f113 (aN tB 0x41 [])) (bS 124 (bI (eZ:Ev eS) 113 f113 (aN tB 0x41 [])) (bS 163 (bI (eZ:Ev eS) 113 f113 (aN tB 0x41 [])) (bI (eZ:Ev eS) 113 f113 (aN tB 0x41 []))))) (ad kK (ad zB (ad Iz (ad Et eZ))))):Ev eS) f178 (aN tB 0x20020822020028428100822020028420800a10a04020880800a10a04020206020800a10a04020088180800a10a058241 [0x220c2000040001002,0x302000000181,0xc080000006002,0x4b90c2000040001002,0x302000000201,0x20f80c2000040001002,0xc080000009002,0x2cb80c2000040001002,0xc3e03080001000281003,0xc08000000c002,0x3a380c2000040001002,0xc08000000d002]) [.fr,.ow [.fr,.ow [.fr,.fr]],.ow [.fr,.fr],.ow [.fr,.fr],.ow [.fr,.fr,.ow [.fr,.fr],.ow [.fr,.fr],.ow [.fr,.ow [.fr,.fr],.ow [.fr,.fr,.fr,.fr,.ow [.fr,.fr,.fr,.fr],.ow [.fr,.fr]],.fr,.fr,.fr,.fr,.fr,.fr]],.fr,.fr] (.st .Read) [.sl .s] [.bo,uI] (fun x y=>Nd x y)
noncomputable def Iy:Cb 219:=b1 ((ad kK (ad xY eZ)):Ev []) f219 (aN tB 0x800028420b20204d609001421041 [0x5c3080000008081004,0x24020d100000002002,0x340c2000008dc1289202005]) [.sl .s,uI,.bo] [.sl (.st .Bind),.bo] (fun x=>Ni x.1 x.2.1 x.2.2)
noncomputable def Wf:Cb 179:=b2 ((ad kK (ad zB (ad Iz (ad Iy eZ)))):Ev eS) f179 (.s .l (.s .l (.s (.s .l (.c .l .l)) (.a 6 (.out 0) (.s (.s .l (.b (.s .l (.c (.s (.j ⟨[1,6],[.out 0],[],[.sl 51 .bo]⟩ .l (.c (.s .l .l) .l)) (.s .l (.j ⟨[7],[],[],[.rt (.out 0) [.fr,.ow [.fr,.ow [.fr,.fr]],.ow [.fr,.fr],.ow [.fr,.fr],.ow [.fr,.fr,.ow [.fr,.fr],.ow [.fr,.fr],.ow [.fr,.ow [.fr,.fr],.ow [.fr,.fr,.fr,.fr,.ow [.fr,.fr,.fr,.fr],.ow [.fr,.fr]],.fr,.fr,.fr,.fr,.fr,.fr]],.fr,.fr] (.st .Read)]⟩ .l (.s .l .l)))) (.s .l (.c (.s (.j ⟨[0,1,6],[.out 0],[],[.sl 93 .bo]⟩ .l (.c (.s .l .l) .l)) (.s .l (.j ⟨[0,8],[],[],[.rt (.out 0) [.fr,.ow [.fr,.ow [.fr,.fr]],.ow [.fr,.fr],.ow [.fr,.fr],.ow [.fr,.fr,.ow [.fr,.fr],.ow [.fr,.fr],.ow [.fr,.ow [.fr,.fr],.ow [.fr,.fr,.fr,.fr,.ow [.fr,.fr,.fr,.fr],.ow [.fr,.fr]],.fr,.fr,.fr,.fr,.fr,.fr]],.fr,.fr] (.st .Read)]⟩ .l (.s .l (.s .l .l))))) (.s .l (.c (.s (.j ⟨[0,1,6],[.out 0],[],[.sl 153 .bo]⟩ .l (.c (.s .l .l) .l)) (.s .l (.j ⟨[0,9],[],[],[.rt (.out 0) [.fr,.ow [.fr,.ow [.fr,.fr]],.ow [.fr,.fr],.ow [.fr,.fr],.ow [.fr,.fr,.ow [.fr,.fr],.ow [.fr,.fr],.ow [.fr,.ow [.fr,.fr],.ow [.fr,.fr,.fr,.fr,.ow [.fr,.fr,.fr,.fr],.ow [.fr,.fr]],.fr,.fr,.fr,.fr,.fr,.fr]],.fr,.fr] (.st .Read)]⟩ .l (.s .l (.s .l .l))))) (.s .l (.c (.s .l (.s (.j ⟨[0,1,6,10],[.out 0],[],[.sl 205 .bo]⟩ .l (.c (.s .l .l) .l)) (.s (.j ⟨[0,1,6,10],[.out 0],[],[.sl 215 .bo]⟩ .l (.c (.s .l .l) .l)) (.s .l (.s (.s .l (.b (.lp ⟨[0,6,10,12],[.out 0],[],[.sl 13 (.i .i64),.rt (.loc 12) [.fr,.ow [.fr,.fr,.fr,.fr]] (.st .Phi)]⟩ (.s (.s .l (.c .l .l)) (.j ⟨[0,6,10,12,13],[.out 0],[],[.rt (.loc 12) [.fr,.ow [.fr,.fr,.fr,.fr]] (.st .Phi)]⟩ (.b .l) .l))))) (.s .l (.j ⟨[0],[],[],[.rt (.out 0) [.fr,.ow [.fr,.ow [.fr,.fr]],.ow [.fr,.fr],.ow [.fr,.fr],.ow [.fr,.fr,.ow [.fr,.fr],.ow [.fr,.fr],.ow [.fr,.ow [.fr,.fr],.ow [.fr,.fr,.fr,.fr,.ow [.fr,.fr,.fr,.fr],.ow [.fr,.fr]],.fr,.fr,.fr,.fr,.fr,.fr]],.fr,.fr] (.st .Read)]⟩ .l (.s .l (.s .l .l))))))))) .l)))))))))) (.s .l .l)) (.s (.s .l (.b (.s .l (.c (.s (.j ⟨[1,6],[.loc 16,.out 0],[],[.sl 51 .bo]⟩ .l (.c (.s .l .l) .l)) (.s .l (.j ⟨[7],[.out 0],[],[]⟩ .l (.s .l .l)))) (.s .l (.c (.s (.j ⟨[0,1,6],[.loc 16,.out 0],[],[.sl 93 .bo]⟩ .l (.c (.s .l .l) .l)) (.s .l (.j ⟨[0,8],[.out 0],[],[]⟩ .l (.s .l (.s .l .l))))) (.s .l (.c (.s (.j ⟨[0,1,6],[.loc 16,.out 0],[],[.sl 153 .bo]⟩ .l (.c (.s .l .l) .l)) (.s .l (.j ⟨[0,9],[.out 0],[],[]⟩ .l (.s .l (.s .l .l))))) (.s .l (.c (.s .l (.s (.j ⟨[0,1,6,10],[.loc 16,.out 0],[],[.sl 205 .bo]⟩ .l (.c (.s .l .l) .l)) (.s (.j ⟨[0,1,6,10],[.loc 16,.out 0],[],[.sl 215 .bo]⟩ .l (.c (.s .l .l) .l)) (.s .l (.s (.s .l (.b (.lp ⟨[0,6,10,12],[.loc 16,.out 0],[],[.sl 13 (.i .i64),.rt (.loc 12) [.fr,.ow [.fr,.fr,.fr,.fr]] (.st .Phi)]⟩ (.s (.s .l (.c .l .l)) (.j ⟨[0,6,10,12,13],[.loc 16,.out 0],[],[.rt (.loc 12) [.fr,.ow [.fr,.fr,.fr,.fr]] (.st .Phi)]⟩ (.b .l) .l))))) (.s .l (.s .l .l))))))) .l)))))))))) (.s .l .l)))))) [.fr,.ow [.fr,.ow [.fr,.fr]],.ow [.fr,.fr],.ow [.fr,.fr],.ow [.fr,.fr,.ow [.fr,.fr],.ow [.fr,.fr],.ow [.fr,.ow [.fr,.fr],.ow [.fr,.fr,.fr,.fr,.ow [.fr,.fr,.fr,.fr],.ow [.fr,.fr]],.fr,.fr,.fr,.fr,.fr,.fr]],.fr,.fr] (.st .Read) [.sl .s] [.bo,uI] (fun x y=>Nk x y)
noncomputable def RQ:Cb 180:=b2 ((ad kK (ad (bI (eZ:Ev eS) 214 f214 (aN tB 0x41 [])) (ad xY (ad zB (ad Et (ad Iy (ad (bI ((ad kK (ad xY (ad Et eZ))):Ev eS) 220 f220 (aN tB 0x40008281050900008281050900008281050900041421041 [0x1f0c200004000bf8af89f86f45f7af39f38f37f36f35f34f33f32f31f30f2ff2ef2df2cf2bf2af29f28f27f26f25f24f23f22f21f20f1ff1ef1df07f06f01f00f02069,0x4000bf8af89f86f45f7af39f38f37f36f35f34f33f32f31f30f2ff2ef2df2cf2bf2af29f28f27f26f25f24f23f22f21f20f1ff1ef1df07f06f01f00f02069,0xb90c200004000bf8af89f86f45f7af39f38f37f36f35f34f33f32f31f30f2ff2ef2df2cf2bf2af29f28f27f26f25f24f23f22f21f20f1ff1ef1df07f06f01f00f02069,0x4000bf8af89f86f45f7af39f38f37f36f35f34f33f32f31f30f2ff2ef2df2cf2bf2af29f28f27f26f25f24f23f22f21f20f1ff1ef1df07f06f01f00f02069,0x8390c200004000bf8af89f86f45f7af39f38f37f36f35f34f33f32f31f30f2ff2ef2df2cf2bf2af29f28f27f26f25f24f23f22f21f20f1ff1ef1df07f06f01f00f02069,0x4000bf8af89f86f45f7af39f38f37f36f35f34f33f32f31f30f2ff2ef2df2cf2bf2af29f28f27f26f25f24f23f22f21f20f1ff1ef1df07f06f01f00f27,0xdf90c200004000bf8af89f86f45f7af39f38f37f36f35f34f33f32f31f30f2ff2ef2df2cf2bf2af29f28f27f26f25f24f23f22f21f20f1ff1ef1df07f06f01f00f02069])) eZ))))))):Ev eS) f180 (aN tB 0x400104404100140904005085020110005084100142104005084140b04820800a108042010210210210210318241 [0x140c2000040001002,0x1d0c2000040001002,0x1be43080001000207043,0xb390c200004000a207044,0x1eb80c200004000c288044,0xc080000000,0xa5e030800010001c1003,0xc080000010002,0xc140103180000000]) [.fr,.ow [.fr,.ow [.fr,.fr]],.ow [.fr,.fr],.ow [.fr,.fr],.ow [.fr,.fr,.ow [.fr,.fr],.ow [.fr,.fr],.ow [.fr,.ow [.fr,.fr],.ow [.fr,.fr,.fr,.fr,.ow [.fr,.fr,.fr,.fr],.ow [.fr,.fr]],.fr,.fr,.fr,.fr,.fr,.fr]],.fr,.fr] (.st .Read) [.sl .s] [.bo,uI] (fun x y=>JL x y)
noncomputable def Wd:Cb 112:=b2 ((ad Wb (ad Wc (ad Wf (ad RQ eZ)))):Ev eS) f112 (aN tB 0x101030040c010301001040050850240050841 [0x443080001000081003,0x7c3080001000001,0xc2001c3180000001002,0xc2001c3180000001002,0xc200100000000]) [.fr,.ow [.fr,.ow [.fr,.fr]],.ow [.fr,.fr],.ow [.fr,.fr],.ow [.fr,.fr,.ow [.fr,.fr],.ow [.fr,.fr],.ow [.fr,.ow [.fr,.fr],.ow [.fr,.fr,.fr,.fr,.ow [.fr,.fr,.fr,.fr],.ow [.fr,.fr]],.fr,.fr,.fr,.fr,.fr,.fr]],.fr,.fr] (.st .Read) [.sl .s,.bo] [uI] (fun x y=>Ng x y.1 y.2)
noncomputable def We:Cb 66:=b0 ((ad Wg (ad Wd (ad (bI (eZ:Ev eS) 113 f113 (aN tB 0x41 [])) eZ))):Ev eS) f66 (aN tB 0x800a1080014082c8081358241001409041 [0x58e240100002040205083,0xc43080016082008082]) [.s] [.st .Program,uI,uI] Nj
noncomputable def zC:Cb 114:=b0 (eZ:Ev []) f114 (aN tB 0x2000502c8081358240050241 [0x140080000001002]) [.sl (.st .Var),.sl (.st .Var)] [.bo] (fun x=>E0 x.1 x.2)
noncomputable def Mn:Cb 241:=b0 (eZ:Ev []) f241 (aN tB 0x2000502c8081358240050241 [0x140080000001002]) [.sl (.st .Arg),.sl (.st .Arg)] [.bo] (fun x=>EZ x.1 x.2)
noncomputable def Ir:Cb 221:=b0 ((ad Mn eZ):Ev []) f221 (aN tB 0x800142320204d6090000502c80813582002842082c8081358240050841 [0xd83080003082003082,0x140080003082003082,0xaf90c20001c60c21001c6143085,0x80020001c60c21001c6143085,0x240080003082003082,0x26780c20000c2080243083]) [.st .Instr,.st .Instr] [.bo] (fun x=>BR x.1 x.2)
noncomputable def IA:Cb 181:=b0 ((ad Ir eZ):Ev []) f181 (aN tB 0x4000a05901026b048000281640409ac1001421640409ac12000502c8081358240050841 [0xde43080003082003082,0x140080003082003082,0x180080003082003082,0x1ff80c20000c2080183083,0x70020000c2080183083,0x200080003082003082]) [.st .Block,.st .Block] [.bo] (fun x=>BV x.1 x.2)
noncomputable def Mb:Cb 115:=b0 ((ad zC (ad IA eZ)):Ev []) f115 (aN tB 0x2000502c8081358240050841 [0xa83080003082003082,0x140080003082003082]) [.st .Func,.st .Func] [.bo] (fun x=>EP x.1 x.2)
noncomputable def ae3:Cb 67:=b0 ((ad zC (ad Mb eZ)):Ev []) f67 (aN tB 0x800140b20204d609000281640409ac12000508c8081358240050841 [0xbc3080003082003082,0x140080003082003082,0x6f90c20000c2080143083,0x180080003082003082,0x1c0080003082003082]) [.st .Program,.st .Program] [.bo] (fun x=>W5 x.1 x.2)
noncomputable def ZV:Cb 31:=b1 ((ad V8 (ad We (ad ae3 eZ))):Ev []) f31 (aN tB 0x1041 []) [.st .Program] [.bo] S4
noncomputable def Mi:Cb 32:=b1 (eZ:Ev []) f32 (aN tB 0x10000502c80813582002812c8081358241 [0xc0080001040041,0x4002000041003042]) [.st .Func] [.bo] EW
noncomputable def qL:Cb 69:=b0 (eZ:Ev []) f69 (aN tB 0x2000502c8081358241 [0x6002000102080102043]) [.st .Program,.s] [.st .Class,.bo] (fun x=>JG x.1 x.2)
noncomputable def xX:Cb 70:=b0 (eZ:Ev []) f70 (aN tB 0x41 []) [.s] [.bo] SY
noncomputable def RP:Cb 68:=b0 ((ad qL (ad xX eZ)):Ev []) f68 (aN tB 0x4000140b20204d60800a1088c8081358241 [0x5002000081002042,0x1c3080002040142043,0x883080002040142043,0x200080002040142043]) [.st .Program,.sl (.st .Var)] [.bo] (fun x=>JK x.1 x.2)
noncomputable def RN:Cb 33:=b1 ((ad RP (ad qL (ad xX eZ))):Ev []) f33 (aN tB 0x1000284101041000281640409ac12c808135824000140b20204d60b20204d609000281000281640409ac12c8081358240050241 [0xc0080001040041,0x4002000041003042,0x140080001040041,0x6002000041005042,0x1c0080001040041,0x8002000041007042,0x2c308000107ce41247043,0x24380c2000041007042]) [.st .Program] [.bo] JI
noncomputable def zy:Cb 116:=b0 (eZ:Ev []) f116 (aN tB 0x2000502c8081358241 [0x6002000081002042]) [.st .Func,.s] [uI,.bo] (fun x=>MZ x.1 x.2)
noncomputable def zw:Cb 128:=b1 ((ad zy eZ):Ev []) f128 (aN tB 0x80014202c8081358241 [0x1c00800030400c2043,0x2a0c20000c10070c2044]) [.st .Func,uI,uI] [.bo] (fun x=>MW x.1 x.2.1 x.2.2)
noncomputable def ZL:Cb 117:=b8 ((ad zw eZ):Ev []) f117 (aN tB 0x8000284700421ac1640409ac104160204d641041 [0x1030cf100001040041,0x1401030cf180001040041,0x60040c33c6000041005042,0x803080001043dc1185103045,0x1030cf100001040185043,0xb43080001043dc1185103045]) [.st .Func] [.sl .bo] SR
noncomputable def Wa:Cb 71:=b1 ((ad zy (ad ZL eZ)):Ev []) f71 (aN tB 0x4000a05901026b04820000140b20204d60800a1082c808135820800a0482c8081358241 [0xc0080001040041,0x1c0080001040183043,0x1790c2000041007183044,0xa002000041007183044,0xc0020000002c1]) [.st .Func] [.bo] Nb
noncomputable def Ml:Cb 182:=b0 (eZ:Ev []) f182 (aN tB 0x2000502c8081358241 [0x180080004040101003]) [.sl (.st .Var),.s] [.st .Var,.bo] (fun x=>W9 x.1 x.2)
noncomputable def PH:Cb 118:=b0 ((ad Ml eZ):Ev []) f118 (aN tB 0x1001409041 []) [.st .Func,.s] [.st .Var,.bo] (fun x=>SZ x.1 x.2)
noncomputable def V5:Cb 119:=b0 ((ad PH eZ):Ev eV) f119 (aN tB 0x40041421001050241 [0x7430800030400c1]) [.st .Func,.st .Arg] [.s,.bo] (fun x=>Xa x.1 x.2)
noncomputable def zz:Cb 120:=b0 ((ad xX eZ):Ev []) f120 (aN tB 0x101 [0x103080000000]) [.s,.s] [.bo] (fun x=>M5 x.1 x.2)
noncomputable def V3:Cb 121:=b0 ((ad zz eZ):Ev []) f121 (aN tB 0x2000508c8081358241 [0x140080000001002,0x1c0c2000000141003]) [.sl .s,.sl (.st .Var)] [.bo] (fun x=>M4 x.1 x.2)
noncomputable def RM:Cb 122:=b0 ((ad qL (ad Ml eZ)):Ev []) f122 (aN tB 0x1041 []) [.st .Program,.s,.s] [.st .Var,.bo] (fun x=>JH x.1 x.2.1 x.2.2)
noncomputable def Mk:Cb 123:=b0 ((ad Ml eZ):Ev []) f123 (aN tB 0x41 []) [.st .Program,.s] [.st .Var,.bo] (fun x=>EY x.1 x.2)
noncomputable def V4:Cb 124:=b0 (eZ:Ev []) f124 (aN tB 0x2000502c8081358241 [0x6002000102080102043]) [.st .Program,.s] [.st .Func,.bo] (fun x=>M6 x.1 x.2)
noncomputable def Mj:Cb 125:=b0 (eZ:Ev []) f125 (aN tB 0x2000502c8081358241 [0x6002000102080102043]) [.st .Program,.s] [.st .Extern,.bo] (fun x=>EX x.1 x.2)
noncomputable def RO:Cb 72:=b1 ((ad qL (ad xX (ad V9 (ad PH (ad V5 (ad zz (ad V3 (ad RM (ad Mk (ad V4 (ad Mj eZ))))))))))):Ev []) f72 (aN tB 0x2000502c808135824000a10140805020140810140804140804140811020411020411020405020140b06008480212020800028120b20204d609040050841041 [0xee430800091440c40091440c4,0x3002c61000091440c40091440c4,0x3c80800091430cbdc140b2450c5,0xcb90c20002450c32f70503cb2450c6,0x4080800091430cbdc13cb2450c5,0xff90c20002450c32f70503cb2450c6,0x2412f70503cb244,0x183080000000,0x134140c40134c3009142009142,0x183080000000,0x5505831005550c01412f704b142,0x183080000000,0x183080000000,0x183080000000,0x55b80c20002412f70503cb244,0x1f0020002412f70503cb244]) [.st .Program,.st .Func,.st .Instr] [.bo] (fun x=>JJ x.1 x.2.1 x.2.2)
noncomputable def ZR:Cb 73:=b0 ((ad V5 (ad zz eZ)):Ev []) f73 (aN tB 0x4041 [0x103080000000]) [.st .Func,.st .Term] [.bo] (fun x=>SX x.1 x.2)
noncomputable def V0:Cb 222:=b8 (eZ:Ev []) f222 (aN tB 0x100205c01026b04820040b80204d609041 [0x180146100000001002,0x5182000000181003,0x1c0146100000001002,0x51820000001c1003]) [.sl .s,.s] [.sl .s] (fun x=>M1 x.1 x.2)
noncomputable def VZ:Cb 183:=b8 ((ad V0 eZ):Ev []) f183 (aN tB 0x40050241 []) [.sl .s,.st .Arg] [.sl .s] (fun x=>M0 x.1 x.2)
noncomputable def RK:Cb 126:=b8 ((ad VZ eZ):Ev []) f126 (aN tB 0x200640409ac1640409ac1200640409ac1640409ac120320204d609041 [0x1000ca100001040041,0x1400ca100001040041,0x6003284000041005042,0x1c00ca100001040041,0x8003284000041007042]) [.st .Instr] [.sl .s] JC
noncomputable def CZ:Cb 185:=b1 (eZ:Ev []) f185 (aN tB 0x2000508c8081358241 [0x1c00800030400c2043,0x180c20000c10070c2044]) [.st .Block,uI,.s] [.bo] (fun x=>JE x.1 x.2.1 x.2.2)
noncomputable def Mg:Cb 223:=b0 (eZ:Ev []) f223 (aN tB 0x2000502c8081358241 [0x5002000081002042]) [.st .Func,.s] [.bo] (fun x=>EU x.1 x.2)
noncomputable def V1:Cb 224:=b0 (eZ:Ev []) f224 (aN tB 0x2000502c8081358241 [0x5002000081002042]) [.st .Block,.s] [.bo] (fun x=>M2 x.1 x.2)
noncomputable def RL:Cb 184:=b8 ((ad zw (ad CZ (ad Mg (ad V1 eZ)))):Ev []) f184 (aN tB 0x800042380204d6080842e00813582c8081358244041 [0x53c2000081002042,0x60053c4000081002042,0x1c014f100002040182043,0x53c2000081007182044,0x6e43080002045dc11c6142045,0x80053c4000081007182044,0x14f080002040207182045,0x6f90c20000811770481c6142046]) [.st .Func,.s] [.sl .bo] (fun x=>JD x.1 x.2)
noncomputable def Mf:Cb 127:=b1 ((ad RL (ad CZ eZ)):Ev []) f127 (aN tB 0x41 []) [.st .Func,uI,uI,.s] [.bo] (fun x=>ET x.1 x.2.1 x.2.2.1 x.2.2.2)
noncomputable def Mh:Cb 74:=b1 ((ad zy (ad RK (ad Mf (ad zw eZ)))):Ev []) f74 (aN tB 0x20000142020b20204d60b20204d60800a108000281640409ac105901026b0482c8081358241 [0xc0080001040041,0x5002000101080103043,0x7002000101080185103045,0x6b90c2000101080103043,0x8002000101080103043,0x240080004042008103044,0x24780c2000101080248103045]) [.st .Func] [.bo] EV
noncomputable def V2:Cb 34:=b1 ((ad Wa (ad RO (ad ZR (ad Mh eZ)))):Ev []) f34 (aN tB 0x1001409000281000281640409ac12c8081358240050241 [0x140080003082003082,0x60020000c2080143083]) [.st .Program,.st .Func] [uI] (fun x=>M3 x.1 x.2)
noncomputable def Iv:Cb 10:=b1 ((ad C0 (ad ZV (ad Mi (ad RN (ad V2 eZ))))):Ev []) f10 (aN tB 0x80014082c808135824005024000a101640409ac12000502c8081358240050841 [0x383080001040041,0xc0080001040041,0x100080001040041,0xb90c2000041004042,0x180080001040041]) [.st .Program] [uI] BU
def oS:An:=.s .l (.s (.j ⟨[1],[.loc 1],[],[.sl 10 .bo]⟩ .l (.c (.s .l .l) .l)) (.s (.j ⟨[1],[.loc 1],[],[.sl 16 .bo]⟩ .l (.c (.s .l .l) .l)) (.s (.s .l (.b (.lp ⟨[1],[.loc 1],[],[.sl 3 (.i .i64)]⟩ (.s (.s .l (.c .l .l)) (.s (.b (.j ⟨[1,3],[.loc 1],[],[.sl 36 .bo]⟩ .l (.c (.s .l .l) .l))) .l))))) (.s .l .l))))
noncomputable abbrev e_CheckSources:Ev []:=(ad RA (ad ag6 (ad zu (ad Iv (ad It (ad C0 eZ))))))
theorem vn(a:Lt.Program)(KK:(Bool)->Prop):kD a KK=tY e_CheckSources.en f3 oS [.st .Program] [.bo] a KK:=kQ0
theorem xL:En.ok e_CheckSources.en:=e_CheckSources.ok
end
end Go.Am
end

section
namespace Go.Am
open Go
def Bd(d:Nat):Int:=562949953421312+6001*((min d 10:Nat):Int)
theorem PG(d:Nat):562949953421312<=Bd d/\Bd d<=562949953621322:=by grind [Bd]
def Pc(d:Nat)(b:Int)(w:Nat)(r:Int):Prop:=(6000<r/\r<=Bd d)\/(r=b+(w:Int)/\r<=6000)
def short(s:a8):Prop:=s.length<=140737488355328
variable{d:Nat}{α:Type}
theorem lR(a:List α->Int->Int)(s:Int->α->Int)(w:α->Nat)(h0:∀b,a [] b=b)(h1:∀x r b,a (x::r) b=if b<=6000 then a r (s b x)else b)(ok:α->Prop)
  (hs:∀b x,ok x->0<=b->b<=6000->Pc d b (w x) (s b x)):∀(l:List α)(b:Int),(∀x∈l,ok x)->0<=b->b<=Bd d->Pc d b (l.map w).sum (a l b)
 |[],b,_,h2,h3=>by
  grind [Pc]
 |x::r,b,c,h2,h3=>by
  rw[h1];by_cases hb:b<=6000
  ·rw[if_pos hb];have hx:=hs b x (c x (by simp)) h2 hb
   have e:=PG d
   have h4:0<=s b x/\s b x<=Bd d:=by grind [Pc]
   have ih:=lR a s w h0 h1 ok hs r (s b x) (fun y hy=>c y (by simp[hy])) h4.1 h4.2
   grind [Pc]
  grind [Pc]
variable{k:Nat}{n:Int}
theorem mf(h1:0<=n)(h2:n<=1152921504606846976)(h3:k<=1152921504606846976):Lt.plus n k=n+(k:Int):=by
 grind [cz]
theorem mq(h1:0<=n)(h2:n<=4611686018427387904):i64.wrap n=n:=cz kQ1 kQ1
def YM(v:Lt.Var):Nat:=v.Name.length+v.Type_.length
def vm(l:List Lt.Var):Nat:=l.length+(l.map YM).sum
def YL(a:Lt.Arg):Nat:=a.S.length
def vk(l:List Lt.Arg):Nat:=l.length+(l.map YL).sum
def Lh(b:Lt.Bind):Nat:=1+b.Name.length+b.A.S.length
def qv(f:Lt.Frame):Nat:=f.Func.length+f.Block.length+(f.Vars.map Lh).sum
def Li(o:Lt.Virt):Nat:=o.Class.length+vk o.Vals
def iy(x:Lt.Instr):Nat:=1+x.Dst.length+x.Frames.length+x.Objs.length+x.Name.length+vk x.Args+(x.Frames.map qv).sum+(x.Objs.map Li).sum
def wIn(b:Lt.In):Nat:=1+b.Block.length+b.A.S.length
def OC(x:Lt.Phi):Nat:=1+x.Dst.length+(x.Ins.map wIn).sum
def wTo(t:List UInt8):Nat:=1+t.length
def fS(b:Lt.Block):Nat:=1+b.Name.length+b.End.A.S.length+(b.End.To.map wTo).sum+(b.Phis.map OC).sum+(b.Code.map iy).sum
def lC(f:Lt.Func):Nat:=1+f.Name.length+f.Result.length+vm f.Params+vm f.Vars+(f.Blocks.map fS).sum
def wH(c:Lt.Class):Nat:=c.Name.length+vm c.Fields
def rD(x:Lt.Extern):Nat:=1+x.Name.length
def Bz(p:Lt.Program):Nat:=vm p.Globals+(p.Classes.map wH).sum+(p.Externs.map rD).sum+(p.Funcs.map lC).sum
def mI(v:Lt.Var):Prop:=short v.Name/\short v.Type_
def dC(a:Lt.Arg):Prop:=short a.S
def Yq(b:Lt.Bind):Prop:=short b.Name/\dC b.A
def Og(f:Lt.Frame):Prop:=short f.Func/\short f.Block/\∀b∈f.Vars,Yq b
def rN(o:Lt.Virt):Prop:=short o.Class/\∀a∈o.Vals,dC a
def gE(x:Lt.Instr):Prop:=short x.Dst/\short x.Name/\(∀a∈x.Args,dC a)/\(∀f∈x.Frames,Og f)/\∀o∈x.Objs,rN o
def sIn(b:Lt.In):Prop:=short b.Block/\dC b.A
def o6(x:Lt.Phi):Prop:=short x.Dst/\∀i∈x.Ins,sIn i
def fu(b:Lt.Block):Prop:=short b.Name/\dC b.End.A/\(∀t∈b.End.To,short t)/\(∀x∈b.Phis,o6 x)/\∀i∈b.Code,gE i
def jQ(f:Lt.Func):Prop:=short f.Name/\short f.Result/\(∀v∈f.Params,mI v)/\(∀v∈f.Vars,mI v)/\∀b∈f.Blocks,fu b
def iU(c:Lt.Class):Prop:=short c.Name/\∀v∈c.Fields,mI v
def Qu(p:Lt.Program):Prop:=(∀c∈p.Classes,iU c)/\(∀v∈p.Globals,mI v)/\(∀e∈p.Externs,short e.Name)/\∀f∈p.Funcs,jQ f
variable{r:Int}
theorem qu{b0:Int}{w0:Nat}(hd:d < 9)(h0:0<=b0)(h:Pc (d+1) b0 w0 n)(hk:Pc d 0 k r):Pc (d+1) b0 (w0+k) (Lt.upto 6000 n r):=by
 grind [Lt.upto,Pc,Bd,mq]
theorem Fb{b0:Int}{w0:Nat}(h0:0<=b0)(h:Pc d b0 w0 n)(hk:k<=140737488355328):Pc d b0 (w0+k) (if n<=6000 then Lt.plus n k else n):=by
 grind [Pc,Bd,mf]
theorem Xm(hk:k<=140737488355328):Pc d 0 k (k:Int):=by grind [Pc,Bd]
theorem ZG(l:List Lt.Var)(b:Int)(h:∀v∈l,mI v)(h0:0<=b)(h1:b<=Bd d):Pc d b (l.map YM).sum (zt 6000 l b):=by
 refine lR (zt 6000) (fun n v=>if Lt.plus n v.Name.length<=6000 then Lt.plus (Lt.plus n v.Name.length) v.Type_.length else Lt.plus n v.Name.length) YM (fun _=>rfl) (fun _ _ _=>rfl) mI (fun b x hx h0 h1=>?_) l b h h0 h1;have hn:Pc d b x.Name.length (Lt.plus b x.Name.length):=by
  have:=hx.1;grind [short,Pc,Bd,mf]
 exact Fb h0 hn hx.2
theorem lS{d:Nat}(l:List Lt.Var)(h:∀v∈l,mI v):Pc d 0 (vm l) (cX l 6000):=by
 unfold cX vm;split
 ·grind [mq,Pc,Bd]
 have:=ZG (d:=d) l (l.length:Int) h kQ1 (by have:=PG d;omega)
 grind [Pc]
theorem ZC(l:List Lt.Arg)(b:Int)(h:∀v∈l,dC v)(h0:0<=b)(h1:b<=Bd d):Pc d b (l.map YL).sum (zq 6000 l b):=by
 refine lR (zq 6000) (fun n v=>Lt.plus n v.S.length) YL (fun _=>rfl) (fun _ _ _=>rfl) dC (fun b x hx h0 h1=>?_) l b h h0 h1
 grind [dC,short,Pc,Bd,YL,mf]
theorem xb{d:Nat}(l:List Lt.Arg)(h:∀v∈l,dC v):Pc d 0 (vk l) (fE l 6000):=by
 unfold fE vk;split
 ·grind [mq,Pc,Bd]
 have:=ZC (d:=d) l (l.length:Int) h kQ1 (by have:=PG d;omega)
 grind [Pc]
variable{b:Int}
theorem Ks(h0:0<=b)(h1:b<=6000)(hk:k<=140737488355328):Pc d b (1+k) (Lt.plus (i64.wrap (b+1)) k):=by
 grind [mq,Pc,Bd]
theorem VN(l:List Lt.Bind)(b:Int)(h:∀v∈l,Yq v)(h0:0<=b)(h1:b<=Bd d):Pc d b (l.map Lh).sum (py 6000 l b):=by
 refine lR (py 6000) (fun n b=>if Lt.plus (i64.wrap (n+1)) b.Name.length<=6000 then Lt.plus (Lt.plus (i64.wrap (n+1)) b.Name.length) b.A.S.length else Lt.plus (i64.wrap (n+1)) b.Name.length) Lh (fun _=>rfl) (fun _ _ _=>rfl) Yq (fun b x hx h0 h1=>?_) l b h h0 h1;exact Fb h0 (Ks h0 h1 hx.1) hx.2
theorem aeY(l:List Lt.In)(b:Int)(h:∀v∈l,sIn v)(h0:0<=b)(h1:b<=Bd d):Pc d b (l.map wIn).sum (Iq 6000 l b):=by
 refine lR (Iq 6000) (fun n b=>if Lt.plus (i64.wrap (n+1)) b.Block.length<=6000 then Lt.plus (Lt.plus (i64.wrap (n+1)) b.Block.length) b.A.S.length else Lt.plus (i64.wrap (n+1)) b.Block.length) wIn (fun _=>rfl) (fun _ _ _=>rfl) sIn (fun b x hx h0 h1=>?_) l b h h0 h1;exact Fb h0 (Ks h0 h1 hx.1) hx.2
theorem iV{w w':Nat}(h0:0<=b)(h:Pc d b w n)(h':0<=n->n<=Bd d->Pc d n w' r):Pc d b (w+w') r:=by
 have a:=PG d
 grind [Pc]
theorem NW(h0:0<=b)(h1:b<=6000)(hk:k<=140737488355328):Pc d b k (Lt.plus b k):=by
 grind [mf,Pc,Bd]
theorem Ru(l:List Lt.Frame)(b:Int)(h:∀v∈l,Og v)(h0:0<=b)(h1:b<=Bd d):Pc d b (l.map qv).sum (lN 6000 l b):=by
 refine lR (lN 6000) (fun n f=>py 6000 f.Vars (if Lt.plus n f.Func.length<=6000 then Lt.plus (Lt.plus n f.Func.length) f.Block.length else Lt.plus n f.Func.length)) qv (fun _=>rfl) (fun _ _ _=>rfl) Og (fun b x hx h0 h1=>?_) l b h h0 h1;exact iV h0 (Fb h0 (NW h0 h1 hx.1) hx.2.1) (VN x.Vars _ hx.2.2)
theorem ZE(hd:d < 9)(l:List Lt.Virt)(b:Int)(h:∀v∈l,rN v)(h0:0<=b)(h1:b<=Bd (d+1)):Pc (d+1) b (l.map Li).sum (t6 6000 l b):=by
 refine lR (t6 6000) (fun n o=>if Lt.plus n o.Class.length<=6000 then i64.wrap (Lt.plus n o.Class.length+fE o.Vals 6000)else Lt.plus n o.Class.length) Li (fun _=>rfl) (fun _ _ _=>rfl) rN (fun b x hx h0 h1=>?_) l b h h0 h1;exact qu hd h0 (NW h0 h1 hx.1) (xb _ hx.2)
theorem ag5(l:List a8)(b:Int)(h:∀v∈l,short v)(h0:0<=b)(h1:b<=Bd d):Pc d b (l.map wTo).sum (Lt.cTo 6000 l b):=by
 refine lR (Lt.cTo 6000) (fun n t=>Lt.plus (i64.wrap (n+1)) t.length) wTo (fun _=>rfl) (fun _ _ _=>rfl) short (fun b x hx h0 h1=>?_) l b h h0 h1;exact Ks h0 h1 hx
theorem ZF(l:List Lt.Phi)(b:Int)(h:∀v∈l,o6 v)(h0:0<=b)(h1:b<=Bd d):Pc d b (l.map OC).sum (t7 6000 l b):=by
 refine lR (t7 6000) (fun n x=>Iq 6000 x.Ins (Lt.plus (i64.wrap (n+1)) x.Dst.length)) OC (fun _=>rfl) (fun _ _ _=>rfl) o6 (fun b x hx h0 h1=>?_) l b h h0 h1;exact iV h0 (Ks h0 h1 hx.1) (aeY x.Ins _ hx.2)
theorem Vw{w:Nat}(hd:d < 9)(h0:0<=b)(hn:n=b+(w:Int))(h1:n<=6000)(hk:Pc d 0 k r):Pc (d+1) b (w+k) (i64.wrap (n+r)):=by
 grind [Pc,Bd,mq]
theorem Ez(x:Lt.Instr)(h:gE x):Pc 1 0 (iy x) (gu x 6000):=by
 obtain⟨h1,h2,h3,h4,h5⟩:=h;unfold short at h1 h2;unfold gu;split
 ·grind [mq,Pc,Bd]
 rename_i hc;simp only[akD,decide_eq_true_eq,not_or]at hc;have e:Lt.plus (Lt.plus (Lt.plus 1 x.Dst.length) x.Frames.length) x.Objs.length=1+(x.Dst.length:Int)+x.Frames.length+x.Objs.length:=by
  have f:=mf (n:=1) (k:=x.Dst.length) kQ1 kQ1 kQ1
  grind [mf]
 have d:Pc 1 0 (1+x.Dst.length+x.Frames.length+x.Objs.length) (Lt.plus (Lt.plus (Lt.plus 1 x.Dst.length) x.Frames.length) x.Objs.length):=by
  grind [Pc,Bd]
 have c:=qu kQ1 kQ1 d (Xm h2)
 have a:=qu kQ1 kQ1 c (xb x.Args h3)
 have b:=iV kQ1 a (Ru x.Frames _ h4)
 exact iV kQ1 b (ZE kQ1 x.Objs _ h5)
theorem ZD(l:List Lt.Instr)(b:Int)(h:∀v∈l,gE v)(h0:0<=b)(h1:b<=Bd 2):Pc 2 b (l.map iy).sum (rP 6000 l b):=by
 refine lR (rP 6000) (fun n x=>i64.wrap (n+gu x 6000)) iy (fun _=>rfl) (fun _ _ _=>rfl) gE (fun b x hx h0 h1=>?_) l b h h0 h1;have:=Vw (b:=b) (w:=0) (n:=b) kQ1 h0 kQ1 h1 (Ez x hx)
 grind
theorem Ey(x:Lt.Block)(h:fu x):Pc 2 0 (fS x) (gr x 6000):=by
 obtain⟨h1,h2,h3,h4,h5⟩:=h;unfold dC at h2;unfold short at h1 h2;unfold gr;split
 ·grind [mq,Pc,Bd]
 have d:Pc 2 0 (1+x.Name.length) (Lt.plus 1 x.Name.length):=by
  rw[mf kQ1 kQ1 kQ1];grind [Pc,Bd]
 have b:=qu kQ1 kQ1 d (Xm h2)
 have c:=iV kQ1 b (ag5 x.End.To _ h3)
 have a:=iV kQ1 c (ZF x.Phis _ h4)
 exact iV kQ1 a (ZD x.Code _ h5)
theorem Rs(l:List Lt.Block)(b:Int)(h:∀v∈l,fu v)(h0:0<=b)(h1:b<=Bd 3):Pc 3 b (l.map fS).sum (nU 6000 l b):=by
 refine lR (nU 6000) (fun n x=>i64.wrap (n+gr x 6000)) fS (fun _=>rfl) (fun _ _ _=>rfl) fu (fun b x hx h0 h1=>?_) l b h h0 h1;have:=Vw (b:=b) (w:=0) (n:=b) kQ1 h0 kQ1 h1 (Ey x hx)
 grind
theorem QP(f:Lt.Func)(h:jQ f):Pc 3 0 (lC f) (nO f 6000):=by
 obtain⟨h1,h2,h3,h4,h5⟩:=h;unfold short at h1 h2;unfold nO;split
 ·grind [mq,Pc,Bd]
 have d:Pc 3 0 (1+f.Name.length) (Lt.plus 1 f.Name.length):=by
  rw[mf kQ1 kQ1 kQ1];grind [Pc,Bd]
 have b:=qu kQ1 kQ1 d (Xm h2)
 have c:=qu kQ1 kQ1 b (lS f.Params h3)
 have a:=qu kQ1 kQ1 c (lS f.Vars h4)
 exact iV kQ1 a (Rs f.Blocks _ h5)
theorem VO(l:List Lt.Func)(b:Int)(h:∀v∈l,jQ v)(h0:0<=b)(h1:b<=Bd 4):Pc 4 b (l.map lC).sum (nV 6000 l b):=by
 refine lR (nV 6000) (fun n x=>i64.wrap (n+nO x 6000)) lC (fun _=>rfl) (fun _ _ _=>rfl) jQ (fun b x hx h0 h1=>?_) l b h h0 h1;have:=Vw (b:=b) (w:=0) (n:=b) kQ1 h0 kQ1 h1 (QP x hx)
 grind
theorem L9(hd:d < 9)(l:List Lt.Class)(b:Int)(h:∀v∈l,iU v)(h0:0<=b)(h1:b<=Bd (d+1)):Pc (d+1) b (l.map wH).sum (kJ 6000 l b):=by
 refine lR (kJ 6000) (fun n c=>if Lt.plus n c.Name.length<=6000 then i64.wrap (Lt.plus n c.Name.length+cX c.Fields 6000)else Lt.plus n c.Name.length) wH (fun _=>rfl) (fun _ _ _=>rfl) iU (fun b x hx h0 h1=>?_) l b h h0 h1;exact qu hd h0 (NW h0 h1 hx.1) (lS _ hx.2)
theorem Ma(l:List Lt.Extern)(b:Int)(h:∀v∈l,short v.Name)(h0:0<=b)(h1:b<=Bd d):Pc d b (l.map rD).sum (ji 6000 l b):=by
 refine lR (ji 6000) (fun n t=>Lt.plus (i64.wrap (n+1)) t.Name.length) rD (fun _=>rfl) (fun _ _ _=>rfl) (fun v=>short v.Name) (fun b x hx h0 h1=>?_) l b h h0 h1;exact Ks h0 h1 hx
variable{p:Lt.Program}
theorem U4(h:Qu p)(hf:Lt.Few p 6000=true):Bz p<=6000/\p.Classes.length<=50:=by
 obtain⟨h1,h2,h3,h4⟩:=h;unfold Lt.Few at hf;split at hf
 ·cases hf
 rename_i hc;simp only[akD,decide_eq_true_eq,not_or]at hc;have b:=lS (d:=4) p.Globals h2
 have a:=iV kQ1 b (L9 (d:=3) kQ1 p.Classes _ h1)
 have c:=iV kQ1 a (Ma p.Externs _ h3)
 grind [VO,Pc,Bd,Bz]
theorem oL(w:α->Nat):∀(l:List α)(x:α),x∈l->w x<=(l.map w).sum
 |y::l,x,h=>by
  rw[List.map_cons,List.sum_cons];rcases ajI.1 h with rfl|h
  ·omega
  have:=oL w l x h;omega
theorem rA(w:α->Nat)(h:∀x,1<=w x):∀l:List α,l.length<=(l.map w).sum
 |[]=>aj0 _
 |y::l=>by
  have:=rA w h l
  grind
theorem Ox(g w:α->Nat)(h:∀x,g x<=w x):∀l:List α,(l.map g).sum<=(l.map w).sum
 |[]=>ajB _
 |y::l=>by
  have:=Ox g w h l
  grind
theorem agD(h:Bz p<=6000):cZ p/\p.Funcs.length<=1000000:=by
 unfold Bz at h;have c:=rA lC (fun f=>by grind [lC]) p.Funcs
 have hf:∀f∈p.Funcs,lC f<=6000:=fun f hf=>by
  grind [oL]
 refine⟨⟨fun f hm=>?_,fun f hm=>?_⟩,by omega⟩
 ·grind [lC,vm]
 have h1:=hf f hm
 unfold lC vm at h1;have d:=rA fS (fun b=>by grind [fS]) f.Blocks
 have hb:∀b∈f.Blocks,fS b<=6000:=fun b hb=>by
  grind [oL]
 have hi:∀b∈f.Blocks,∀x∈b.Code,iy x<=6000:=fun b a x hx=>by
  grind [oL,fS]
 refine⟨fun b a x hx=>?_,⟨by omega,fun b a=>?_⟩,by omega,fun b a=>?_,fun b a x hx=>?_⟩
 ·grind [iy,vk]
 ·grind [fS,rA,wTo]
 ·grind [fS,rA,OC,iy]
 have h2:=hi b a x hx
 unfold iy vk at h2;have h3:=Ox (fun f:Lt.Frame=>f.Vars.length) qv (fun f=>by
  grind [rA,Lh,qv]) x.Frames
 have h4:=Ox (fun o:Lt.Virt=>o.Vals.length) Li (fun o=>by grind [Li,vk]) x.Objs
 grind [io,D1]
theorem rV{β:Type}(g:α->List β)(w:α->Nat)(k:Nat):∀(l:List α),(∀x∈l,(g x).length<=k*w x)->(l.flatMap g).length<=k*(l.map w).sum
 |[],_=>by simp
 |x::r,h=>by
  have h1:=h x (by simp)
  have h2:=rV g w k r (fun y hy=>h y (by simp[hy]))
  grind [Nat.mul_add]
theorem acN(w:α->Nat):∀(l:List α),(l.map fun x=>1+w x).sum=l.length+(l.map w).sum
 |[]=>by simp
 |x::r=>by
  have:=acN w r
  grind
def lw(ws:List a8):Nat:=(ws.map fun w=>w.length+1).sum
theorem qW(a b:List a8):lw (a++b)=lw a+lw b:=by simp[lw]
theorem fG(a:a8)(b:List a8):lw (a::b)=a.length+1+lw b:=by rfl
theorem oD:lw []=0:=rfl
theorem adU:∀(ws:List a8)(b:Bool),(Lt.jw b ws).length<=lw ws
 |[],_=>by simp[Lt.jw]
 |w::r,b=>by
  have:=adU r true
  grind [Lt.jw,fG]
theorem mD(ws:List a8):(Lt.lnT ws).length<=lw ws+1:=by
 grind [adU,Lt.lnT]
theorem uT(h:Lt.inR n):(jH n).length<=20:=sQ h
theorem wx{a:Lt.Arg}(h:a.ok):(bt a).length<=a.S.length+25:=by
 have h1:=uT h
 grind [qd,Ac,bt]
theorem WP(n:Nat):(gw.getD n default).length<=10:=by
 have h:∀w∈gw,w.length<=10:=by decide
 rw[List.getD];cases hn:gw[n]? with
 |none=>simp;exact aj0 _
 |some w=>
  grind
theorem ab7(op:Int):(Lt.rOf op).1.Word.length<=10:=by
 grind [Lt.rOf,WP]
theorem sZ(first:List UInt8)(hf:first.length<=6)(l:List Lt.Var):(iT first l).length<=20*vm l:=by
 have:=rV (fun v:Lt.Var=>Lt.lnT [first,v.Name,v.Type_]) (fun v=>1+YM v) 20 l (fun v _=>by
  grind [mD,fG,oD,YM])
 rw[acN]at this;exact this
variable{l:List Lt.Arg}
theorem D2(h:vH l):lw (l.map bt)<=30*vk l:=by
 induction l with
 |nil=>simp[lw]
 |cons a r ih=>
  have h1:=ih (fun x hx=>h x (aj1 _ hx))
  have h2:=wx (h a (by simp))
  grind [vk,fG,YL]
theorem Ik(n:α->a8)(a:α->Lt.Arg)(l:List α)(h:∀b∈l,(a b).ok):lw (l.flatMap fun b=>[n b,bt (a b)])<=30*(l.map fun b=>1+(n b).length+(a b).S.length).sum:=by
 induction l<;>grind [wx,fG,oD]
theorem Su{f:Lt.Frame}(h:f.ok)(hn:Lt.inR f.At):(Lt.lnT (fJ f)).length<=40*(1+qv f):=by
 have h1:=mD (fJ f)
 have h2:=Ik (fun b:Lt.Bind=>b.Name) (fun b=>b.A) f.Vars (fun b hb=>h.2 b hb)
 have h3:=uT hn
 simp only[fJ,qW,fG,oD,ajK,ajS]at h1;unfold qv;have:(f.Vars.map Lh).sum=(f.Vars.map fun b=>1+b.Name.length+b.A.S.length).sum:=rfl
 grind [fJ]
theorem YK{o:Lt.Virt}(h:o.ok):(Lt.lnT (jJ o)).length<=40*(1+Li o):=by
 have h1:=mD (jJ o)
 have h2:=D2 (l:=o.Vals) h
 grind [jJ,fG,Li]
theorem OG:lw ((l.take 1).map bt)+lw ((l.drop 1).map bt)=lw (l.map bt):=by
 grind [qW,akN]
theorem Wt{x:Lt.Instr}(h:x.ok)(hn:∀f∈x.Frames,Lt.inR f.At):(jG x).length<=40*iy x:=by
 obtain⟨a,okF,okO⟩:=h;have h1:=mD (jK x)
 have h2:=D2 a
 have h3:=ab7 x.Op
 have h4:=rV (fun f=>Lt.lnT (fJ f)) (fun f=>1+qv f) 40 x.Frames (fun f hf=>Su (okF f hf) (hn f hf))
 have h5:=rV (fun o=>Lt.lnT (jJ o)) (fun o=>1+Li o) 40 x.Objs (fun o b=>YK (okO o b))
 rw[acN]at h4 h5;have c:lw (r7 x)<=x.Dst.length+20:=by
  grind [r7,fG,oD]
 grind [jK,OG,qW,fG,jG,iy]
theorem agG(l:List a8):lw l=(l.map wTo).sum:=by
 grind [lw,wTo,ajN]
theorem SN(n:Nat):(([[],[106,117,109,112],[98,114,97,110,99,104],[114,101,116],[116,114,97,112]]:List a8).getD n default).length<=10:=by
 match n with
 |0=>decide
 |1=>decide
 |2=>decide
 |3=>decide
 |4=>decide
 |n+5=>simp;exact aj0 _
theorem aaE{t:Lt.Term}(h:t.ok):(uS t).length<=70+t.A.S.length+(t.To.map wTo).sum:=by
 unfold uS;split
 ·simp
 have h1:=mD (A6 t)
 have h2:=wx h.1
 have h3:=uT h.2
 have h4:=SN t.Kind.toNat
 have h5:=agG t.To
 unfold A6 at h1⊢
 grind [lw]
theorem abY{x:Lt.Phi}(h:x.ok):(Lt.lnT (nB x)).length<=40*OC x:=by
 have h1:=mD (nB x)
 have h2:=Ik (fun b:Lt.In=>b.Block) (fun b=>b.A) x.Ins (fun b hb=>h.2 b hb)
 simp only[nB,qW,fG,oD,ajK,ajS]at h1;unfold OC;have:(x.Ins.map wIn).sum=(x.Ins.map fun b=>1+b.Block.length+b.A.S.length).sum:=rfl
 grind [nB]
theorem Rm{b:Lt.Block}(h:b.ok)(hn:∀i∈b.Code,∀f∈i.Frames,Lt.inR f.At):(iq b).length<=100*fS b:=by
 have h1:=mD [[98,108,111,99,107],b.Name]
 simp only[fG,oD,ajK,ajS]at h1;have h2:=rV (fun x=>Lt.lnT (nB x)) OC 40 b.Phis (fun x hx=>abY (h.1 x hx))
 have h3:=rV jG iy 40 b.Code (fun x hx=>Wt (h.2.1 x hx) (hn x hx))
 have h4:=aaE h.2.2
 grind [iq,fS]
theorem WK{f:Lt.Func}(h:f.ok)(hn:∀b∈f.Blocks,∀i∈b.Code,∀r∈i.Frames,Lt.inR r.At):(lj f).length<=100*lC f:=by
 have h1:=mD [[102,117,110,99],f.Name,f.Result]
 simp only[fG,oD,ajK,ajS]at h1;have h2:=rV iq fS 100 f.Blocks (fun x hx=>Rm (h x hx) (hn x hx))
 grind [sZ,lj,lC]
theorem Sb(c:Lt.Class):(ir c).length<=20*(1+wH c):=by
 grind [mD,fG,oD,sZ,ir,wH]
theorem My{c:Lt.Extern}(h:Lt.inR c.N):(jr c).length<=40*rD c:=by
 grind [mD,uT,fG,oD,ajK,jr,rD]
theorem U3(hs:Qu p)(h:p.ok)(a:∀e∈p.Externs,Lt.inR e.N)(hn:∀f∈p.Funcs,∀b∈f.Blocks,∀i∈b.Code,∀r∈i.Frames,Lt.inR r.At)(hf:Lt.Few p 6000=true):(gD p).length<=4194304:=by
 obtain⟨hw,hc⟩:=U4 hs hf;have h1:=rV ir (fun c=>1+wH c) 20 p.Classes (fun c _=>Sb c)
 rw[acN]at h1;have h2:=rV jr rD 40 p.Externs (fun x hx=>My (a x hx))
 have h3:=rV lj lC 100 p.Funcs (fun x hx=>WK (h x hx) (hn x hx))
 have h4:=sZ [103,108,111,98,97,108] (by decide) p.Globals
 have h5:(if p.SSA then Lt.lnT [[115,115,97]]else []).length<=10:=by split<;>decide
 unfold Bz at hw;unfold gD;simp only[ajR];omega
theorem XJ(h:Bz p<=6000):∀f∈p.Funcs,nA f:=by
 unfold Bz at h;intro f hf b hb x hx;have h1:lC f<=6000:=by have:=oL lC p.Funcs f hf;omega
 unfold lC at h1;have h2:fS b<=6000:=by have:=oL fS f.Blocks b hb;omega
 unfold fS at h2;have h3:iy x<=6000:=by have:=oL iy b.Code x hx;omega
 unfold iy at h3;omega
theorem af6(hs:Qu p)(h:p.ok)(a:∀e∈p.Externs,Lt.inR e.N)(hn:∀f∈p.Funcs,∀b∈f.Blocks,∀i∈b.Code,∀r∈i.Frames,Lt.inR r.At):XZ p:=
 ⟨h,a,hn,fun hf=>⟨(agD (U4 hs hf).1).1,XJ (U4 hs hf).1,U3 hs h a hn hf⟩⟩
end Go.Am
end
