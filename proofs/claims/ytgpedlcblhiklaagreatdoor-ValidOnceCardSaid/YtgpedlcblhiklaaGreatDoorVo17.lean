/-
  Part 17: AmPkR · AmPkY · AmG25 · AmPkT · AmSw · AmPan.
-/
import Derived.Test.YtgpedlcblhiklaaGreatDoorVo16
set_option linter.unusedSimpArgs false
set_option linter.unusedVariables false
set_option linter.unusedSectionVars false
set_option linter.unnecessarySimpa false
open Lt
open Go.Proofs.Tryz
open Go.IntKind (i64)
section
namespace Go.Am
open Go
theorem Jn{x:Lt.Frame}(h:Lt.frame x=true)(ok:x.ok):bW (gM x) 4 true=(x.Vars,true):=by
 obtain⟨_,_,_,_,_,h4⟩:=pC h;unfold bW gM;have a:=sW (objs:=true) (l:=x.Vars) (by
  intro b hb;have:=h4 b hb
  unfold gU at this;simp only[aiW]at this;exact⟨this.1,this.2,ok.2 b hb⟩)
 grind
theorem xN{p:Lt.Program}{fs:List Lt.Func}{f:Lt.Func}{bs:List Lt.Block}{b:Lt.Block}{cs:List Lt.Instr}{n:Int}:∀(l:List Lt.Frame)(i:Lt.Instr),(∀x∈l,Lt.frame x=true/\x.ok)->i.Frames.length+l.length<=16 ->
  Runs (stI p fs f bs b cs i 7 n) (l.map gM) (stI p fs f bs b cs { i with Frames:=i.Frames++l } 7 n)
 |[],i,_,_=>by simpa using eK _
 |x::l,i,h,hl=>by
  obtain⟨h1,a⟩:=h x (by simp);obtain⟨hf,hb,g,k,m,_⟩:=pC h1;have j:i.Frames.length+(l.length+1)<=16:=hl
  have ih:=xN (p:=p) (fs:=fs) (f:=f) (bs:=bs) (b:=b) (cs:=cs) (n:=n) l { i with Frames:=i.Frames++[x] } (fun y hy=>h y (by grind)) (by grind)
  refine⟨stI p fs f bs b cs { i with Frames:=i.Frames++[x] } 7 n,fun c=>sN (jb (gu hf)) (by show ¬ Lt.kAt=sK;decide) (lD (by show ¬ Lt.kAt=_;decide) (by show ¬ Lt.kAt=_;decide) (by show ¬ Lt.kAt=_;decide) (by show ¬ Lt.kAt=_;decide) (by show ¬ Lt.kAt=_;decide)) (yz (by show ¬ Lt.kAt=_;decide) (by show ¬ Lt.kAt=_;decide) (by show ¬ Lt.kAt=_;decide) (by show ¬ Lt.kAt=_;decide)) ?_,by grind⟩;refine(YL (by rfl) rfl).trans ?_;have:Lt.sAt (stI p fs f bs b cs i 7 n) (gM x)=(0,stI p fs f bs b cs { i with Frames:=i.Frames++[x] } 7 n):=by
   unfold Lt.sAt;have en:bw (Lt.w3 (gM x))=(x.At,true):=jD (by grind [Lt.inR])
   have e:Lt.w1 (gM x)=x.Func:=rfl
   have d:Lt.w2 (gM x)=x.Block:=rfl
   rw[Jn h1 a,aU,aU,en,e,d,hf,hb,yr,ut];have ho:(decide ((stI p fs f bs b cs i 7 n).Where=7)&&(x.Vars,true).2&&true&&true&&((x.At,true).2&&decide (0<=(x.At,true).1)&&decide ((x.At,true).1<=1024)))=true:=by
    show(true&&true&&true&&true&&(true&&decide (0<=x.At)&&decide (x.At<=1024)))=true
    grind
   rw[ho,if_neg (by decide),if_neg (by grind)]
  grind
theorem Ee{p:Lt.Program}{fs:List Lt.Func}{f:Lt.Func}{bs:List Lt.Block}{b:Lt.Block}{cs:List Lt.Instr}{n:Int}:∀(l:List Lt.Virt)(i:Lt.Instr)(w:Int),(w=7\/w=8)->(∀x∈l,Lt.virt x=true/\x.ok)->i.Objs.length+l.length<=99 ->
  ∃w',(w'=7\/w'=8)/\Runs (stI p fs f bs b cs i w n) (l.map ni) (stI p fs f bs b cs { i with Objs:=i.Objs++l } w' n)
 |[],i,w,hw,_,_=>⟨w,hw,by simpa using eK _⟩
 |x::l,i,w,hw,h,hl=>by
  obtain⟨h1,d⟩:=h x (by simp);obtain⟨hc,h8,hv⟩:=yF h1;have j:i.Objs.length+(l.length+1)<=99:=hl
  obtain⟨w',a,ih⟩:=Ee (p:=p) (fs:=fs) (f:=f) (bs:=bs) (b:=b) (cs:=cs) (n:=n) l { i with Objs:=i.Objs++[x] } 8 (.inr rfl) (fun y hy=>h y (by grind)) (by grind);refine⟨w',a,stI p fs f bs b cs { i with Objs:=i.Objs++[x] } 8 n,fun c=>sN (jb (gu hc)) (by show ¬ mK=sK;decide) (lD (by show ¬ mK=_;decide) (by show ¬ mK=_;decide) (by show ¬ mK=_;decide) (by show ¬ mK=_;decide) (by show ¬ mK=_;decide)) (yz (by show ¬ mK=_;decide) (by show ¬ mK=_;decide) (by show ¬ mK=_;decide) (by show ¬ mK=_;decide)) ?_,by grind⟩;have e:(stI p fs f bs b cs i w n).ins=true:=by
   show(decide (5<=w)&&decide (w<=8))=true
   grind
  refine(Uj e rfl).trans ?_;have:Lt.l9 (stI p fs f bs b cs i w n) (ni x)=(0,stI p fs f bs b cs { i with Objs:=i.Objs++[x] } 8 n):=by
   unfold Lt.l9;have k:(ni x).drop 2=Lt.puts x.Vals:=rfl
   have g:Lt.w1 (ni x)=x.Class:=rfl
   have el:(ni x).length=x.Vals.length+2:=by simp[ni,Lt.puts]
   rw[k,D8 hv d,aU,g,hc,yr,ut,el];have ho:(decide (7<=(stI p fs f bs b cs i w n).Where)&&decide (2<=x.Vals.length+2)&&decide (x.Vals.length+2<=10)&&true&&(x.Vals,true).2)=true:=by
    show(decide (7<=w)&&decide (2<=x.Vals.length+2)&&decide (x.Vals.length+2<=10)&&true&&true)=true
    grind
   rw[ho,if_neg (by decide),if_neg kQ1];rfl
  grind
variable{i:Lt.Instr}
theorem Lr{p:Lt.Program}{fs:List Lt.Func}{f:Lt.Func}{bs:List Lt.Block}{b:Lt.Block}{w:Int}{n:Nat}(hw:5<=w/\w<=8)(h:Lt.instr i=true)(ok:i.ok)(hl:n+1<=1024) :
  ∃w',(5<=w'/\w'<=8)/\Runs (stB p fs f bs b w n) ((gY i).map fun x=>x.Words) (stB p fs f bs { b with Code:=b.Code++[i] } w' ((n+1:Nat):Int)):=by
 have ho:=eL h
 have a:=Uk (p:=p) (fs:=fs) (f:=f) (bs:=bs) (b:=b) hw h ok hl
 have e:(gY i).map (fun x=>x.Words)=[Lt.words i]++(i.Frames.map gM++i.Objs.map ni):=by
  simp[gY,Lt.ln,Function.comp_def]
 rw[e];by_cases hc:i.Op=31\/i.Op=34
 ·rw[if_pos hc]at a;have b1:=xN (p:=p) (fs:=fs) (f:=f) (bs:=bs) (b:=b) (cs:=b.Code) (n:=((n+1:Nat):Int)) i.Frames { i with Frames:=[],Objs:=[] } (fun x hx=>⟨ho.fr x hx,ok.2.1 x hx⟩) (by simpa using ho.frames)
  obtain⟨w',g,b2⟩:=Ee (p:=p) (fs:=fs) (f:=f) (bs:=bs) (b:=b) (cs:=b.Code) (n:=((n+1:Nat):Int)) i.Objs { i with Objs:=[] } 7 (.inl rfl) (fun x hx=>⟨ho.ob x hx,ok.2.2 x hx⟩) (by simpa using ho.objs);simp only[aj0]at b1 b2;exact⟨w',by omega,cP a (cP b1 b2)⟩
 rw[if_neg hc]at a;obtain⟨d,c⟩:=ho.none kQ1;refine⟨6,by omega,?_⟩;have j:({ i with Frames:=[],Objs:=[] }:Lt.Instr)=i:=by
  rw[<- d,<- c]
 rw[j]at a;rw[d,c];exact a
theorem Bw{p:Lt.Program}{fs:List Lt.Func}{f:Lt.Func}{bs:List Lt.Block}:∀(l:List Lt.Instr)(b:Lt.Block)(w:Int)(n:Nat),(5<=w/\w<=8)->(∀i∈l,Lt.instr i=true/\i.ok)->n+l.length<=1024 ->
  ∃w',(5<=w'/\w'<=8)/\Runs (stB p fs f bs b w n) ((l.flatMap gY).map fun x=>x.Words) (stB p fs f bs { b with Code:=b.Code++l } w' ((n+l.length:Nat):Int))
 |[],b,w,n,hw,_,_=>⟨w,hw,by simpa using eK _⟩
 |i::l,b,w,n,hw,h,hl=>by
  obtain⟨h1,c⟩:=h i (by simp);have g:n+(l.length+1)<=1024:=hl
  obtain⟨w1,hw1,a⟩:=Lr (p:=p) (fs:=fs) (f:=f) (bs:=bs) (b:=b) hw h1 c (n:=n) kQ1;obtain⟨w2,d,ih⟩:=Bw (p:=p) (fs:=fs) (f:=f) (bs:=bs) l { b with Code:=b.Code++[i] } w1 (n+1) hw1 (fun y hy=>h y (by grind)) kQ1;have e:n+1+l.length=n+(i::l).length:=by grind
  rw[e]at ih
  grind [cP]
variable{t:Lt.Term}
theorem YR(h:dv t=true)(ok:t.ok):kW (ip t)=some t:=by
 rcases qD h with⟨x,rfl,h1⟩|⟨a,x,y,rfl,h1,h2,h3⟩|⟨a,rfl,h1⟩|⟨n,rfl⟩
 ·grind [ip,kW,aU]
 ·have e:ip ⟨2,a,[x,y],0⟩=[dD,al a,x,y]:=by rfl
  have b:Lt.cZ (al a)=(a,true):=m8 (by grind [bg]) ok.1
  rw[e];unfold kW;rw[if_neg (by grind),if_pos (show Lt.w0 [dD,al a,x,y]=dD from rfl),aU,aU,if_pos (by
   show(true&&(Lt.Name x&&Lt.Name y)&&fg false (al a))=true
   rw[h2,h3,qx h1 ok.1];rfl)]
  grind [al]
 ·have e:ip ⟨3,a,[],0⟩=[rJ,al a]:=by rfl
  have b:Lt.cZ (al a)=(a,true):=m8 (by grind [bg]) ok.1
  rw[e];unfold kW;rw[if_neg (by grind),if_neg (by grind),if_pos (show Lt.w0 [rJ,al a]=rJ from rfl),if_pos (by
   show(true&&fg false (al a))=true
   rw[qx h1 ok.1];rfl)]
  grind
 have e:ip ⟨4,⟨0,[],0⟩,[],n⟩=[pK,aF n]:=by rfl
 have b:bw (aF n)=(n,true):=jD ok.2
 grind [kW]
variable{b:Lt.Block}{bs:List Lt.Block}{f:Lt.Func}{fs:List Lt.Func}{n:Int}{p:Lt.Program}
theorem YN{w:Int}(hw:5<=w/\w<=8)(h:dv t=true)(ok:t.ok) :
  Runs (stB p fs f bs b w n) [ip t] (stB p fs f bs { b with End:=t } 9 n):=by
 have d:(stB p fs f bs b w n).ins=true:=by
  show(decide (5<=w)&&decide (w<=8))=true
  grind
 have key:uY (stB p fs f bs b w n) (ip t)=(0,stB p fs f bs { b with End:=t } 9 n):=by
  unfold uY;rw[YR h ok];simp only[jq];rfl
 have hk:Lt.sEq (ip t)=false/\(Lt.w0 (ip t)=lF\/Lt.w0 (ip t)=dD\/Lt.w0 (ip t)=rJ\/Lt.w0 (ip t)=pK):=by
  rcases qD h with⟨x,rfl,h1⟩|⟨a,x,y,rfl,h1,h2,h3⟩|⟨a,rfl,h1⟩|⟨n,rfl⟩
  ·exact⟨rfl,.inl rfl⟩
  ·have e:ip ⟨2,a,[x,y],0⟩=[dD,al a,x,y]:=by rfl
   rw[e];unfold bg at h1;simp only[aiW]at h1;exact⟨jb (LM h1.1 ok.1),.inr (.inl rfl)⟩
  ·have e:ip ⟨3,a,[],0⟩=[rJ,al a]:=by rfl
   rw[e];exact⟨rfl,.inr (.inr (.inl rfl))⟩
  have e:ip ⟨4,⟨0,[],0⟩,[],n⟩=[pK,aF n]:=by rfl
  rw[e];exact⟨rfl,.inr (.inr (.inr rfl))⟩
 obtain⟨he,hk⟩:=hk;have hn:∀k∈[sK,nY,lV,iv,fR,rT,lW,BY,nX,wi,Lt.kAt,mK],¬ Lt.w0 (ip t)=k:=by
  rcases hk with e|e|e|e<;>rw[e]<;>decide
 refine o8 fun c=>sN he (hn _ (by simp)) (lD (hn _ (by simp)) (hn _ (by simp)) (hn _ (by simp)) (hn _ (by simp)) (hn _ (by simp))) (yz (hn _ (by simp)) (hn _ (by simp)) (hn _ (by simp)) (hn _ (by simp))) ?_
 grind [bq]
theorem Lq{p:Lt.Program}{fs:List Lt.Func}{f:Lt.Func}{w:Int}{n:Nat}{b:Lt.Block}(hw:w=3\/w=4\/w=9)(h:Lt.block b=true)(ok:b.ok)(hb:f.Blocks.length < 256)(hl:n+(b.Phis.length+b.Code.length)<=1024) :
  Runs (stF p fs f w n) ((dS b).map fun x=>x.Words) (stF p fs { f with Blocks:=f.Blocks++[b] } 9 ((n+(b.Phis.length+b.Code.length):Nat):Int)):=by
 obtain⟨hn,he,hp,hc⟩:=mz h;obtain⟨o1,o2,o3⟩:=ok;have d:=Oy (p:=p) (fs:=fs) (f:=f) (n:=(n:Int)) hw hn hb
 have c:=Ef (p:=p) (fs:=fs) (f:=f) (bs:=f.Blocks) b.Phis ⟨b.Name,[],[],⟨0,⟨0,[],0⟩,[],0⟩⟩ n (fun x hx=>⟨hp x hx,o1 x hx⟩) kQ1
 simp only[aj0]at c;obtain⟨w',a,a3⟩:=Bw (p:=p) (fs:=fs) (f:=f) (bs:=f.Blocks) b.Code ⟨b.Name,b.Phis,[],⟨0,⟨0,[],0⟩,[],0⟩⟩ 5 (n+b.Phis.length) kQ1 (fun x hx=>⟨hc x hx,o2 x hx⟩) kQ1;simp only[aj0]at a3;have a4:=YN (p:=p) (fs:=fs) (f:=f) (bs:=f.Blocks) (b:=⟨b.Name,b.Phis,b.Code,⟨0,⟨0,[],0⟩,[],0⟩⟩) (n:=((n+b.Phis.length+b.Code.length:Nat):Int)) a he o3
 have e:(dS b).map (fun x=>x.Words)=[[nX,b.Name]]++(b.Phis.map wz++((b.Code.flatMap gY).map (fun x=>x.Words)++[ip b.End])):=by
  simp_all[dS,Lt.ln]
 rw[e,<- Nat.add_assoc];exact cP d (cP c (cP a3 a4))
theorem u6{p:Lt.Program}{fs:List Lt.Func}:∀(l:List Lt.Block)(f:Lt.Func)(w:Int)(n:Nat),(w=3\/w=4\/w=9)->(∀b∈l,Lt.block b=true/\b.ok)->f.Blocks.length+l.length<=256->n+longs l<=1024 ->
  Runs (stF p fs f w n) ((l.flatMap dS).map fun x=>x.Words) (stF p fs { f with Blocks:=f.Blocks++l } (if l=[]then w else 9) ((n+longs l:Nat):Int))
 |[],f,w,n,_,_,_,_=>by simp_all[longs,eK]
 |b::l,f,w,n,hw,h,hb,hl=>by
  obtain⟨h1,c⟩:=h b (by simp);have d:f.Blocks.length+(l.length+1)<=256:=hb
  have el:longs (b::l)=(b.Phis.length+b.Code.length)+longs l:=by rfl
  rw[el]at hl⊢;have a:=Lq (p:=p) (fs:=fs) (f:=f) hw h1 c kQ1 (n:=n) kQ1
  have ih:=u6 (p:=p) (fs:=fs) l { f with Blocks:=f.Blocks++[b] } 9 (n+(b.Phis.length+b.Code.length)) kQ1 (fun y hy=>h y (by grind)) (by grind) kQ1
  grind [cP]
theorem OA{p:Lt.Program}{fs:List Lt.Func}{w n:Int}(hw:w<=2\/w=9)(h:ay f=true)(ok:f.ok)(hl:fs.length < 8) :
  Runs ⟨{ p with Funcs:=fs },w,n⟩ ((gp f).map fun x=>x.Words) ⟨{ p with Funcs:=fs++[f] },9,(longs f.Blocks:Int)⟩:=by
 have ho:=nO h
 have d:=Ul (p:=p) (fs:=fs) (n:=n) hw ho.name ho.res hl
 have a:=xP (p:=p) (fs:=fs) (n:=0) f.Params ⟨f.Name,f.Result,[],[],[]⟩ (rl ho.params) (by simp_all[jG,FuncOk.params])
 simp only[aj0]at a;obtain⟨w',c,a3⟩:=Eg (p:=p) (fs:=fs) (n:=0) f.Vars ⟨f.Name,f.Result,f.Params,[],[]⟩ 3 (.inl rfl) (rl ho.vars) (by simp_all[jG,FuncOk.vars]);simp only[aj0]at a3;have a4:=u6 (p:=p) (fs:=fs) f.Blocks ⟨f.Name,f.Result,f.Params,f.Vars,[]⟩ w' 0 kQ1 (fun b hb=>⟨ho.bl b hb,ok b hb⟩) (by simpa using ho.len) (by simpa using ho.long)
 simp only[aj0,if_neg ho.ne,ak2]at a4;have e:(gp f).map (fun x=>x.Words)=[[rT,f.Name,f.Result]]++(f.Params.map (fun v=>[lW,v.Name,v.Type_])++(f.Vars.map (fun v=>[BY,v.Name,v.Type_])++(f.Blocks.flatMap dS).map fun x=>x.Words)):=by
  simp[gp,Lt.ln,gf,Function.comp_def]
 rw[e];exact cP d (cP a (cP a3 a4))
theorem xO{p:Lt.Program}:∀(l fs:List Lt.Func)(w n:Int),(w<=2\/w=9)->(∀f∈l,ay f=true/\f.ok)->fs.length+l.length<=8 ->
  ∃w' n',(w'<=2\/w'=9)/\Runs ⟨{ p with Funcs:=fs },w,n⟩ ((l.flatMap gp).map fun x=>x.Words) ⟨{ p with Funcs:=fs++l },w',n'⟩
 |[],fs,w,n,hw,_,_=>⟨w,n,hw,by grind [eK]⟩
 |f::l,fs,w,n,hw,h,hl=>by
  obtain⟨h1,b⟩:=h f (by simp);have d:fs.length+(l.length+1)<=8:=hl
  have a:=OA (p:=p) (n:=n) hw h1 b (fs:=fs) kQ1
  obtain⟨w',n',c,ih⟩:=xO (p:=p) l (fs++[f]) 9 (longs f.Blocks) (.inr rfl) (fun y hy=>h y (by grind)) (by grind)
  grind [cP]
def D5(p:Lt.Program):List Lt.Line:=p.Classes.flatMap dT++gf iv p.Globals++p.Externs.map jc++p.Funcs.flatMap gp
theorem OB{p:Lt.Program}(h:bH p=true)(ok:p.ok):∃w n,(w<=2\/w=9)/\Runs ⟨⟨p.SSA,[],[],[],[]⟩,0,0⟩ ((D5 p).map fun x=>x.Words) ⟨p,w,n⟩:=by
 have ho:=ra h
 obtain⟨w1,hw1,d⟩:=xL (s:=p.SSA) (gs:=[]) (es:=[]) (fs:=[]) (n:=0) p.Classes [] 0 kQ1 ho.cl (by simpa using ho.nc);obtain⟨w2,c,g⟩:=u9 (s:=p.SSA) (cs:=p.Classes) (es:=[]) (fs:=[]) (n:=0) p.Globals [] w1 hw1 (rl ho.glob) (by simp_all[jG,ProgOk.glob]);obtain⟨w3,a,a3⟩:=u7 (s:=p.SSA) (cs:=p.Classes) (gs:=p.Globals) (fs:=[]) (n:=0) p.Externs [] w2 c ho.ex (by simpa using ho.ne);obtain⟨j,i,b,a4⟩:=xO (p:=p) p.Funcs [] w3 0 a (fun f hf=>⟨ho.fn f hf,ok f hf⟩) (by simpa using ho.nf);simp only[aj0]at d g a3 a4;refine⟨j,i,b,?_⟩;have e:(D5 p).map (fun x=>x.Words)=(p.Classes.flatMap dT).map (fun x=>x.Words)++(p.Globals.map (fun v=>[iv,v.Name,v.Type_])++(p.Externs.map (fun x=>[fR,x.Name,aF x.N])++(p.Funcs.flatMap gp).map fun x=>x.Words)):=by
  simp[D5,Lt.ln,gf,jc,Lt.number,Function.comp_def]
 rw[e];exact cP d (cP g (cP a3 a4))
theorem N0(h:bH p=true)(ok:p.ok)(hl:(oy p).length<=4194304):Gc (oy p)=(p,0,0):=by
 have e:=DZ h
 rw[e]at hl⊢;obtain⟨w,n,hw,hr⟩:=OB h ok;have a:(⟨p,w,n⟩:Lt.Read).out=true:=by
  grind
 unfold Gc;rw[Ow (Oa h) hl];simp only[if_true];have el:kU p=(if p.SSA then [Lt.ln [sK]]else [])++D5 p:=by
  grind [kU,D5]
 rw[el];cases hs:p.SSA with
 |true=>
  rw[hs]at hr;rw[if_pos rfl];show jW (⟨1,[sK]⟩::numb (1+1) (D5 p)) true _=_
  have h1:aM ⟨⟨false,[],[],[],[]⟩,0,0⟩ [sK] true=(0,⟨⟨true,[],[],[],[]⟩,0,0⟩):=rfl
  rw[jW,h1,if_pos rfl,sX _ _ _ _ _ hr,a];rfl
 |false=>
  rw[hs]at hr;rw[if_neg (by decide),aj0,sX _ _ _ _ _ hr,a];rfl
theorem AE(bs:List Lt.Block)(b:Lt.Block):longs (bs++[b])=longs bs+(b.Phis.length+b.Code.length):=by simp[longs]
theorem C4:∀(l:List Lt.Block)(n:Nat),n+longs l<=1024->(∀b∈l,Lt.block b=true)->Lt.blocks l n=true
 |[],_,_,_=>rfl
 |b::r,n,h,hb=>by
  have e:longs (b::r)=(b.Phis.length+b.Code.length)+longs r:=by rfl
  rw[e]at h;rw[Lt.blocks,hb b (by simp),C4 r _ kQ1 (fun x hx=>hb x (by grind))]
  grind
def afU(f:Lt.Func):Prop:=Lt.Name f.Name=true/\Lt.kind f.Result=true/\Lt.typed f.Params 6=true/\Lt.typed f.Vars 1024=true
structure Open (f:Lt.Func) (bs:List Lt.Block) (b:Lt.Block) (w n:Int):Prop where
 hd:afU f
 len:bs.length+1<=256
 long:n=((longs bs+(b.Phis.length+b.Code.length):Nat):Int)
 most:n<=1024
 bl:bs.all Lt.block=true
 nm:Lt.Name b.Name=true
 ph:b.Phis.all Lt.phi=true
 cd:b.Code.all Lt.instr=true
 fin:w=9->dv b.End=true
 ins:6<=w->w<=8->∃cs c,b.Code=cs++[c]/\(7<=w->c.Op=31\/c.Op=34)
theorem Qu{w:Int}(hw:5<=w)(h:Open f bs b w n):pB { f with Blocks:=bs++[b] } w n:=by
 have hl:=h.long
 have a:=h.most
 refine⟨h.hd,⟨by simpa using h.len,by omega,a⟩,fun _=>by omega,fun _=>⟨bs,b,rfl,h.bl,?_,⟨h.nm,h.ph,h.cd⟩,h.fin,h.ins⟩⟩
 grind [longs]
theorem wx{w:Int}(hw:5<=w)(h:pB f w n):∃bs b,f.Blocks=bs++[b]/\Open f bs b w n:=by
 obtain⟨h1,⟨h2,h3,h4⟩,_,h5⟩:=h;obtain⟨bs,b,e,hb,hn,⟨k1,k2,k3⟩,hf,hi⟩:=h5 hw;refine⟨bs,b,e,⟨h1,by grind,?_,h4,hb,k1,k2,k3,hf,hi⟩⟩
 grind [longs]
theorem KL(h:pB f 9 n):ay f=true:=by
 obtain⟨bs,b,e,o⟩:=wx kQ1 h;obtain⟨h1,h2,h3,h4⟩:=o.hd;have hl:=o.long
 have a:=o.most
 have hn:=o.len
 unfold ay;have hb:∀x∈f.Blocks,Lt.block x=true:=by
  rw[e];intro x hx;rcases ai9.1 hx with hx|hx
  ·exact ajB.1 o.bl x hx
  grind [Lt.block,Open.nm,Open.fin,Open.ph,Open.cd]
 grind [C4,AE,decide]
theorem yy{r:Lt.Read}(h:Lt.Inv r)(ho:r.out=true):r.P.Funcs.all ay=true:=by
 obtain⟨_,_,_,_,h2,h3⟩:=h
 grind [KL]
theorem Fe{f':Lt.Func}{w w' n':Int}(h:Lt.Inv (stF p fs f w n))(hw:3<=w)(h1:3<=w')(h2:w'<=9)(hp:pB f' w' n'):Lt.Inv (stF p fs f' w' n'):=by
 obtain⟨_,⟨g,j,a3⟩,⟨a4,a5,b⟩,_,_,c⟩:=h;obtain⟨a,i,e,hf,_⟩:=c hw;have e:fs++[f]=a++[i]:=e
 obtain⟨d,_⟩:=List.append_inj' e rfl;subst d;have a3:(fs++[f]).length<=8:=a3
 refine⟨⟨by show 0<=w';omega,h2⟩,⟨g,j,by show(fs++[f']).length<=8;grind⟩,⟨a4,a5,b⟩,fun h=>?_,fun h=>?_,fun _=>⟨fs,f',rfl,hf,hp⟩⟩
 ·have:w'=1:=h
  omega
 have:w'<=2:=h
 omega
theorem uw{r:Lt.Read}(h:Lt.Inv r)(hw:3<=r.Where):∃p fs f,r=stF p fs f r.Where r.Long/\pB f r.Where r.Long:=by
 obtain⟨_,_,_,_,_,a⟩:=h;obtain⟨fs,f,e,_,hp⟩:=a hw;refine⟨r.P,fs,f,?_,hp⟩;unfold stF;rw[<- e]
theorem mH{r:Lt.Read}(h:Lt.Inv r)(hw:5<=r.Where):∃p fs f bs b,r=stB p fs f bs b r.Where r.Long/\Open f bs b r.Where r.Long:=by
 obtain⟨p,fs,f,e,hp⟩:=uw h kQ1;obtain⟨bs,b,a,o⟩:=wx hw hp;refine⟨p,fs,f,bs,b,?_,o⟩;unfold stB;rw[<- a];exact e
theorem uu{bs':List Lt.Block}{b':Lt.Block}{w w' n':Int}(h:Lt.Inv (stB p fs f bs b w n))(hw:5<=w)(h1:5<=w')(h2:w'<=9)(o:Open f bs' b' w' n'):Lt.Inv (stB p fs f bs' b' w' n'):=
 Fe h kQ1 kQ1 h2 (Qu h1 o)
variable{k:Nat}
theorem oD{l:List Lt.Var}{v:Lt.Var}(h:Lt.typed l k=true)(hl:l.length<k)(h1:Lt.Name v.Name=true)(h2:Lt.kind v.Type_=true):Lt.typed (l++[v]) k=true:=by
 grind [Lt.typed]
theorem kY{l:List (List UInt8)}(h:iz l=true):Lt.Name (Lt.w1 l)=true/\Lt.kind (Lt.w2 l)=true:=by
 grind [iz,aU,Qh]
variable{α:Type}
theorem acP{l:List α}(h:l≠[]):∃i x,l=i++[x]:=⟨l.dropLast,l.getLast h,(List.dropLast_concat_getLast h).symm⟩
theorem zb{s:Bool}{cs:List Lt.Class}{gs:List Lt.Var}{es:List Lt.Extern}{w:Int}(h0:0<=w)(h9:w<=9)(d:cs.length<=8)(g:es.length<=8)(a3:fs.length<=8)(a4:Lt.typed gs 8=true)(a5:cs.all bL=true)(b:es.all cc=true)
  (c:w=1->cs≠[]) (e:w<=2->fs.all ay=true) (a9:3<=w->∃a f,fs=a++[f]/\a.all ay=true/\pB f w n):Lt.Inv ⟨⟨s,cs,gs,es,fs⟩,w,n⟩:=⟨⟨h0,h9⟩,⟨d,g,a3⟩,⟨a4,a5,b⟩,c,e,a9⟩
theorem SV{r:Lt.Read}{l:List (List UInt8)}(h:Lt.Inv r)(hz:(Lt.eG r l).1=0):Lt.Inv (Lt.eG r l).2:=by
 unfold Lt.eG at hz⊢;split at hz
 ·cases hz
 rename_i a;rw[if_neg a];split at hz
 ·cases hz
 rename_i c2;rw[if_neg c2];simp only[ajU,aiW,aU]at a;have hf:=yy h a.1.1
 obtain⟨_,⟨d,c,a3⟩,⟨a4,a5,b⟩,_⟩:=h;refine zb (by decide) (by decide) (by grind) c a3 a4 ?_ b (fun _=>by simp) (fun _=>hf) (fun h=>absurd h (by decide));rw[List.all_append,a5];simp only[ajE,alC,akK,ajT];unfold bL;rw[a.2];rfl
theorem SX{r:Lt.Read}{l:List (List UInt8)}(h:Lt.Inv r)(hz:(gk r l).1=0):Lt.Inv (gk r l).2:=by
 unfold gk at hz⊢;split at hz
 ·cases hz
 rename_i a;rw[if_neg a];split at hz
 ·cases hz
 rename_i c2;rw[if_neg c2];simp only[ajU,aiW,decide_eq_true_eq]at a;obtain⟨a,f⟩:=a;obtain⟨q,o⟩:=kY f;obtain⟨a0,⟨j,m,a3⟩,⟨a4,a5,d⟩,g,n,a9⟩:=h;obtain⟨i,c,e⟩:=acP (g a);rw[e,wb]at c2;rw[e]at a5 j;rw[List.all_append]at a5;simp only[aiW,ajE,alC,and_true]at a5;obtain⟨p,b⟩:=a5;unfold bL at b;simp only[aiW]at b;have key:Lt.last r.P.Classes (fun c=>{ c with Fields:=c.Fields++[⟨Lt.w1 l,Lt.w2 l⟩] })=i++[{ c with Fields:=c.Fields++[⟨Lt.w1 l,Lt.w2 l⟩] }]:=by rw[e,mN]
 show Lt.Inv ⟨⟨r.P.SSA,Lt.last r.P.Classes (fun c=>{ c with Fields:=c.Fields++[⟨Lt.w1 l,Lt.w2 l⟩] }),r.P.Globals,r.P.Externs,r.P.Funcs⟩,r.Where,r.Long⟩
 rw[key];refine zb a0.1 a0.2 (by grind) m a3 a4 ?_ d (fun _=>by simp) n (fun h=>by omega)
 ·rw[List.all_append,p];simp only[ajE,alC,akK,ajT];unfold bL;have:=oD (k:=8) (v:=⟨Lt.w1 l,Lt.w2 l⟩) b.2 kQ1 q o
  grind
theorem oc{n:Nat}(h:(if k<=n then(2:Int)else 0)=0):n<k:=by
 omega
theorem M2{r:Lt.Read}{l:List (List UInt8)}(h:Lt.Inv r)(hz:(dP r l).1=0):Lt.Inv (dP r l).2:=by
 unfold dP at hz⊢;split at hz
 ·cases hz
 rename_i a;rw[if_neg a];have c2:=oc hz
 simp only[ajU,aiW]at a;obtain⟨e,d⟩:=kY a.2;have hf:=yy h a.1
 obtain⟨_,⟨c,f,a3⟩,⟨a4,a5,b⟩,_⟩:=h;exact zb (w:=2) (by decide) (by decide) c f a3 (oD (k:=8) a4 c2 e d) a5 b (fun h=>absurd h (by decide)) (fun _=>hf) (fun h=>absurd h (by decide))
theorem M1{r:Lt.Read}{l:List (List UInt8)}(h:Lt.Inv r)(hz:(dO r l).1=0):Lt.Inv (dO r l).2:=by
 unfold dO at hz⊢;split at hz
 ·cases hz
 rename_i a;rw[if_neg a];have c2:=oc hz
 simp only[ajU,aiW,aU]at a;have hf:=yy h a.1.1.1
 obtain⟨_,⟨d,c,a3⟩,⟨a4,a5,b⟩,_⟩:=h
 grind [zb,cc]
theorem Xh{r:Lt.Read}{l:List (List UInt8)}(h:Lt.Inv r)(hz:(Lt.gz r l).1=0):Lt.Inv (Lt.gz r l).2:=by
 unfold Lt.gz at hz⊢;split at hz
 ·cases hz
 rename_i a;rw[if_neg a];have c2:=oc hz
 simp only[ajU,aiW]at a;obtain⟨e,d⟩:=kY a.2;have hf:=yy h a.1
 obtain⟨_,⟨c,f,a3⟩,⟨a4,a5,b⟩,_⟩:=h;exact zb (w:=3) (n:=0) (by decide) (by decide) c f (by grind) a4 a5 b (fun h=>absurd h (by decide)) (fun h=>absurd h (by decide)) (fun _=>⟨r.P.Funcs,_,rfl,hf,⟨⟨e,d,by rfl,by rfl⟩,⟨by simp,by decide,by decide⟩,fun _=>⟨rfl,rfl⟩,fun h=>absurd h (by decide)⟩⟩)
theorem SY{r:Lt.Read}{l:List (List UInt8)}(h:Lt.Inv r)(hz:(gm r l).1=0):Lt.Inv (gm r l).2:=by
 unfold gm at hz⊢;split at hz
 ·cases hz
 rename_i a;rw[if_neg a];have c2:=oc hz
 simp only[ajU,aiW,decide_eq_true_eq]at a;obtain⟨a,c⟩:=a;obtain⟨b,d⟩:=kY c;obtain⟨p,fs,f,e,hp⟩:=uw h kQ1;rw[e,nI]at c2;rw[e]at h;obtain⟨⟨k1,k2,k3,k4⟩,k5,k6,_⟩:=hp;have key:=Fe (f':={ f with Params:=f.Params++[⟨Lt.w1 l,Lt.w2 l⟩] }) (w':=3) (n':=r.Long) h kQ1 kQ1 kQ1 ⟨⟨k1,k2,oD (k:=6) k3 c2 b d,k4⟩,k5,fun _=>k6 kQ1,fun h=>absurd h (by decide)⟩
 grind [nP]
theorem aa4{r:Lt.Read}{l:List (List UInt8)}(h:Lt.Inv r)(hz:(Lt.jN r l).1=0):Lt.Inv (Lt.jN r l).2:=by
 unfold Lt.jN at hz⊢;split at hz
 ·cases hz
 rename_i a;rw[if_neg a];have c2:=oc hz
 simp only[ajU,aiW,decide_eq_true_eq,aj6]at a;obtain⟨a,c⟩:=a;obtain⟨b,d⟩:=kY c;obtain⟨p,fs,f,e,hp⟩:=uw h kQ1;rw[e,nI]at c2;rw[e]at h;obtain⟨⟨k1,k2,k3,k4⟩,k5,k6,_⟩:=hp;have key:=Fe (f':={ f with Vars:=f.Vars++[⟨Lt.w1 l,Lt.w2 l⟩] }) (w':=4) (n':=r.Long) h kQ1 kQ1 kQ1 ⟨⟨k1,k2,k3,oD (k:=1024) k4 c2 b d⟩,k5,fun _=>k6 kQ1,fun h=>absurd h (by decide)⟩
 grind [stF,nP]
theorem SU{r:Lt.Read}{l:List (List UInt8)}(h:Lt.Inv r)(hz:(Lt.dL r l).1=0):Lt.Inv (Lt.dL r l).2:=by
 unfold Lt.dL at hz⊢;split at hz
 ·cases hz
 rename_i c;rw[if_neg c];have c2:=oc hz
 simp only[ajU,aiW,decide_eq_true_eq,aj6,aU]at c;obtain⟨⟨c,_⟩,g⟩:=c;obtain⟨p,fs,f,e,hp⟩:=uw h kQ1;rw[e,nI]at c2;rw[e]at h;have d:r.func (fun f=>{ f with Blocks:=f.Blocks++[⟨Lt.w1 l,[],[],⟨0,⟨0,[],0⟩,[],0⟩⟩] })=stF p fs { f with Blocks:=f.Blocks++[⟨Lt.w1 l,[],[],⟨0,⟨0,[],0⟩,[],0⟩⟩] } r.Where r.Long:=by
  grind [nP]
 rw[d];have a:f.Blocks.all Lt.block=true/\r.Long=((longs f.Blocks:Nat):Int)/\r.Long<=1024:=by
  by_cases h9:r.Where=9
  ·rw[h9]at hp;have hs:=nO (KL hp)
   obtain⟨bs,b,i,o⟩:=wx kQ1 hp;exact⟨ajB.2 hs.bl,by rw[o.long,i,AE],o.most⟩
  obtain⟨_,_,k6,_⟩:=hp;obtain⟨k7,k8⟩:=k6 kQ1;rw[k7,k8];exact⟨rfl,rfl,by decide⟩
 refine Fe h kQ1 kQ1 kQ1 (Qu kQ1 ⟨hp.1,by omega,?_,a.2.2,a.1,g,rfl,rfl,fun h=>absurd h (by decide),fun h=>absurd h (by decide)⟩);show r.Long=_
 grind
variable{objs:Bool}
theorem AZ{l:List (List UInt8)}{k:Int}(h:(bW l k objs).2=true):(∀b∈(bW l k objs).1,Lt.Name b.Name=true/\bg objs b.A=true)/\((bW l k objs).1.flatMap fun b=>[b.Name,al b.A])=l.drop k.toNat:=by
 grind [bW,xD]
theorem aa3{r:Lt.Read}{l:List (List UInt8)}(h:Lt.Inv r)(hz:(Lt.ma r l).1=0):Lt.Inv (Lt.ma r l).2:=by
 unfold Lt.ma at hz⊢;split at hz
 ·cases hz
 rename_i a;rw[if_neg a];split at hz
 ·cases hz
 rename_i c2;rw[if_neg c2];simp only[ajU,aiW,decide_eq_true_eq,ajQ,decide_eq_false_iff_not,aU]at a;obtain⟨⟨⟨a,g⟩,d⟩,i⟩:=a;obtain⟨p,fs,f,bs,b,e,o⟩:=mH h kQ1;rw[e]at h;have c:({ r.block (fun b=>{ b with Phis:=b.Phis++[⟨Lt.w1 l,(bW l 2 false).1.map fun x=>⟨x.Name,x.A⟩⟩] })with Long:=r.Long+1 }:Lt.Read)=stB p fs f bs { b with Phis:=b.Phis++[⟨Lt.w1 l,(bW l 2 false).1.map fun x=>⟨x.Name,x.A⟩⟩] } 5 (r.Long+1):=by
  have:r.block (fun b=>{ b with Phis:=b.Phis++[⟨Lt.w1 l,(bW l 2 false).1.map fun x=>⟨x.Name,x.A⟩⟩] })=stB p fs f bs { b with Phis:=b.Phis++[⟨Lt.w1 l,(bW l 2 false).1.map fun x=>⟨x.Name,x.A⟩⟩] } r.Where r.Long:=by
   grind [jq]
  rw[this,a];rfl
 rw[c];have hl:=o.long
 refine uu h kQ1 kQ1 kQ1 ⟨o.hd,o.len,?_,by omega,o.bl,o.nm,?_,o.cd,fun h=>absurd h (by decide),fun h=>absurd h (by decide)⟩
 all_goals grind [Open.ph,Lt.phi,AZ,lE]
theorem Lf{dst:List UInt8}{l:List (List UInt8)}{x:Lt.Instr}(h:Lt.gl dst l=some x)(hd:dst≠[]->Lt.Name dst=true):Lt.instr x=true/\x.Frames=[]/\x.Objs=[]:=by
 unfold Lt.gl at h;split at h
 ·cases h
 rename_i a;simp only[ajU,aiW,beq_iff_eq]at a;obtain⟨_,o2,o3⟩:=YF a.1;obtain⟨_,g,d,f,c,b⟩:=pY (Lt.sOp (Lt.w0 l)).1;rw[d]at a;split at h
 ·cases h
 rename_i nm rest hr;split at h
 ·rename_i c2;simp only[aiW,decide_eq_true_eq]at c2;obtain⟨⟨⟨c2,c3⟩,c4⟩,c5⟩:=c2;rw[f,aU]at c3;rw[c]at c4;rw[b]at c5;simp only[aiX]at h;subst h;refine⟨?_,rfl,rfl⟩;have e:=(Bq c2).1
  have hN:(Lt.Of (Lt.sOp (Lt.w0 l)).1).1.Named=!decide (nm=[]):=by
   grind [Lh,Lt.Of,Lt.Name]
  grind [Lt.instr]
 grind
theorem JD{r:Lt.Read}{l:List (List UInt8)}(h:Lt.Inv r)(hz:(da r l).1=0):Lt.Inv (da r l).2:=by
 unfold da at hz⊢;split at hz
 ·cases hz
 rename_i g;rw[if_neg g];split at hz
 ·cases hz
 rename_i c;rw[if_neg c];cases hs:Lt.gl (if Lt.sEq l then Lt.w0 l else []) (if Lt.sEq l then l.drop 2 else l)with
 |none=>omega
 |some x=>
  rw[hs]at hz;simp only at hz⊢
  split at hz
  ·cases hz
  rename_i c2;rw[if_neg c2];have d:5<=r.Where/\r.Where<=8:=by grind
  obtain⟨hx,hf,ho⟩:=Lf hs (by
   grind [aU])
  obtain⟨p,fs,f,bs,b,e,o⟩:=mH h kQ1;rw[e]at h;have a:({ r.block (fun b=>{ b with Code:=b.Code++[x] })with Where:=if x.Op=31\/x.Op=34 then 7 else 6,Long:=r.Long+1 }:Lt.Read)=stB p fs f bs { b with Code:=b.Code++[x] } (if x.Op=31\/x.Op=34 then 7 else 6) (r.Long+1):=by
   have:r.block (fun b=>{ b with Code:=b.Code++[x] })=stB p fs f bs { b with Code:=b.Code++[x] } r.Where r.Long:=by
    grind [jq]
   rw[this];rfl
  rw[a];have hl:=o.long
  have hw:∀{k:Int},k=(if x.Op=31\/x.Op=34 then(7:Int)else 6)->5<=k/\k<=8/\(7<=k->x.Op=31\/x.Op=34):=by
   omega
  obtain⟨w1,w2,w3⟩:=hw rfl;refine uu h kQ1 w1 kQ1 ⟨o.hd,o.len,?_,by omega,o.bl,o.nm,o.ph,?_,fun h=>by omega,fun _ _=>⟨b.Code,x,rfl,w3⟩⟩
  all_goals grind [Open.cd]
theorem Ar{c:Lt.Instr}{fr:List Lt.Frame}{ob:List Lt.Virt}(h:Lt.instr c=true)(ho:c.Op=31\/c.Op=34)(h1:fr.length<=16)(h2:ob.length<=99)(h3:∀x∈fr,Lt.frame x=true)(h4:∀x∈ob,Lt.virt x=true):Lt.instr { c with Frames:=fr,Objs:=ob }=true:=by
 grind [Lt.instr]
theorem afZ{r:Lt.Read}{l:List (List UInt8)}(h:Lt.Inv r)(hz:(Lt.sAt r l).1=0):Lt.Inv (Lt.sAt r l).2:=by
 unfold Lt.sAt at hz⊢;split at hz
 ·cases hz
 rename_i a;rw[if_neg a];split at hz
 ·cases hz
 rename_i c2;rw[if_neg c2];simp only[ajU,aiW,decide_eq_true_eq,aU]at a;obtain⟨⟨⟨⟨a,k⟩,j⟩,q⟩,⟨m,s⟩,n⟩:=a;obtain⟨p,fs,f,bs,b,e,o⟩:=mH h kQ1;obtain⟨cs,c,d,hop⟩:=o.ins kQ1 kQ1;have hop:=hop kQ1
 have e':r=stI p fs f bs b cs c r.Where r.Long:=by
  unfold stI;rw[<- d];exact e
 have hc:=o.cd
 rw[d,List.all_append]at hc;simp only[aiW,ajE,alC,and_true]at hc;have i:=eL hc.2
 rw[e',yr]at c2;rw[e]at h;have g:r.instr (fun x=>{ x with Frames:=x.Frames++[⟨Lt.w1 l,Lt.w2 l,(bw (Lt.w3 l)).1,(bW l 4 true).1⟩] })=stI p fs f bs b cs { c with Frames:=c.Frames++[⟨Lt.w1 l,Lt.w2 l,(bw (Lt.w3 l)).1,(bW l 4 true).1⟩] } r.Where r.Long:=by
  grind [ut]
 rw[g];have hl:=o.long
 refine uu h kQ1 kQ1 kQ1 ⟨o.hd,o.len,?_,o.most,o.bl,o.nm,o.ph,?_,fun h=>by omega,fun _ _=>⟨cs,_,rfl,fun _=>hop⟩⟩
 all_goals grind [Ar,InstrOk.objs,InstrOk.ob,InstrOk.fr,AZ,Lt.frame,gU]
theorem aa2{r:Lt.Read}{l:List (List UInt8)}(h:Lt.Inv r)(hi:r.ins=true)(hz:(Lt.l9 r l).1=0):Lt.Inv (Lt.l9 r l).2:=by
 unfold Lt.l9 at hz⊢;split at hz
 ·cases hz
 rename_i a;rw[if_neg a];have c2:=oc hz
 have i:5<=r.Where/\r.Where<=8:=by grind
 simp only[ajU,aiW,decide_eq_true_eq,aU]at a;obtain⟨⟨⟨⟨a,c3⟩,c4⟩,k⟩,m⟩:=a;obtain⟨p,fs,f,bs,b,e,o⟩:=mH h kQ1;obtain⟨cs,c,d,hop⟩:=o.ins kQ1 kQ1;have hop:=hop kQ1
 have e':r=stI p fs f bs b cs c r.Where r.Long:=by
  unfold stI;rw[<- d];exact e
 have hc:=o.cd
 rw[d,List.all_append]at hc;simp only[aiW,ajE,alC,and_true]at hc;have j:=eL hc.2
 rw[e',yr]at c2;rw[e]at h;have g:({ r.instr (fun x=>{ x with Objs:=x.Objs++[⟨Lt.w1 l,(dG (l.drop 2) true).1⟩] })with Where:=8 }:Lt.Read)=stI p fs f bs b cs { c with Objs:=c.Objs++[⟨Lt.w1 l,(dG (l.drop 2) true).1⟩] } 8 r.Long:=by
  have:r.instr (fun x=>{ x with Objs:=x.Objs++[⟨Lt.w1 l,(dG (l.drop 2) true).1⟩] })=stI p fs f bs b cs { c with Objs:=c.Objs++[⟨Lt.w1 l,(dG (l.drop 2) true).1⟩] } r.Where r.Long:=by
   grind [ut]
  rw[this];rfl
 rw[g];have hl:=o.long
 refine uu h kQ1 kQ1 kQ1 ⟨o.hd,o.len,?_,o.most,o.bl,o.nm,o.ph,?_,fun h=>by omega,fun _ _=>⟨cs,_,rfl,fun _=>hop⟩⟩
 all_goals grind [Ar,InstrOk.frames,InstrOk.fr,InstrOk.ob,Bq,Lt.virt]
theorem Ou{l:List (List UInt8)}(h:kW l=some t):dv t=true:=by
 grind [kW,aU,dv,DI,si]
theorem aa1{r:Lt.Read}{l:List (List UInt8)}(h:Lt.Inv r)(hi:r.ins=true)(hz:(uY r l).1=0):Lt.Inv (uY r l).2:=by
 have d:5<=r.Where/\r.Where<=8:=by grind
 unfold uY at hz⊢;cases hs:kW l with
 |none=>grind
 |some t=>
  have c:=Ou hs
  obtain⟨p,fs,f,bs,b,e,o⟩:=mH h kQ1;rw[e]at h;have a:({ r.block (fun b=>{ b with End:=t })with Where:=9 }:Lt.Read)=stB p fs f bs { b with End:=t } 9 r.Long:=by
   have:r.block (fun b=>{ b with End:=t })=stB p fs f bs { b with End:=t } r.Where r.Long:=by
    grind [jq]
   rw[this];rfl
  show Lt.Inv ({ r.block (fun b=>{ b with End:=t })with Where:=9 }:Lt.Read)
  rw[a];exact uu h kQ1 kQ1 kQ1 ⟨o.hd,o.len,o.long,o.most,o.bl,o.nm,o.ph,o.cd,fun _=>c,fun h1 h2=>absurd h2 kQ1⟩
theorem Xi{r:Lt.Read}{l:List (List UInt8)}(h:Lt.Inv r)(hz:(bM r l).1.2=0):Lt.Inv (bM r l).2:=by
 grind [bM,SV,SX,M2,M1,Xh]
theorem Xj{r:Lt.Read}{l:List (List UInt8)}(h:Lt.Inv r)(hz:(cr r l).1.2=0):Lt.Inv (cr r l).2:=by
 grind [cr,SY,aa4,SU,aa3]
theorem SZ{r:Lt.Read}{l:List (List UInt8)}(h:Lt.Inv r)(hz:(bq r l).1.2=0):Lt.Inv (bq r l).2:=by
 grind [bq,afZ,aa2,aa1]
theorem JE{r:Lt.Read}{l:List (List UInt8)}{b:Bool}(h:Lt.Inv r)(hz:(aM r l b).1=0):Lt.Inv (aM r l b).2:=by
 unfold aM at hz⊢;split at hz
 ·grind [JD]
 rename_i c;rw[if_neg c];split at hz
 ·rename_i c;rw[if_pos c];split at hz
  ·cases hz
  rename_i c;rw[if_neg c];exact h
 grind [Xi,Xj,SZ,JD]
theorem afK:∀(s:List UInt8)(k:Lt.Cut)(B:Nat),(∀x∈k.out,x.Words≠[]/\x.Words.length<=B)->k.l.length+s.length+1<=B->∀x∈(cJ s k).1,x.Words≠[]/\x.Words.length<=B
 |s,k,B=>by
  have hw:∀k:Lt.Cut,k.word.l.length<=k.l.length+1/\k.word.out=k.out:=by
   grind [Lt.Cut.word]
  have a:∀k:Lt.Cut,(∀x∈k.out,x.Words≠[]/\x.Words.length<=B)->k.l.length+1<=B->∀x∈k.line.out,x.Words≠[]/\x.Words.length<=B:=by
   grind [Lt.Cut.line]
  have b:∀(k:Lt.Cut)(c:UInt8),(k.byte c).l.length<=k.l.length+1/\(k.byte c).out=k.out:=by
   grind [Lt.Cut.byte]
  induction s generalizing k with
  |nil=>
   grind [cJ]
  |cons c r ih=>
   intro h hl x hx;have d:k.l.length+(r.length+1)+1<=B:=hl
   rw[cJ]at hx;split at hx
   ·split at hx
    ·cases hx
    exact ih k.line (a k h kQ1) (by show 0+r.length+1<=B;omega) x hx
   have hb:=b k c
   exact ih (k.byte c) (by grind) kQ1 x hx
theorem YK(s:List UInt8):∀x∈(gn s).1,x.Words≠[]/\x.Words.length<=1099511627776:=by
 intro x hx;unfold gn at hx;split at hx
 ·cases hx
 rename_i hc;exact afK s _ _ (by simp) (by grind) x hx
variable{s:List UInt8}
theorem wN(h:(bw s).2=true):aF (bw s).1=s:=by
 unfold bw at h⊢;split at h
 ·rename_i hc;rw[if_pos hc];exact hc
 grind
variable{β:Type}
theorem kA(c:Bool)(x:β)(n:Int)(K:β->Prop)(KP:Value->Prop):exQ (if c=true then .ok x else .error (Lt.flt n)) K KP=if c=true then K x else KP (Lt.flt n):=by
 cases c<;>rfl
theorem Tw(w:List UInt8)(KK:List UInt8->Prop)(KP:Value->Prop)(h:exQ (cN w) KK KP):Ps w KK KP:=by
 unfold Ps;unfold cN at h;rw[kA]at h
 grind
theorem Tu(w:List UInt8)(KK:List UInt8->Prop)(KP:Value->Prop)(h:exQ (iF w) KK KP):Pp w KK KP:=by
 unfold Pp;unfold iF at h;rw[kA]at h;simp only[ax,cq,bb,Bool.not_true,ai8,if_false]
 grind [pZ,aU]
theorem XA(l:List Int)(n:Int)(KK:Bool->Prop)(h:KK (iI l n)):Ve l n KK:=by
 unfold Ve;refine fun hl=>nJ l hl (fun(_:Unit) i=>i) (fun t _=>t.contains n) KK _ (fun R _ i hi ih h=>?_) (fun R _ h=>?_) () h
 ·simp only[aX hi,if_true,Int.toNat_natCast];refine⟨⟨ajC i,hi⟩,?_⟩;by_cases hc:l.getD i default=n
  ·grind
  ·rw[if_neg (by grind)];refine ih () ?_
   grind
 grind
theorem Kg(w:List UInt8)(a b:Int)(KK:Int->Prop)(KP:Value->Prop)(h:exQ (rC w a b) KK KP):CX w a b KK KP:=by
 unfold CX;unfold rC at h;rw[kA]at h
 grind [fe]
theorem Xy(w:List UInt8)(o:Bool)(KK:Lt.Arg->Prop)(KP:Value->Prop)(h:exQ (BL w o) KK KP):Vb w o KK KP:=by
 unfold Vb;unfold BL at h;rw[kA]at h;unfold fg at h;dsimp +instances only [rv]
 cases h1:(Lt.cZ w).2<;>cases o<;>by_cases h2:(Lt.cZ w).1.Kind=5<;>simpa[h1,h2,ax,bb]using h
theorem Az(s:List UInt8)(KK:Lt.Arg×Bool->Prop)(h:KK (lb s)):tM s KK:=by
 grind [tM,lb,zV,fe]
section
variable {r:Lt.Reader} {w:Int} (K:Unit->Lt.Reader->Prop) (KP:Value->Lt.Reader->Prop)
theorem fX(c:Prop)[Decidable c](x y:Int×Lt.Read):exP (ii r (if c then x else y) w) K KP=if c then exP (ii r x w) K KP else exP (ii r y w) K KP:=by grind
end
section
variable {r:Lt.Reader} {w:Int} (K:Unit->Lt.Reader->Prop) (KP:Value->Lt.Reader->Prop)
theorem mZ(x:Lt.Read):exP (ii r (3,x) w) K KP=KP (Lt.flt 3) r:=rfl
end
section
variable {r:Lt.Reader} {w:Int} (K:Unit->Lt.Reader->Prop) (KP:Value->Lt.Reader->Prop)
theorem QE(x:Lt.Read):exP (ii r (2,x) w) K KP=KP (Lt.flt 2) r:=rfl
end
section
variable {r:Lt.Reader} {w:Int} (K:Unit->Lt.Reader->Prop) (KP:Value->Lt.Reader->Prop)
theorem K8(x:Lt.Read):exP (ii r (0,x) w) K KP=K () ⟨x.P,r.at_,w,r.first,x.Long⟩:=rfl
end
section
variable {r:Lt.Reader} {w:Int} (K:Unit->Lt.Reader->Prop) (KP:Value->Lt.Reader->Prop)
theorem s7(c:Prop)[Decidable c](x:Lt.Read):exP (ii r (if c then 2 else 0,x) w) K KP=if c then KP (Lt.flt 2) r else K () ⟨x.P,r.at_,w,r.first,x.Long⟩:=by split<;>rfl
end
theorem Ah{r:Lt.Reader}(hw:0<=r.where_/\r.where_<=7):iI [0,1] r.where_=r.abs.out:=by
 grind [iI,Lt.Reader.abs]
theorem dW(w:List UInt8)(K:List UInt8->Prop)(KP:Value->Prop):exQ (cN w) K KP=if cu w=true then K w else KP (Lt.flt 3):=by
 unfold cN;rw[kA,aU]
theorem oM(r:Lt.Reader):r.abs.P=r.p:=rfl
theorem ag8(r:Lt.Reader):r.abs.Long=r.long:=rfl
theorem Nz(r:Lt.Reader)(l:List (List UInt8))(hp:bG r l)(KK:Unit×Lt.Reader->Prop)(KP:Value->Lt.Reader->Prop)(h:exP (Gm r l) (fun z x=>KK (z,x)) KP):G6 r l KK KP:=by
 obtain⟨⟨hi,hw,_,_⟩,a,hr⟩:=hp;unfold G6;unfold Gm at h;unfold Lt.eG at h;simp only[fX,mZ,QE,K8]at h;simp only[Ah hw,dW,show l.getD 1 default=Lt.w1 l from rfl];generalize cu (Lt.w1 l)=nm at h⊢;generalize r.abs.out=o at h⊢;cases o with
 |false=>grind
 |true=>
  refine ifk (fun hc=>by grind) (fun _=>fun _=>?_);by_cases h2:l.length=2
  ·refine ifk (fun hc=>by grind) (fun _=>⟨⟨by decide,by omega⟩,trivial,?_⟩);cases nm with
   |false=>grind
   |true=>
    rw[if_neg (by simp[h2])]at h;simp only[if_true,ax,aK,and_self];refine fun _=>ifk (fun hc=>?_) (fun hc=>?_)
    ·grind [oM]
    ·rw[if_neg (show ¬ 8<=r.abs.P.Classes.length by grind [oM])]at h;have h8:r.p.Classes.length < 8:=by grind
     rw[ajS];exact⟨⟨by omega,by omega⟩,h⟩
  grind
theorem px(w:List UInt8)(K:List UInt8->Prop)(KP:Value->Prop):exQ (iF w) K KP=if pZ w=true then K w else KP (Lt.flt 3):=by
 unfold iF;rw[kA]
theorem Kf(r:Lt.Reader)(l:List (List UInt8))(hp:bG r l)(KK:Unit×Lt.Reader->Prop)(KP:Value->Lt.Reader->Prop)(h:exP (yH r l) (fun z x=>KK (z,x)) KP):CW r l KK KP:=by
 obtain⟨⟨hi,hw,_,_⟩,b,hr⟩:=hp;have h8:=hi.1
 unfold CW;unfold yH dP iz at h;simp only[fX,mZ,s7]at h;dsimp only;simp only[Ah hw,dW,px,show l.getD 1 default=Lt.w1 l from rfl,show l.getD 2 default=Lt.w2 l from rfl,show l.getD 1 []=Lt.w1 l from rfl,show l.getD 2 []=Lt.w2 l from rfl,ax,aK,aR,cq,bb,and_self,true_and]at h⊢;generalize cu (Lt.w1 l)=nm at h⊢;generalize pZ (Lt.w2 l)=a at h⊢;generalize r.abs.out=o at h⊢;cases o with
 |false=>grind
 |true=>
  refine ifk (fun hc=>by grind) (fun _=>fun _=>?_);by_cases h3:l.length=3
  ·refine ifk (fun hc=>by grind) (fun _=>⟨⟨by decide,by omega⟩,⟨by decide,by omega⟩,?_⟩);cases nm with
   |false=>grind
   |true=>
    cases a with
    |false=>grind
    |true=>
     rw[if_neg (by simp[h3])]at h;simp only[if_true];refine fun _=>ifk (fun hc=>?_) (fun hc=>?_)
     ·grind [oM]
     ·rw[if_neg (show ¬ 8<=r.abs.P.Globals.length by grind [oM])]at h;have h9:r.p.Globals.length < 8:=by grind
      rw[ajS];exact⟨⟨by omega,by omega⟩,h⟩
  grind
theorem Ca(r:Lt.Reader)(l:List (List UInt8))(hp:bG r l)(KK:Unit×Lt.Reader->Prop)(KP:Value->Lt.Reader->Prop)(h:exP (rA r l) (fun z x=>KK (z,x)) KP):xi r l KK KP:=by
 obtain⟨⟨hi,hw,_,_⟩,b,hr⟩:=hp;have h8:=hi.1
 unfold xi;unfold rA Lt.gz iz at h;simp only[fX,mZ,s7]at h;dsimp only;simp only[Ah hw,dW,px,show l.getD 1 default=Lt.w1 l from rfl,show l.getD 2 default=Lt.w2 l from rfl,show l.getD 1 []=Lt.w1 l from rfl,show l.getD 2 []=Lt.w2 l from rfl,ax,aK,aR,cq,bb,and_self,true_and]at h⊢;generalize cu (Lt.w1 l)=nm at h⊢;generalize pZ (Lt.w2 l)=a at h⊢;generalize r.abs.out=o at h⊢;cases o with
 |false=>grind
 |true=>
  refine ifk (fun hc=>by grind) (fun _=>fun _=>?_);by_cases h3:l.length=3
  ·refine ifk (fun hc=>by grind) (fun _=>⟨⟨by decide,by omega⟩,⟨by decide,by omega⟩,?_⟩);cases nm with
   |false=>grind
   |true=>
    cases a with
    |false=>grind
    |true=>
     rw[if_neg (by simp[h3])]at h;simp only[if_true];refine fun _=>ifk (fun hc=>?_) (fun hc=>?_)
     ·grind [oM]
     ·rw[if_neg (show ¬ 8<=r.abs.P.Funcs.length by grind [oM])]at h;have h9:r.p.Funcs.length < 8:=by grind
      rw[ajS];exact⟨⟨by omega,by omega⟩,h⟩
  grind
theorem zS(w:List UInt8)(a b:Int)(K:Int->Prop)(KP:Value->Prop):exQ (rC w a b) K KP=if((bw w).2&&decide (a<=(bw w).1)&&decide ((bw w).1<=b))=true then K (bw w).1 else KP (Lt.flt 3):=by
 unfold rC;rw[kA,Bool.and_assoc]
theorem Ke(r:Lt.Reader)(l:List (List UInt8))(hp:bG r l)(KK:Unit×Lt.Reader->Prop)(KP:Value->Lt.Reader->Prop)(h:exP (yG r l) (fun z x=>KK (z,x)) KP):CV r l KK KP:=by
 obtain⟨⟨hi,hw,_,_⟩,b,hr⟩:=hp;unfold CV;unfold yG dO at h;simp only[fX,mZ,s7]at h;dsimp only;simp only[Ah hw,dW,zS,show l.getD 1 default=Lt.w1 l from rfl,show l.getD 2 default=Lt.w2 l from rfl,ax,aK,aR,cq,bb,and_self,true_and]at h⊢;generalize cu (Lt.w1 l)=nm at h⊢;generalize((bw (Lt.w2 l)).2&&decide (0<=(bw (Lt.w2 l)).1)&&decide ((bw (Lt.w2 l)).1<=8))=a at h⊢;generalize r.abs.out=o at h⊢;cases o with
 |false=>grind
 |true=>
  refine ifk (fun hc=>by grind) (fun _=>fun _=>?_);by_cases h3:l.length=3
  ·refine ifk (fun hc=>by grind) (fun _=>⟨⟨by decide,by omega⟩,⟨by decide,by omega⟩,?_⟩);cases nm with
   |false=>grind
   |true=>
    cases a with
    |false=>grind
    |true=>
     rw[if_neg (by simp[h3])]at h;simp only[if_true];refine fun _=>ifk (fun hc=>?_) (fun hc=>?_)
     ·grind [oM]
     ·rw[if_neg (show ¬ 8<=r.abs.P.Externs.length by grind [oM])]at h;have h9:r.p.Externs.length < 8:=by grind
      rw[ajS];exact⟨⟨by omega,by omega⟩,h⟩
  grind
theorem XC(r:Lt.Reader)(l:List (List UInt8))(hp:bG r l)(KK:Unit×Lt.Reader->Prop)(KP:Value->Lt.Reader->Prop)(h:exP (ac3 r l) (fun z x=>KK (z,x)) KP):Vg r l KK KP:=by
 unfold Vg;unfold ac3 at h;simp only[fX,mZ,K8]at h
 grind [ag8]
theorem Ai{r:Lt.Reader}(hw:0<=r.where_/\r.where_<=7)(h2:2<=n)(h7:n<=7):iI [n] r.where_=decide (r.abs.Where=n+1):=by
 grind [iI,Lt.Reader.abs]
theorem NC(r:Lt.Reader)(l:List (List UInt8))(hp:bG r l)(KK:Unit×Lt.Reader->Prop)(KP:Value->Lt.Reader->Prop)(h:exP (Gs r l) (fun z x=>KK (z,x)) KP):G9 r l KK KP:=by
 obtain⟨⟨hi,hw,_,_⟩,e,hr⟩:=hp;unfold G9;unfold Gs gm iz at h;simp only[fX,mZ,s7]at h;dsimp only;simp only[Ai hw (n:=2) (by decide) (by decide),dW,px,show l.getD 1 default=Lt.w1 l from rfl,show l.getD 2 default=Lt.w2 l from rfl,show l.getD 1 []=Lt.w1 l from rfl,show l.getD 2 []=Lt.w2 l from rfl,ax,aK,aR,cq,bb,and_self,true_and]at h⊢;generalize cu (Lt.w1 l)=nm at h⊢;generalize pZ (Lt.w2 l)=d at h⊢;by_cases c:r.abs.Where=3
 ·obtain⟨hf,_,a,_⟩:=i9 hi kQ1;have hf:r.p.Funcs≠[]:=hf
  have b:r.p.Funcs.length<=5000:=by have:r.p.Funcs.length<=8:=hi.2.1.2.2;omega
  have a:(r.p.Funcs.getD (r.p.Funcs.length - 1) default).Params.length<=6:=a
  simp only[cF hf b,dN hf,dM hf,Int.toNat_natCast,true_and,and_self];refine ifk (fun hc=>by grind) (fun _=>fun _=>?_);by_cases h3:l.length=3
  ·refine ifk (fun hc=>by grind) (fun _=>⟨⟨by decide,by omega⟩,⟨by decide,by omega⟩,?_⟩);cases nm with
   |false=>grind
   |true=>
    cases d with
    |false=>grind
    |true=>
     rw[if_neg (by grind)]at h;simp only[if_true];refine fun _=>fun _=>ifk (fun hc=>?_) (fun hc=>?_)
     ·rw[if_pos (show 6<=r.abs.curF.Params.length from(show 6<=(r.p.Funcs.getD (r.p.Funcs.length - 1) default).Params.length by grind))]at h;exact h
     ·rw[if_neg (show ¬ 6<=r.abs.curF.Params.length from(show ¬ 6<=(r.p.Funcs.getD (r.p.Funcs.length - 1) default).Params.length by grind))]at h;rw[ajS];exact⟨⟨by omega,by omega⟩,h⟩
  grind
 grind
theorem afS{r:Lt.Reader}(hw:0<=r.where_/\r.where_<=7):iI [2,3] r.where_=(decide (r.abs.Where=3)||decide (r.abs.Where=4)):=by
 have a:=Ai hw (n:=2) (by decide) (by decide)
 have b:=Ai hw (n:=3) (by decide) (by decide)
 grind [iI]
theorem ahX{r:Lt.Reader}(hw:0<=r.where_/\r.where_<=7):iI [1] r.where_=decide (r.abs.Where=1):=by
 grind [iI,Lt.Reader.abs]
theorem NA(r:Lt.Reader)(l:List (List UInt8))(hp:bG r l)(KK:Unit×Lt.Reader->Prop)(KP:Value->Lt.Reader->Prop)(h:exP (Gp r l) (fun z x=>KK (z,x)) KP):G7 r l KK KP:=by
 obtain⟨⟨hi,hw,_,_⟩,d,hr⟩:=hp;unfold G7;unfold Gp gk iz at h;simp only[fX,mZ,QE,K8]at h;dsimp only;simp only[ahX hw,dW,px,show l.getD 1 default=Lt.w1 l from rfl,show l.getD 2 default=Lt.w2 l from rfl,show l.getD 1 []=Lt.w1 l from rfl,show l.getD 2 []=Lt.w2 l from rfl,ax,aK,aR,cq,bb,and_self,true_and]at h⊢;generalize cu (Lt.w1 l)=nm at h⊢;generalize pZ (Lt.w2 l)=c at h⊢;by_cases b:r.abs.Where=1
 ·have hf:r.abs.P.Classes≠[]:=hi.2.2.2.1 b
  have hf:r.p.Classes≠[]:=hf
  have a:r.p.Classes.length<=5000:=by have:r.p.Classes.length<=8:=hi.2.1.1;omega
  simp only[cF hf a,dN hf,dM hf,Int.toNat_natCast,true_and,and_self];refine ifk (fun hc=>by grind) (fun _=>fun _=>?_);by_cases h3:l.length=3
  ·refine ifk (fun hc=>by grind) (fun _=>⟨⟨by decide,by omega⟩,⟨by decide,by omega⟩,?_⟩);cases nm with
   |false=>grind
   |true=>
    cases c with
    |false=>grind
    |true=>
     rw[if_neg (by grind)]at h;simp only[if_true];refine fun _=>fun _=>ifk (fun hc=>?_) (fun hc=>?_)
     ·rw[if_pos (show 8<=(r.abs.P.Classes.getD (r.abs.P.Classes.length - 1) default).Fields.length from(show 8<=(r.p.Classes.getD (r.p.Classes.length - 1) default).Fields.length by grind))]at h;exact h
     ·rw[if_neg (show ¬ 8<=(r.abs.P.Classes.getD (r.abs.P.Classes.length - 1) default).Fields.length from(show ¬ 8<=(r.p.Classes.getD (r.p.Classes.length - 1) default).Fields.length by grind))]at h;have h9:(r.p.Classes.getD (r.p.Classes.length - 1) default).Fields.length < 8:=by grind
      rw[ajS];exact⟨⟨by omega,by omega⟩,h⟩
  grind
 grind
theorem Cc(r:Lt.Reader)(l:List (List UInt8))(hp:bG r l)(KK:Unit×Lt.Reader->Prop)(KP:Value->Lt.Reader->Prop)(h:exP (rE r l) (fun z x=>KK (z,x)) KP):xj r l KK KP:=by
 obtain⟨⟨hi,hw,_,_⟩,e,hr⟩:=hp;unfold xj;unfold rE Lt.jN iz at h;simp only[fX,mZ,s7]at h;dsimp only;simp only[afS hw,dW,px,show l.getD 1 default=Lt.w1 l from rfl,show l.getD 2 default=Lt.w2 l from rfl,show l.getD 1 []=Lt.w1 l from rfl,show l.getD 2 []=Lt.w2 l from rfl,ax,aK,aR,cq,bb,and_self,true_and]at h⊢;generalize cu (Lt.w1 l)=nm at h⊢;generalize pZ (Lt.w2 l)=d at h⊢;by_cases c:(r.abs.Where=3\/r.abs.Where=4)
 ·have hb:(decide (r.abs.Where=3)||decide (r.abs.Where=4))=true:=by grind
  obtain⟨hf,_,_,a,_⟩:=i9 hi kQ1;have hf:r.p.Funcs≠[]:=hf
  have b:r.p.Funcs.length<=5000:=by have:r.p.Funcs.length<=8:=hi.2.1.2.2;omega
  have a:(r.p.Funcs.getD (r.p.Funcs.length - 1) default).Vars.length<=1024:=a
  simp only[cF hf b,dN hf,dM hf,Int.toNat_natCast,true_and,and_self];refine ifk (fun hc=>by grind) (fun _=>fun _=>?_);by_cases h3:l.length=3
  ·refine ifk (fun hc=>by grind) (fun _=>⟨⟨by decide,by omega⟩,⟨by decide,by omega⟩,?_⟩);cases nm with
   |false=>grind
   |true=>
    cases d with
    |false=>grind
    |true=>
     rw[if_neg (by grind)]at h;simp only[if_true];refine fun _=>fun _=>ifk (fun hc=>?_) (fun hc=>?_)
     ·rw[if_pos (show 1024<=r.abs.curF.Vars.length from(show 1024<=(r.p.Funcs.getD (r.p.Funcs.length - 1) default).Vars.length by grind))]at h;exact h
     ·rw[if_neg (show ¬ 1024<=r.abs.curF.Vars.length from(show ¬ 1024<=(r.p.Funcs.getD (r.p.Funcs.length - 1) default).Vars.length by grind))]at h;rw[ajS];exact⟨⟨by omega,by omega⟩,h⟩
  grind
 grind
theorem Ox{c f e d n:Bool}{a:Prop}{B:Unit->Prop}(hb:(c||f||(e&&d))=true)(hn:n=true)(h:B ()) :
  aa (fun b:Unit->Prop=>if c=true then(if(!true)=true then a else b ())else(if f=true then(if(!true)=true then a else b ())else(if e=true then(if d=true then(if(!n)=true then a else b ())else(if(!false)=true then a else b ()))else(if(!false)=true then a else b ())))) B:=by
 intro J g
 grind
theorem NF(r:Lt.Reader)(l:List (List UInt8))(hp:bG r l)(KK:Unit×Lt.Reader->Prop)(KP:Value->Lt.Reader->Prop)(h:exP (Gt r l) (fun z x=>KK (z,x)) KP):Ia r l KK KP:=by
 obtain⟨⟨hi,hw,_,_⟩,g,hr⟩:=hp;unfold Ia;unfold Gt Lt.dL at h;simp only[fX,mZ,s7]at h;dsimp only;simp only[dW,show l.getD 1 default=Lt.w1 l from rfl]at h⊢;generalize cu (Lt.w1 l)=nm at h⊢;have a:(decide (r.abs.Where=3)||decide (r.abs.Where=4)||decide (r.abs.Where=9))=(decide (r.where_=2)||decide (r.where_=3)||(decide (r.where_=0)&&decide (0<=r.long))):=by
  grind [Lt.Reader.abs]
 by_cases b:(decide (r.abs.Where=3)||decide (r.abs.Where=4)||decide (r.abs.Where=9))=true
 ·have f:r.abs.Where=3\/r.abs.Where=4\/r.abs.Where=9:=by grind
  obtain⟨hf,_,_,_,c⟩:=i9 hi kQ1;have hf:r.p.Funcs≠[]:=hf
  have d:r.p.Funcs.length<=5000:=by have:r.p.Funcs.length<=8:=hi.2.1.2.2;omega
  have c:(r.p.Funcs.getD (r.p.Funcs.length - 1) default).Blocks.length<=256:=c
  have e:0<r.p.Funcs.length:=akH.2 hf
  simp only[b,ajT]at h;rw[a]at b;simp only[cF hf d,dN hf,dM hf,Int.toNat_natCast,true_and,and_self];refine Ox b (by grind) (fun _=>?_);by_cases h2:l.length=2
  ·refine ifk (fun hc=>by grind) (fun _=>⟨⟨by decide,by omega⟩,?_⟩);cases nm with
   |false=>grind
   |true=>
    rw[if_neg (by simp[h2])]at h;simp only[if_true,ax,aK,and_self];refine fun _=>fun _=>ifk (fun hc=>?_) (fun hc=>?_)
    ·rw[if_pos (show 256<=r.abs.curF.Blocks.length from(show 256<=(r.p.Funcs.getD (r.p.Funcs.length - 1) default).Blocks.length by grind))]at h;exact h
    ·rw[if_neg (show ¬ 256<=r.abs.curF.Blocks.length from(show ¬ 256<=(r.p.Funcs.getD (r.p.Funcs.length - 1) default).Blocks.length by grind))]at h;rw[ajS];exact⟨⟨by omega,by omega⟩,h⟩
  grind
 ·have b:(decide (r.abs.Where=3)||decide (r.abs.Where=4)||decide (r.abs.Where=9))=false:=by grind
  rw[b]at h;rw[a]at b;simp only[Bool.or_eq_false_iff,Bool.and_eq_false_iff,decide_eq_false_iff_not]at b;obtain⟨⟨b2,i⟩,b0⟩:=b;have h':KP (Lt.flt 3) r:=by grind
  simp only[b2,i,decide_false,ai8,if_false];rcases b0 with b0|b0
  ·simpa[b0,bb]using h'
  ·simp only[cq,bb,b0,decide_false,ai8,if_false,Bool.not_false,if_true]
   grind
theorem Zj:∀k:Fin 35,1<=k.1->(Lt.Of (k.1:Int)).1.Word=gw.getD k.1 default:=by decide +kernel
theorem abD(w:List UInt8)(KK:Int×Bool->Prop)(h:KK (Lt.yOp w)):adD w KK:=by
 unfold adD;unfold Lt.yOp Lt.sOp at h;have d:gw.length=35:=rfl
 have key:∀k i,1<=i->i+k=35->KK (Ot w (gw.drop i) (i:Int))->mT (fun(c:Int->Prop) a=>if(decide (a<=34))=true then(if(decide (((Lt.Of a).1).Word=w))=true then(KK (a,true))else(c (i64.wrap (a+1))))else(KK (0,false))) (k+1) (i:Int):=by
  intro k;induction k with
  |zero=>
   intro i h1 hi h;have e:i=35:=by omega
   subst e;exact h
  |succ k ih=>
   intro i h1 hi h;have b:i<gw.length:=by omega
   rw[ajO b]at h;have e:gw.getD i default=gw[i]:=by grind
   rw[<- e]at h;show(if(decide ((i:Int)<=34))=true then _ else _)
   rw[if_pos (by grind)];simp only[Ot]at h;have hw:=Zj ⟨i,by omega⟩ h1
   grind [ac]
 exact⟨35,key 34 1 (ai0 1) rfl h⟩
theorem Tq(l:List (List UInt8))(objs:Bool)(hp:kS l objs)(KK:List Lt.Arg->Prop)(KP:Value->Prop)(h:exQ (rX l objs) KK KP):Pk l objs KK KP:=by
 have hp:l.length<=1099511627776:=hp
 unfold Pk;unfold rX dG at h;rw[kA]at h;refine fun hl=>au _ l.length (fun i x=>x=((l.take i).map (fun w=>(Lt.cZ w).1),(i:Int))/\(l.take i).all (fg objs)=true) (fun R i x hi hx ih=>?_) (fun R x hx=>?_) _ ⟨rfl,rfl⟩
 ·obtain⟨rfl,a⟩:=hx;dsimp only;rw[if_pos (aX hi)];simp only[Int.toNat_natCast];refine⟨⟨ajC i,hi⟩,trivial,?_⟩;unfold BL;rw[kA]
  grind [aB,ac]
 grind
theorem yt(w:List UInt8)(o:Bool)(K:Lt.Arg->Prop)(KP:Value->Prop):exQ (BL w o) K KP=if fg o w=true then K (Lt.cZ w).1 else KP (Lt.flt 3):=by
 unfold BL;rw[kA]
theorem I9(l:List (List UInt8))(o:Bool)(K:List Lt.Arg->Prop)(KP:Value->Prop):exQ (rX l o) K KP=if(dG l o).2=true then K (dG l o).1 else KP (Lt.flt 3):=by
 unfold rX;rw[kA]
theorem W8{r:Lt.Reader}(hw:0<=r.where_/\r.where_<=7):iI [4,5,6,7] r.where_=r.abs.ins:=by
 grind [iI,Lt.Reader.abs]
theorem afT{r:Lt.Reader}(hw:0<=r.where_/\r.where_<=7):iI [6,7] r.where_=(decide (7<=r.abs.Where)&&r.abs.ins):=by
 grind [iI,Lt.Reader.abs]
theorem WQ(n:Nat):decide (Int.tmod (n:Int) 2=0)=decide (n % 2=0):=by
 grind
theorem NZ{σ:Type}(l:List (List UInt8))(objs:Bool)(st:List Lt.Bind->σ)(body:(Int×σ->Prop)->Int×σ->Prop)(E:Prop)(fin:List Lt.Bind->Prop)
  (hs:∀R i a,i+1<l.length->a.length<=i->(if cu (l.getD i default)=true then(if fg objs (l.getD (i+1) default)=true then R (((i+2:Nat):Int),st (a++[⟨l.getD i default,(Lt.cZ (l.getD (i+1) default)).1⟩]))else E)else E)->body R ((i:Int),st a))
  (he:∀R a,a.length<=l.length->fin a->body R ((l.length:Int),st a)) :
  ∀n i a,l.length=i+2*n->a.length<=i->(match db objs (l.drop i)with|some x=>fin (a++x)|none=>E)->mT body (n+1) ((i:Int),st a):=by
 intro n;induction n with
 |zero=>
  intro i a hi b h;have e:i=l.length:=by omega
  subst e;rw[akA]at h;exact he _ a b (by grind [db])
 |succ n ih=>
  intro i a hi b h;have h3:i+1<l.length:=by omega
  have h4:i<l.length:=by omega
  have hd:l.drop i=l.getD i default::l.getD (i+1) default::l.drop (i+2):=by
   grind [ajO]
  rw[hd,db]at h;refine hs _ i a h3 b ?_;refine ifk (fun c=>ifk (fun c2=>?_) (fun c2=>?_)) (fun c=>?_)
  ·rw[if_pos (by grind)]at h;refine ih (i+2) _ kQ1 (by grind) ?_
   grind
  all_goals grind
theorem TS{l:List (List UInt8)}{f:Nat}(hf:f<=l.length){E:Prop}{fin:List Lt.Bind->Prop}
  (h1:(bW l (f:Int) objs).2=false->E) (h2:(bW l (f:Int) objs).2=true->fin (bW l (f:Int) objs).1) :
  match db objs (l.drop f)with|some x=>fin ([]++x)|none=>E:=by
 grind [bW]
theorem DN{σ:Type}(l:List (List UInt8))(f:Nat)(objs:Bool)(st:List Lt.Bind->σ)(body:(Int×σ->Prop)->Int×σ->Prop)(E:Prop)(fin:List Lt.Bind->Prop)
  (hs:∀R i a,i+1<l.length->a.length<=i->(if cu (l.getD i default)=true then(if fg objs (l.getD (i+1) default)=true then R (((i+2:Nat):Int),st (a++[⟨l.getD i default,(Lt.cZ (l.getD (i+1) default)).1⟩]))else E)else E)->body R ((i:Int),st a))
  (he:∀R a,a.length<=l.length->fin a->body R ((l.length:Int),st a)) (n:Nat) (hn:l.length=f+2*n)
  (h1:(bW l (f:Int) objs).2=false->E) (h2:(bW l (f:Int) objs).2=true->fin (bW l (f:Int) objs).1):ab body ((f:Int),st []):=
 ⟨_,NZ l objs st body E fin hs he n f [] hn (ajW _) (TS kQ1 h1 h2)⟩
theorem XB(r:Lt.Reader)(l:List (List UInt8))(hp:bG r l)(KK:Unit×Lt.Reader->Prop)(KP:Value->Lt.Reader->Prop)(h:exP (ac2 r l) (fun z x=>KK (z,x)) KP):Vf r l KK KP:=by
 obtain⟨⟨hi,hw,m,_⟩,C,hr⟩:=hp;have hr:l.length<=1099511627776:=hr
 unfold Vf;unfold ac2 Lt.ma at h;simp only[fX,mZ,QE,K8]at h;dsimp only;simp only[Ai hw (n:=4) (by decide) (by decide),dW,yt,WQ,ax,aK,aR,cq,bb,and_self,true_and];by_cases q:r.abs.Where=5
 ·obtain⟨hf,_,_,_,k⟩:=i9 hi kQ1;obtain⟨c,v,_⟩:=ml hi kQ1;have hf:r.p.Funcs≠[]:=hf
  have e:r.p.Funcs.length<=5000:=by have:r.p.Funcs.length<=8:=hi.2.1.2.2;omega
  have g:r.abs.curF.Blocks.length<=5000:=by omega
  have s:r.p.Funcs.getD (r.p.Funcs.length - 1) default=r.abs.curF:=rfl
  have y:r.abs.curF.Blocks.getD (r.abs.curF.Blocks.length - 1) default=r.abs.curB:=rfl
  have t:i64.wrap (r.long+1)=r.long+1:=eX kQ1 kQ1
  simp only[cF hf e,dN hf,dM hf,Int.toNat_natCast,s,cF c g,dM c,dN c,y,true_and,and_self,ajS,EJ (show r.abs.curB.Phis.length<=5000 by omega) (show 40<=200 by omega),t,show l.getD 1 default=Lt.w1 l from rfl];refine ifk (fun hc=>by grind) (fun _=>fun _=>?_);by_cases h4:4<=l.length/\l.length % 2=0
  ·obtain⟨n,hn⟩:∃n,l.length=2+2*(n+1):=⟨l.length / 2 - 2,by omega⟩
   rw[if_pos (by grind)];refine⟨by decide,ifk (fun hc=>by grind) (fun _=>⟨⟨by decide,by omega⟩,?_⟩)⟩;cases w:cu (Lt.w1 l)with
   |false=>grind
   |true=>
    rw[if_pos rfl];refine DN l 2 false (fun a=>(⟨Lt.w1 l,a.map fun x=>⟨x.Name,x.A⟩⟩:Lt.Phi)) _ (KP (Lt.flt 3) r) (fun x=>if 256<x.length\/1024<=r.long then KP (Lt.flt 2) r else KK ((),⟨(r.abs.block (fun b=>{ b with Phis:=b.Phis++[⟨Lt.w1 l,x.map fun x=>⟨x.Name,x.A⟩⟩] })).P,r.at_,4,r.first,r.long+1⟩)) (fun R i a h1 o d=>?_) (fun R a o d=>?_) (n+1) hn (fun hc=>?_) (fun hc=>?_)
    ·simp only[aX (show i<l.length by omega),if_true,Int.toNat_natCast,show i64.wrap ((i:Int)+1)=((i+1:Nat):Int)from ac kQ1,show i64.wrap ((i:Int)+2)=((i+2:Nat):Int)by grind [eX]]
     grind
    ·simp only[l4,ai8,if_false];refine fun _ _=>?_
     rw[ai2,eX kQ1 kQ1];refine ifk (fun B=>?_) (fun B=>ifk (fun c2=>?_) (fun c2=>fun _ _=>?_))
     ·grind
     ·grind
     ·rw[if_neg (by grind)]at d;have u:r.where_=4:=by
       have:=Ai hw (n:=4) (by decide) (by decide)
       grind [iI]
      rw[u];exact d
    ·grind
    ·have j:=ta (l:=l) (f:=2) (objs:=false) hc (by decide)
     rw[if_neg (by grind)]at h;exact h
  grind [ta]
 grind
theorem NB(r:Lt.Reader)(l:List (List UInt8))(hp:bG r l)(KK:Unit×Lt.Reader->Prop)(KP:Value->Lt.Reader->Prop)(h:exP (Gq r l) (fun z x=>KK (z,x)) KP):G8 r l KK KP:=by
 obtain⟨⟨hi,hw,s,_⟩,F,hr⟩:=hp;have hr:l.length<=1099511627776:=hr
 unfold G8;unfold Gq Lt.sAt at h;simp only[fX,mZ,QE,K8]at h;dsimp only;simp only[Ai hw (n:=6) (by decide) (by decide),dW,yt,zS,WQ,ax,aK,aR,cq,bb,and_self,true_and];by_cases u:r.abs.Where=7
 ·obtain⟨hf,_,_,_,w⟩:=i9 hi kQ1;obtain⟨a,k,B,_⟩:=ml hi kQ1;obtain⟨b,C,_⟩:=CZ hi kQ1 kQ1;have hf:r.p.Funcs≠[]:=hf
  have g:r.p.Funcs.length<=5000:=by have:r.p.Funcs.length<=8:=hi.2.1.2.2;omega
  have f:r.abs.curF.Blocks.length<=5000:=by omega
  have j:r.abs.curB.Code.length<=5000:=by omega
  have v:r.p.Funcs.getD (r.p.Funcs.length - 1) default=r.abs.curF:=rfl
  have o:r.abs.curF.Blocks.getD (r.abs.curF.Blocks.length - 1) default=r.abs.curB:=rfl
  have q:r.abs.curB.Code.getD (r.abs.curB.Code.length - 1) default=r.abs.curI:=rfl
  simp only[cF hf g,dN hf,dM hf,Int.toNat_natCast,v,cF a f,dM a,dN a,o,cF b j,dM b,dN b,q,true_and,and_self,ajS,EJ (show r.abs.curI.Frames.length<=5000 by omega) (show 64<=200 by omega),show l.getD 1 default=Lt.w1 l from rfl,show l.getD 2 default=Lt.w2 l from rfl,show l.getD 3 default=Lt.w3 l from rfl];refine ifk (fun hc=>by grind) (fun _=>fun _=>?_);by_cases h4:4<=l.length/\l.length % 2=0
  ·obtain⟨n,hn⟩:∃n,l.length=4+2*n:=⟨l.length / 2 - 2,by omega⟩
   rw[if_pos (by grind)];refine⟨by decide,ifk (fun hc=>by grind) (fun _=>⟨⟨by decide,by omega⟩,⟨by decide,by omega⟩,⟨by decide,by omega⟩,?_⟩)⟩;cases t:cu (Lt.w1 l)with
   |false=>grind
   |true=>
   cases E:cu (Lt.w2 l)with
   |false=>grind
   |true=>
   cases m:((bw (Lt.w3 l)).2&&decide (0<=(bw (Lt.w3 l)).1)&&decide ((bw (Lt.w3 l)).1<=1024))with
   |false=>grind
   |true=>
    rw[if_pos rfl,if_pos rfl,if_pos rfl];refine DN l 4 true (fun c=>(⟨Lt.w1 l,Lt.w2 l,(bw (Lt.w3 l)).1,c⟩:Lt.Frame)) _ (KP (Lt.flt 3) r) (fun x=>if 16<x.length\/16<=r.abs.curI.Frames.length then KP (Lt.flt 2) r else KK ((),⟨(r.abs.instr (fun y=>{ y with Frames:=y.Frames++[⟨Lt.w1 l,Lt.w2 l,(bw (Lt.w3 l)).1,x⟩] })).P,r.at_,6,r.first,r.long⟩)) (fun R i c h1 D d=>?_) (fun R c D d=>?_) n hn (fun hc=>?_) (fun hc=>?_)
    ·simp only[aX (show i<l.length by omega),if_true,Int.toNat_natCast,show i64.wrap ((i:Int)+1)=((i+1:Nat):Int)from ac kQ1,show i64.wrap ((i:Int)+2)=((i+2:Nat):Int)by grind [eX]];refine fun _=>⟨⟨ajC i,by omega⟩,⟨ajC _,h1⟩,?_⟩
     refine ifk (fun e=>?_) (fun e=>?_)
     ·rw[if_pos e]at d;refine ifk (fun c2=>?_) (fun c2=>?_)
      all_goals grind
     grind
    ·simp only[l4,ai8,if_false];refine fun _ _=>?_
     rw[eX kQ1 kQ1];refine ifk (fun e=>?_) (fun e=>fun _ _ _ _=>ifk (fun c2=>?_) (fun c2=>?_))
     ·grind
     ·grind
     ·rw[if_neg (by grind)]at d;have A:r.where_=6:=by
       have:=Ai hw (n:=6) (by decide) (by decide)
       grind [iI]
      rw[A];exact d
    ·grind
    ·rw[if_neg (by grind)]at h;exact h
  grind [ta]
 grind
theorem Kh(r:Lt.Reader)(l:List (List UInt8))(hp:bG r l)(KK:Unit×Lt.Reader->Prop)(KP:Value->Lt.Reader->Prop)(h:exP (rD r l) (fun z x=>KK (z,x)) KP):CY r l KK KP:=by
 obtain⟨⟨hi,hw,q,_⟩,A,hr⟩:=hp;have hr:l.length<=1099511627776:=hr
 unfold CY;unfold rD Lt.l9 at h;simp only[fX,mZ,s7]at h;dsimp only;simp only[afT hw,dW,I9,ax,aK,aR,cq,bb,and_self,true_and];by_cases d:7<=r.abs.Where/\r.abs.Where<=8
 ·obtain⟨hf,_,_,_,u⟩:=i9 hi kQ1;obtain⟨a,m,w,_⟩:=ml hi kQ1;obtain⟨b,_,k⟩:=CZ hi kQ1 kQ1;have hf:r.p.Funcs≠[]:=hf
  have g:r.p.Funcs.length<=5000:=by have:r.p.Funcs.length<=8:=hi.2.1.2.2;omega
  have e:r.abs.curF.Blocks.length<=5000:=by omega
  have i:r.abs.curB.Code.length<=5000:=by omega
  have t:r.p.Funcs.getD (r.p.Funcs.length - 1) default=r.abs.curF:=rfl
  have n:r.abs.curF.Blocks.getD (r.abs.curF.Blocks.length - 1) default=r.abs.curB:=rfl
  have o:r.abs.curB.Code.getD (r.abs.curB.Code.length - 1) default=r.abs.curI:=rfl
  have j:r.abs.ins=true:=by grind
  have v:(l.drop 2).take (l.length - 2)=l.drop 2:=aj7 (by grind)
  simp only[cF hf g,dN hf,dM hf,Int.toNat_natCast,t,cF a e,dM a,dN a,n,cF b i,dM b,dN b,o,v,true_and,and_self,ajS,EJ (show r.abs.curI.Objs.length<=5000 by omega) (show 40<=200 by omega),show l.getD 1 default=Lt.w1 l from rfl];refine ifk (fun hc=>by grind) (fun _=>fun _=>?_);rw[if_neg (by grind),decide_eq_true d.1]at h;simp only[ajT]at h;by_cases h2:2<=l.length
  ·rw[if_pos (by grind)];by_cases f:l.length<=10
   ·refine ifk (fun hc=>by grind) (fun _=>⟨⟨by decide,by omega⟩,by decide,⟨h2,ai0 _⟩,?_⟩);rw[decide_eq_true h2,decide_eq_true f]at h;simp only[ajT]at h;cases s:cu (Lt.w1 l)with
    |false=>grind
    |true=>
     rw[if_pos rfl];refine⟨by show(l.drop 2).length<=1099511627776;grind,?_⟩;cases y:(dG (l.drop 2) true).2 with
     |false=>grind
     |true=>
      rw[if_pos rfl];rw[if_neg (by grind)]at h;refine fun _ _ _ _=>ifk (fun c=>?_) (fun c=>?_)
      ·grind
      ·rw[if_neg (by grind)]at h;exact h
   grind
  grind
 grind
theorem Yv{r:Lt.Reader}{w:Int}(K:Unit->Lt.Reader->Prop)(KP:Value->Lt.Reader->Prop)(o:Option α)(X:α->Lt.Read)(Y:Lt.Read) :
  exP (ii r (match o with|some t=>(0,X t)|none=>(3,Y)) w) K KP=match o with|some t=>K () ⟨(X t).P,r.at_,w,r.first,(X t).Long⟩|none=>KP (Lt.flt 3) r:=by cases o<;>rfl
theorem Xz(r:Lt.Reader)(l:List (List UInt8))(hp:bG r l)(KK:Unit×Lt.Reader->Prop)(KP:Value->Lt.Reader->Prop)(h:exP (Gn r l) (fun z x=>KK (z,x)) KP):Vd r l KK KP:=by
 obtain⟨⟨hi,hw,o,_⟩,f,hr⟩:=hp;have hr:l.length<=1099511627776:=hr
 have h0:0<l.length:=akH.2 f
 unfold Vd;unfold Gn at h;simp only[fX,mZ,Yv]at h;dsimp only;dsimp +instances only [fe]
 simp only[W8 hw,dW,yt,ax,aK,aR,cq,bb,and_self,true_and];cases q:r.abs.ins with
 |false=>grind
 |true=>
 rw[if_neg (by grind)]at h;have s:5<=r.abs.Where/\r.abs.Where<=8:=by grind
 obtain⟨hf,_,_,_,n⟩:=i9 hi kQ1;obtain⟨b,u,m,_⟩:=ml hi kQ1;have hf:r.p.Funcs≠[]:=hf
 have e:r.p.Funcs.length<=5000:=by have:r.p.Funcs.length<=8:=hi.2.1.2.2;omega
 have d:r.abs.curF.Blocks.length<=5000:=by omega
 have t:r.p.Funcs.getD (r.p.Funcs.length - 1) default=r.abs.curF:=rfl
 have v:r.abs.curF.Blocks.getD (r.abs.curF.Blocks.length - 1) default=r.abs.curB:=rfl
 simp only[cF hf e,dN hf,dM hf,Int.toNat_natCast,t,cF b d,dM b,dN b,v,true_and,and_self,implies_true,forall_const,show l.getD 0 default=Lt.w0 l from rfl,show l.getD 1 default=Lt.w1 l from rfl,show l.getD 2 default=Lt.w2 l from rfl,show l.getD 3 default=Lt.w3 l from rfl];refine ifk (fun hc=>by grind) (fun _=>⟨⟨by decide,h0⟩,?_⟩);refine ifk (fun i=>?_) (fun i=>ifk (fun g=>?_) (fun g=>ifk (fun j=>?_) (fun j=>?_)))
 ·have i:Lt.w0 l=lF:=by grind
  have hT:qf l=if(decide (l.length=2)&&cu (Lt.w1 l))=true then some ⟨1,⟨0,[],0⟩,[Lt.w1 l],0⟩else none:=by
   grind [qf,kW]
  rw[hT]at h;refine fun _=>ifk (fun c=>?_) (fun c=>?_)
  ·rw[if_neg (by grind)]at h;exact h
  ·have h2:l.length=2:=by grind
   refine⟨⟨by decide,by omega⟩,ifk (fun a=>?_) (fun a=>?_)⟩
   ·rw[if_pos (by grind)]at h;exact fun _ _=>h
   ·rw[if_neg (by grind)]at h;exact h
 ·have k:¬ Lt.w0 l=lF:=by grind
  have g:Lt.w0 l=dD:=by grind
  have hT:qf l=if(decide (l.length=4)&&(cu (Lt.w2 l)&&cu (Lt.w3 l))&&fg false (Lt.w1 l))=true then some ⟨2,(Lt.cZ (Lt.w1 l)).1,[Lt.w2 l,Lt.w3 l],0⟩else none:=by
   grind [qf,kW]
  rw[hT]at h;refine fun _=>ifk (fun c=>?_) (fun c=>?_)
  ·rw[if_neg (by grind)]at h;exact h
  ·have h2:l.length=4:=by grind
   refine⟨⟨by decide,by omega⟩,⟨by decide,by omega⟩,⟨by decide,by omega⟩,ifk (fun a=>ifk (fun c2=>ifk (fun c3=>?_) (fun c3=>?_)) (fun c2=>?_)) (fun a=>?_)⟩
   ·rw[if_pos (by grind)]at h;exact fun _ _=>h
   ·rw[if_neg (by grind)]at h;exact h
   ·rw[if_neg (by grind)]at h;exact h
   ·rw[if_neg (by grind)]at h;exact h
 ·have k:¬ Lt.w0 l=lF:=by grind
  have n2:¬ Lt.w0 l=dD:=by grind
  have j:Lt.w0 l=rJ:=by grind
  have hT:qf l=if(decide (l.length=2)&&fg false (Lt.w1 l))=true then some ⟨3,(Lt.cZ (Lt.w1 l)).1,[],0⟩else none:=by
   grind [qf,kW]
  rw[hT]at h;refine fun _=>ifk (fun c=>?_) (fun c=>?_)
  ·rw[if_neg (by grind)]at h;exact h
  ·have h2:l.length=2:=by grind
   refine⟨⟨by decide,by omega⟩,ifk (fun a=>?_) (fun a=>?_)⟩
   ·rw[if_pos (by grind)]at h;exact fun _ _=>h
   ·rw[if_neg (by grind)]at h;exact h
 ·have k:¬ Lt.w0 l=lF:=by grind
  have n2:¬ Lt.w0 l=dD:=by grind
  have w:¬ Lt.w0 l=rJ:=by grind
  have hT:qf l=if(decide (l.length=2)&&(bw (Lt.w1 l)).2)=true then some ⟨4,⟨0,[],0⟩,[],(bw (Lt.w1 l)).1⟩else none:=by
   grind [qf]
  rw[hT]at h;refine fun _=>ifk (fun c=>?_) (fun c=>?_)
  ·rw[if_neg (by grind)]at h;exact h
  ·have h2:l.length=2:=by grind
   refine⟨⟨by decide,by omega⟩,ifk (fun a=>?_) (fun a=>?_)⟩
   ·have a:(bw (Lt.w1 l)).2=false:=by grind
    rw[if_neg (by grind)]at h;exact h
   ·have a:(bw (Lt.w1 l)).2=true:=by grind
    rw[if_pos (by grind)]at h;exact fun _ _=>h
theorem Oo(w:List UInt8)(l:List (List UInt8))(o:Bool):dG (w::l) o=if fg o w=true then(if(dG l o).2=true then((Lt.cZ w).1::(dG l o).1,true)else([],false))else([],false):=by
 grind [dG]
theorem Tr(r:Lt.Reader)(l:List (List UInt8))(hp:bG r l)(KK:Unit×Lt.Reader->Prop)(KP:Value->Lt.Reader->Prop)(h:exP (xV r l) (fun z x=>KK (z,x)) KP):Pm r l KK KP:=by
 obtain⟨⟨hi,hw,W,_⟩,G,hr⟩:=hp;have hr:l.length<=1099511627776:=hr
 have h0:0<l.length:=akH.2 G
 have e0:da r.abs l=if(Lt.sEq l&&!cu (Lt.w0 l))=true then(3,r.abs)else I3 r.abs (if Lt.sEq l then Lt.w0 l else []) (if Lt.sEq l then l.drop 2 else l):=rfl
 unfold Pm;unfold xV at h;rw[e0]at h;dsimp only;simp only[W8 hw,dW,yt,I9];cases w:r.abs.ins with
 |false=>
  have h3:KP (Lt.flt 3) r:=by
   unfold I3 at h;rw[if_pos w]at h;split at h<;>exact h
  exact h3
 |true=>
 have X:5<=r.abs.Where/\r.abs.Where<=8:=by grind
 obtain⟨hf,_,_,_,Z⟩:=i9 hi kQ1;obtain⟨g,Q,ab,_⟩:=ml hi kQ1;have hf:r.p.Funcs≠[]:=hf
 have D:r.p.Funcs.length<=5000:=by have:r.p.Funcs.length<=8:=hi.2.1.2.2;omega
 have A:r.abs.curF.Blocks.length<=5000:=by omega
 have E:r.abs.curB.Code.length<=5000:=by omega
 have Y:r.p.Funcs.getD (r.p.Funcs.length - 1) default=r.abs.curF:=rfl
 have S:r.abs.curF.Blocks.getD (r.abs.curF.Blocks.length - 1) default=r.abs.curB:=rfl
 have l1:∀x:Lt.Instr,([x]:List Lt.Instr).length=1:=fun _=>rfl
 have N:i64.wrap (r.long+1)=r.long+1:=eX kQ1 kQ1
 simp only[cF hf D,dN hf,dM hf,Int.toNat_natCast,Y,cF g A,dM g,dN g,S,l1,EJ E (show 112<=200 by omega),N,true_and,and_self,show l.getD 0 default=Lt.w0 l from rfl,show l.getD 1 default=Lt.w1 l from rfl];refine ifk (fun hc=>by grind) (fun _=>?_);refine fun H o=>?_
 have key:∀(l':List (List UInt8))(dst:List UInt8),0<l'.length->l'.length<=1099511627776->exP (ii r (I3 r.abs dst l') ((I3 r.abs dst l').2.Where - 1)) (fun z x=>KK (z,x)) KP->H (l',⟨0,dst,[],[],[],[]⟩):=by
  intro l' dst F aa hk;refine o _ ?_;clear o h e0 H;have hk:match Lt.gl dst l' with
    |none=>KP (Lt.flt 3) r
    |some x=>if 1024<=r.long then KP (Lt.flt 2) r else KK ((),⟨(r.abs.block (fun b=>{ b with Code:=b.Code++[x] })).P,r.at_,(if x.Op=31\/x.Op=34 then 7 else 6) - 1,r.first,r.long+1⟩):=by
   unfold I3 at hk;rw[if_neg (by grind)]at hk;cases hs:Lt.gl dst l' with
   |none=>rw[hs]at hk;exact hk
   |some x=>
    rw[hs]at hk;simp only[show r.abs.Long=r.long from rfl]at hk⊢;by_cases hl:1024<=r.long
    ·rw[if_pos hl]at hk⊢;exact hk
    ·rw[if_neg hl]at hk⊢;exact hk
  unfold Lt.gl Lh at hk;have ew:l'.getD 0 default=Lt.w0 l':=rfl
  refine⟨⟨by decide,F⟩,?_⟩;unfold Lt.yOp;simp only[ew];obtain⟨_,_,e3,e4,e5,V⟩:=pY (Lt.sOp (Lt.w0 l')).1;simp only[<- e3,<- e4,<- e5,<- V];have f:(Lt.sOp (Lt.w0 l')).1=26\/(Lt.sOp (Lt.w0 l')).1=27->(Lt.rOf (Lt.sOp (Lt.w0 l')).1).1.Named=true:=by
   rintro(e|e)<;>rw[e]<;>rfl
  generalize Lt.sOp (Lt.w0 l')=O at hk f⊢;obtain⟨op,q⟩:=O;simp only at hk f⊢
  generalize(Lt.rOf op).1=C at hk f⊢;cases v:q with
  |false=>grind
  |true=>
  rw[v]at hk;refine ifk (fun hc=>by grind) (fun _=>?_);refine ifk (fun hc=>?_) (fun hc=>?_)
  ·grind
  rw[if_neg (by grind)]at hk;have ed:(l'.drop 1).take (l'.length - 1)=l'.drop 1:=aj7 (by grind)
  rw[ed];refine⟨by decide,⟨by omega,ai0 _⟩,fun I k=>?_⟩;have K:∀nm gs,(if(decide (C.Least<=(gs.length:Int))&&decide ((gs.length:Int)<=C.Most))=true then(if 1024<=r.long then KP (Lt.flt 2) r else KK ((),⟨(r.abs.block (fun b=>{ b with Code:=b.Code++[(⟨op,dst,nm,gs,[],[]⟩:Lt.Instr)] })).P,r.at_,(if op=31\/op=34 then 7 else 6) - 1,r.first,r.long+1⟩))else KP (Lt.flt 3) r)->I ⟨op,dst,nm,gs,[],[]⟩:=by
   intro nm gs d;refine k _ ?_;clear k hk I;refine fun _=>ifk (fun T=>ifk (fun c2=>?_) (fun c2=>?_)) (fun T=>?_)
   ·grind
   ·rw[if_pos (by grind)]at d;refine ifk (fun hl=>?_) (fun hl=>?_)
    ·grind
    rw[if_neg (by grind)]at d;simp only[implies_true,forall_const,ax,jval,bor];refine fun _ _=>?_
    by_cases s:op=31\/op=34
    ·rw[if_pos (by grind)];rw[if_pos s]at d;exact d
    ·rw[if_neg (by grind)];rw[if_neg s]at d;exact d
   grind
  clear k;refine fun U n=>?_
  have g8:=n (decide (op=26)||decide (op=27)) ?_
  ·grind
  clear n U;refine ifk (fun c=>?_) (fun c=>?_)
  ·have c:op=26\/op=27:=by grind
   have a:=f c
   rw[if_pos c]at hk;refine fun _=>ifk (fun c3=>?_) (fun c3=>?_)
   ·grind
   have h3:3<=l'.length:=by grind
   rw[if_neg kQ1]at hk;simp only[a,ajT,Oo,Bool.not_not]at hk;have m:(l'.drop 1).getD 1 default=Lt.w2 l':=by grind
   have y:((l'.drop 1).drop 0).take (1 - 0)=[Lt.w1 l']:=by
    grind [ajO]
   have j:((l'.drop 1).drop 2).take ((l'.drop 1).length - 2)=l'.drop 3:=by grind [List.drop_drop,alL]
   rw[m,y,j];refine⟨⟨by decide,by grind⟩,?_⟩;have L:∀{P:Prop},(cu (Lt.w2 l')=false->KP (Lt.flt 3) r)/\(cu (Lt.w2 l')=true->P)->(if cu (Lt.w2 l')=true then P else KP (Lt.flt 3) r):=by
    grind
   refine L ⟨fun hn=>?_,fun hn=>?_⟩
   ·grind
   rw[hn]at hk;refine⟨by decide,⟨by decide,by grind⟩,by decide,⟨by grind,ai0 _⟩,fun _=>?_⟩;refine au _ 1 (fun i x=>(i=0/\x=(([]:List Lt.Arg),(0:Int)))\/(i=1/\x=([(Lt.cZ (Lt.w1 l')).1],(1:Int))/\fg false (Lt.w1 l')=true)) (fun R i x hi hx M=>?_) (fun R x hx=>?_) _ (Or.inl ⟨rfl,rfl⟩)
   ·rcases hx with⟨rfl,rfl⟩|⟨h1,_⟩
    ·show(if decide ((0:Int) < (([Lt.w1 l']:List (List UInt8)).length:Int))=true then _ else _)
     rw[if_pos (by simp)];refine⟨⟨Int.le_refl _,Nat.one_pos⟩,?_⟩;show(if fg false (Lt.w1 l')=true then _ else _)
     refine ifk (fun u=>?_) (fun u=>?_)
     ·exact⟨⟨by omega,by grind⟩,M _ (Or.inr ⟨rfl,rfl,u⟩)⟩
     grind
    ·omega
   ·rcases hx with⟨h1,_⟩|⟨_,rfl,u⟩
    ·omega
    ·show(if decide ((1:Int) < (([Lt.w1 l']:List (List UInt8)).length:Int))=true then _ else _)
     rw[if_neg (by simp)];rw[if_pos u]at hk;refine⟨by show(l'.drop 3).length<=1099511627776;grind,?_⟩;refine ifk (fun t=>?_) (fun t=>?_)
     ·rw[if_pos t]at hk;have J:(dG (l'.drop 3) false).1.length<=1099511627776:=by
       grind [dG]
      grind
     grind
  ·have c:¬ (op=26\/op=27):=by grind
   rw[if_neg c]at hk;refine ifk (fun a=>?_) (fun a=>?_)
   ·rw[if_pos a]at hk;refine fun _=>ifk (fun c3=>?_) (fun c3=>?_)
    ·grind
    have h3:2<=l'.length:=by grind
    rw[if_neg kQ1]at hk;simp only[a,ajT,Bool.not_not]at hk;have m:(l'.drop 1).getD 0 default=Lt.w1 l':=by grind
    have j:((l'.drop 1).drop 1).take ((l'.drop 1).length - 1)=l'.drop 2:=by grind [List.drop_drop,alL]
    rw[m,j];refine⟨⟨by decide,by grind⟩,?_⟩;refine ifk (fun hn=>?_) (fun hn=>?_)
    ·rw[hn]at hk;refine⟨by decide,⟨by grind,ai0 _⟩,by show(l'.drop 2).length<=1099511627776;grind,?_⟩
     grind
    grind
   ·rw[if_neg a]at hk;have a:C.Named=false:=Bool.eq_false_iff.2 a
    simp only[a,akR,Bool.not_false,akK]at hk;refine⟨by show(l'.drop 1).length<=1099511627776;grind,?_⟩
    grind
 have es:((decide (2 < (l.length:Int)))&&(decide (Lt.w1 l=[61])))=Lt.sEq l:=by
  grind [Lt.sEq]
 refine fun J3 B=>?_
 have L:=B (Lt.sEq l) ?_
 ·grind
 show(if Lt.sEq l=true then _ else _)
 by_cases hs:Lt.sEq l=true
 ·rw[if_pos hs];rw[hs]at h;have h2:2<l.length:=by grind
  refine⟨⟨by decide,h0⟩,?_⟩;refine ifk (fun hc=>⟨by decide,⟨by omega,ai0 _⟩,?_⟩) (fun hc=>?_)
  ·grind [aj7,alL]
  ·rw[Bool.eq_false_iff.2 hc]at h;exact h
 grind
def hd(p:Lt.Program):Nat:=p.Classes.length+p.Globals.length+p.Externs.length
def Rel(w:Int)(r:Lt.Reader)(x:Lt.Read):Prop:=
 (r.heads<hd x.P/\((w=1/\x.Where=1)\/(w=0/\x.Where=2))) \/
 (¬ r.heads<hd x.P/\(0<=x.Long/\x.Long<=1024)/\((2<=w/\w<=7/\x.Where=w+1)\/(w=0/\x.Where=9))) \/
 (¬ r.heads<hd x.P/\w=r.where_/\x.Where=r.abs.Where/\x.Long=r.long)
theorem sO{r:Lt.Reader}(h:r.inv)(hw:3<=r.abs.Where):0<=r.long:=by
 obtain⟨_,_,_,h4⟩:=h
 grind [Lt.Reader.abs]
section
variable {r:Lt.Reader} {l:List (List UInt8)}
theorem T6(hz:(Lt.eG r.abs l).1=0):Rel 1 r (Lt.eG r.abs l).2:=by
 unfold Lt.eG at hz⊢;split at hz
 ·omega
 ·rename_i h1;rw[if_neg h1];split at hz
  ·omega
  ·rename_i h2;rw[if_neg h2];refine .inl ⟨?_,.inl ⟨rfl,rfl⟩⟩
   grind [hd,Lt.Reader.heads,oM]
end
section
variable {r:Lt.Reader} {l:List (List UInt8)}
theorem T7(hz:(gk r.abs l).1=0):Rel r.where_ r (gk r.abs l).2:=by
 unfold gk at hz⊢;split at hz
 ·omega
 ·rename_i h1;rw[if_neg h1];split at hz
  ·omega
  ·rename_i h2;rw[if_neg h2];refine .inr (.inr ⟨?_,rfl,rfl,rfl⟩)
   grind [hd,Lt.Reader.heads,oM,Lt.last]
end
section
variable {r:Lt.Reader} {l:List (List UInt8)}
theorem Oj(hz:(dP r.abs l).1=0):Rel 0 r (dP r.abs l).2:=by
 unfold dP at hz⊢;split at hz
 ·omega
 ·rename_i h1;rw[if_neg h1];refine .inl ⟨?_,.inr ⟨rfl,rfl⟩⟩
  grind [hd,Lt.Reader.heads,oM]
end
section
variable {r:Lt.Reader} {l:List (List UInt8)}
theorem Oi(hz:(dO r.abs l).1=0):Rel 0 r (dO r.abs l).2:=by
 unfold dO at hz⊢;split at hz
 ·omega
 ·rename_i h1;rw[if_neg h1];refine .inl ⟨?_,.inr ⟨rfl,rfl⟩⟩
  grind [hd,Lt.Reader.heads,oM]
end
section
variable {r:Lt.Reader} {l:List (List UInt8)}
theorem Ys(hz:(Lt.gz r.abs l).1=0):Rel 2 r (Lt.gz r.abs l).2:=by
 unfold Lt.gz at hz⊢;split at hz
 ·omega
 ·rename_i h1;rw[if_neg h1];exact .inr (.inl ⟨akX _,⟨Int.le_refl _,show(0:Int)<=1024 by decide⟩,.inl ⟨by decide,by decide,rfl⟩⟩)
end
section
variable {r:Lt.Reader} {l:List (List UInt8)}
variable (h:r.inv)
include h
theorem T8(hz:(gm r.abs l).1=0):Rel r.where_ r (gm r.abs l).2:=by
 unfold gm at hz⊢;split at hz
 ·omega
 ·rename_i h1;rw[if_neg h1];exact .inr (.inr ⟨akX _,rfl,rfl,rfl⟩)
end
section
variable {r:Lt.Reader} {l:List (List UInt8)}
variable (h:r.inv)
include h
theorem acB(hz:(Lt.jN r.abs l).1=0):Rel 3 r (Lt.jN r.abs l).2:=by
 unfold Lt.jN at hz⊢;split at hz
 ·omega
 ·rename_i h1;rw[if_neg h1];have hw:3<=r.abs.Where:=by grind
  exact .inr (.inl ⟨akX _,⟨sO h hw,h.2.2.1.2⟩,.inl ⟨by decide,by decide,rfl⟩⟩)
end
section
variable {r:Lt.Reader} {l:List (List UInt8)}
variable (h:r.inv)
include h
theorem T5(hz:(Lt.dL r.abs l).1=0):Rel 4 r (Lt.dL r.abs l).2:=by
 unfold Lt.dL at hz⊢;split at hz
 ·omega
 ·rename_i h1;rw[if_neg h1];have hw:3<=r.abs.Where:=by grind
  exact .inr (.inl ⟨akX _,⟨sO h hw,h.2.2.1.2⟩,.inl ⟨by decide,by decide,rfl⟩⟩)
end
section
variable {r:Lt.Reader} {l:List (List UInt8)}
variable (h:r.inv)
include h
theorem acA(hz:(Lt.ma r.abs l).1=0):Rel 4 r (Lt.ma r.abs l).2:=by
 unfold Lt.ma at hz⊢;split at hz
 ·omega
 ·rename_i h1;rw[if_neg h1];split at hz
  ·omega
  ·rename_i h2;rw[if_neg h2];have hw:r.abs.Where=5:=by
    grind
   have h0:=sO h kQ1
   have hl:¬ 1024<=r.long:=fun e=>h2 (.inr e)
   exact .inr (.inl ⟨akX _,⟨by show 0<=r.long+1;omega,by grind⟩,.inl ⟨by decide,by decide,hw⟩⟩)
end
section
variable {r:Lt.Reader} {l:List (List UInt8)}
variable (h:r.inv)
include h
theorem K5(hz:(da r.abs l).1=0):Rel ((da r.abs l).2.Where - 1) r (da r.abs l).2:=by
 unfold da at hz⊢;split at hz
 ·omega
 ·rename_i h1;rw[if_neg h1];split at hz
  ·omega
  ·rename_i h2;rw[if_neg h2];split at hz
   ·omega
   ·rename_i x hx;simp only[hx];split at hz
    ·omega
    ·rename_i hl;rw[if_neg hl];have hw:3<=r.abs.Where:=by
      grind
     have h0:=sO h hw
     have hl:¬ 1024<=r.long:=hl
     refine .inr (.inl ⟨akX _,⟨by show 0<=r.long+1;omega,by grind⟩,.inl ?_⟩)
     grind
end
section
variable {r:Lt.Reader} {l:List (List UInt8)}
variable (h:r.inv)
include h
theorem agJ(hz:(Lt.sAt r.abs l).1=0):Rel 6 r (Lt.sAt r.abs l).2:=by
 unfold Lt.sAt at hz⊢;split at hz
 ·omega
 ·rename_i h1;rw[if_neg h1];split at hz
  ·omega
  ·rename_i h2;rw[if_neg h2];have hw:r.abs.Where=7:=by
    grind
   exact .inr (.inl ⟨akX _,⟨sO h kQ1,h.2.2.1.2⟩,.inl ⟨by decide,by decide,hw⟩⟩)
end
section
variable {r:Lt.Reader} {l:List (List UInt8)}
variable (h:r.inv)
include h
theorem ab9(hz:(Lt.l9 r.abs l).1=0):Rel 7 r (Lt.l9 r.abs l).2:=by
 unfold Lt.l9 at hz⊢;split at hz
 ·omega
 ·rename_i h1;rw[if_neg h1];have hw:7<=r.abs.Where:=by
   grind
  exact .inr (.inl ⟨akX _,⟨sO h kQ1,h.2.2.1.2⟩,.inl ⟨by decide,by decide,rfl⟩⟩)
end
section
variable {r:Lt.Reader} {l:List (List UInt8)}
variable (h:r.inv)
include h
theorem ab8(a:r.abs.ins=true)(hz:(uY r.abs l).1=0):Rel 0 r (uY r.abs l).2:=by
 have hw:3<=r.abs.Where:=by
  grind
 unfold uY at hz⊢;split at hz
 ·exact .inr (.inl ⟨akX _,⟨sO h hw,h.2.2.1.2⟩,.inr ⟨rfl,rfl⟩⟩)
 omega
end
theorem D4{r:Lt.Reader}{x y:Int×Lt.Read}{w:Int}(h1:x.1=y.1)(h2:x.1=0->x.2=y.2):ii r x w=ii r y w:=by
 grind [ii]
theorem Y7{l:List (List UInt8)}(h:Lt.w0 l=lF\/Lt.w0 l=dD\/Lt.w0 l=rJ\/Lt.w0 l=pK):qf l=kW l:=by
 grind [qf,kW]
theorem PP(r:Lt.Reader)(l:List (List UInt8))(h:r.inv):∃w,rY r l=ii r (aM r.abs l r.first) w/\((aM r.abs l r.first).1=0->Rel w r (aM r.abs l r.first).2):=by
 have ff:∀x:Lt.Read,¬ (((false,(0:Int)),x).1.1=true):=fun x=>by simp
 unfold rY;by_cases hs:Lt.sEq l=true
 ·have e:aM r.abs l r.first=da r.abs l:=by grind [aM]
  rw[e,if_pos hs];exact⟨_,rfl,K5 h⟩
 rw[if_neg hs];by_cases q:Lt.w0 l=sK
 ·have e:aM r.abs l r.first=if(r.first&&decide (l.length=1))=false then(3,r.abs)else(0,{ r.abs with P:={ r.p with SSA:=true } }):=by unfold aM;rw[if_neg hs,if_pos q];rfl
  rw[e,if_pos q];refine⟨_,rfl,fun hz=>?_⟩;split at hz
  ·omega
  ·rename_i hc;rw[if_neg hc];exact .inr (.inr ⟨akX _,rfl,rfl,rfl⟩)
 rw[if_neg q];have e0:aM r.abs l r.first=if(bM r.abs l).1.1 then((bM r.abs l).1.2,(bM r.abs l).2)else if(cr r.abs l).1.1 then((cr r.abs l).1.2,(cr r.abs l).2)else if(bq r.abs l).1.1 then((bq r.abs l).1.2,(bq r.abs l).2)else da r.abs l:=by
  grind [aM]
 rw[e0];unfold bM;by_cases n:Lt.w0 l=nY
 ·rw[if_pos n,if_pos n];exact⟨_,rfl,T6⟩
 rw[if_neg n,if_neg n];by_cases n2:Lt.w0 l=lV
 ·rw[if_pos n2,if_pos n2];exact⟨_,rfl,T7⟩
 rw[if_neg n2,if_neg n2];by_cases i:Lt.w0 l=iv
 ·rw[if_pos i,if_pos i];exact⟨_,rfl,Oj⟩
 rw[if_neg i,if_neg i];by_cases j:Lt.w0 l=fR
 ·rw[if_pos j,if_pos j];exact⟨_,rfl,Oi⟩
 rw[if_neg j,if_neg j];by_cases f:Lt.w0 l=rT
 ·rw[if_pos f,if_pos f];exact⟨_,rfl,Ys⟩
 rw[if_neg f,if_neg f,if_neg (ff _)];unfold cr;by_cases o:Lt.w0 l=lW
 ·rw[if_pos o,if_pos o];exact⟨_,rfl,T8 h⟩
 rw[if_neg o,if_neg o];by_cases m:Lt.w0 l=BY
 ·rw[if_pos m,if_pos m];exact⟨_,rfl,acB h⟩
 rw[if_neg m,if_neg m];by_cases k:Lt.w0 l=nX
 ·rw[if_pos k,if_pos k];exact⟨_,rfl,T5 h⟩
 rw[if_neg k,if_neg k];by_cases g:Lt.w0 l=wi
 ·rw[if_pos g,if_pos g];exact⟨_,rfl,acA h⟩
 rw[if_neg g,if_neg g,if_neg (ff _)];have eS:(Lt.w0 l=Lt.kAt\/Lt.w0 l=mK\/Lt.w0 l=lF\/Lt.w0 l=dD\/Lt.w0 l=rJ\/Lt.w0 l=pK)->bq r.abs l=if r.abs.ins=false then((true,3),r.abs)else if Lt.w0 l=Lt.kAt then((true,(Lt.sAt r.abs l).1),(Lt.sAt r.abs l).2)else if Lt.w0 l=mK then((true,(Lt.l9 r.abs l).1),(Lt.l9 r.abs l).2)else((true,(uY r.abs l).1),(uY r.abs l).2):=fun t=>by
  grind [bq]
 by_cases b:Lt.w0 l=Lt.kAt
 ·rw[if_pos b,eS (.inl b)];by_cases a:r.abs.ins=false
  ·rw[if_pos a];refine⟨6,?_,fun hz=>by grind⟩;have:(Lt.sAt r.abs l).1=3:=by
    have:decide (r.abs.Where=7)=false:=by
     grind
    grind [Lt.sAt]
   exact D4 this (fun hz=>by omega)
  ·rw[if_neg a,if_pos b];exact⟨_,rfl,agJ h⟩
 rw[if_neg b];by_cases d:Lt.w0 l=mK
 ·rw[if_pos d,eS (.inr (.inl d))];by_cases a:r.abs.ins=false
  ·unfold rD;rw[if_pos a,if_pos a]
   grind
  grind [rD,ab9]
 rw[if_neg d];by_cases c:Lt.w0 l=lF\/Lt.w0 l=dD\/Lt.w0 l=rJ\/Lt.w0 l=pK
 ·rw[if_pos c,eS (.inr (.inr c))];by_cases a:r.abs.ins=false
  ·unfold Gn;rw[if_pos a,if_pos a]
   grind
  grind [Gn,Y7,D4,ab8,uY]
 have s:bq r.abs l=((false,0),r.abs):=by
  grind [bq]
 rw[if_neg c,s,if_neg (ff _)];exact⟨_,rfl,K5 h⟩
def Sim(a b:Lt.Read):Prop:=a.P=b.P/\(a=b\/(a.Where<=2/\b.Where<=2/\(a.Where=1 ↔ b.Where=1)))
theorem Sim.out{a b:Lt.Read}(h:Sim a b):a.out=b.out:=by
 rcases h with⟨_,rfl|⟨h1,h2,_⟩⟩
 all_goals grind
theorem Pt{P:Lt.Program}{w m:Int}(h:Lt.Inv ⟨P,w,n⟩)(hw:w<=2):Lt.Inv ⟨P,w,m⟩:=
 ⟨h.1,h.2.1,h.2.2.1,h.2.2.2.1,h.2.2.2.2.1,fun h3=>absurd h3 (by grind)⟩
def kE(r:Lt.Reader)(w:Int)(x:Lt.Read):Lt.Reader:=⟨x.P,r.at_,w,false,if r.heads<hd x.P then -1 else x.Long⟩
theorem Tz{r:Lt.Reader}{w:Int}{x:Lt.Read}(h:r.inv)(hx:Lt.Inv x)(hr:Rel w r x):(kE r w x).inv/\Sim (kE r w x).abs x:=by
 obtain⟨P,W,n⟩:=x;obtain⟨hi,hw,hl,b⟩:=h;rcases hr with⟨h1,⟨rfl,h2⟩|⟨rfl,h2⟩⟩|⟨h1,h2,⟨h3,h4,h5⟩|⟨rfl,h3⟩⟩|⟨h1,rfl,h3,h4⟩
 ·have h2:W=1:=h2
  subst h2;have e:(kE r 1 ⟨P,1,n⟩)=⟨P,r.at_,1,false,-1⟩:=by grind [kE]
  rw[e];exact⟨⟨show Lt.Inv ⟨P,1,-1⟩from Pt hx (by decide),show(0:Int)<=1/\(1:Int)<=7 by decide,show(-1:Int) <= -1/\(-1:Int)<=1024 by decide,by simp⟩,rfl,.inr ⟨by simp[Lt.Reader.abs],by simp,by rfl⟩⟩
 ·have h2:W=2:=h2
  subst h2;have e:(kE r 0 ⟨P,2,n⟩)=⟨P,r.at_,0,false,-1⟩:=by grind [kE]
  rw[e];exact⟨⟨show Lt.Inv ⟨P,2,-1⟩from Pt hx (by decide),show(0:Int)<=0/\(0:Int)<=7 by decide,show(-1:Int) <= -1/\(-1:Int)<=1024 by decide,by simp[Lt.Reader.abs]⟩,rfl,.inr ⟨by simp[Lt.Reader.abs],by simp,by rfl⟩⟩
 ·have h5:W=w+1:=h5
  have h2:0<=n/\n<=1024:=h2
  have e:(kE r w ⟨P,W,n⟩)=⟨P,r.at_,w,false,n⟩:=by grind [kE]
  have a:(⟨P,r.at_,w,false,n⟩:Lt.Reader).abs=⟨P,W,n⟩:=by
   grind [Lt.Reader.abs]
  rw[e];refine⟨⟨by grind,⟨by grind,h4⟩,⟨by grind,h2.2⟩,?_⟩,by rw[a];exact⟨rfl,.inl rfl⟩⟩
  grind
 ·have h3:W=9:=h3
  have h2:0<=n/\n<=1024:=h2
  have e:(kE r 0 ⟨P,W,n⟩)=⟨P,r.at_,0,false,n⟩:=by grind [kE]
  have a:(⟨P,r.at_,0,false,n⟩:Lt.Reader).abs=⟨P,W,n⟩:=by
   grind [Lt.Reader.abs]
  rw[e];refine⟨⟨by grind,show(0:Int)<=0/\(0:Int)<=7 by decide,⟨by grind,h2.2⟩,?_⟩,by rw[a];exact⟨rfl,.inl rfl⟩⟩
  grind
 ·have h4:n=r.long:=h4
  have h3:W=r.abs.Where:=h3
  have e:(kE r r.where_ ⟨P,W,n⟩)=⟨P,r.at_,r.where_,false,n⟩:=by grind [kE]
  have a:(⟨P,r.at_,r.where_,false,n⟩:Lt.Reader).abs=⟨P,W,n⟩:=by rw[h3,h4];rfl
  rw[e];refine⟨⟨by grind,hw,by grind,?_⟩,by rw[a];exact⟨rfl,.inl rfl⟩⟩
  grind
theorem abJ(r:Lt.Reader)(l:List (List UInt8))(h:r.inv):∃w,BM r l=(if(aM r.abs l r.first).1=0 then(.ok (),kE r w (aM r.abs l r.first).2)else(.error (Lt.flt (aM r.abs l r.first).1),r)) /\
  ((aM r.abs l r.first).1=0->(kE r w (aM r.abs l r.first).2).inv/\Sim (kE r w (aM r.abs l r.first).2).abs (aM r.abs l r.first).2):=by
 obtain⟨w,h1,h2⟩:=PP r l h;refine⟨w,?_,fun hz=>Tz h (JE h.1 hz) (h2 hz)⟩;unfold BM;rw[h1];unfold ii;by_cases hz:(aM r.abs l r.first).1=0
 ·rw[if_pos hz,if_pos hz];rfl
 grind
theorem Aj(h1:p.Classes.length<=8)(h2:p.Globals.length<=8)(h3:p.Externs.length<=8) :
  (i64.wrap ((i64.wrap ((p.Classes.length:Int)+(p.Globals.length:Int)))+(p.Externs.length:Int)))=((hd p:Nat):Int):=by
 grind [eX,hd]
def aiV(r:Lt.Reader)(X:Except Value Unit×Lt.Reader):Except Value Unit×Lt.Reader:=match X with
 |(.ok _,x)=>(.ok (),{ x with first:=false,long:=if r.heads<x.heads then -1 else x.long })
 |(.error v,x)=>(.error v,x)
variable{KK:Unit×Lt.Reader->Prop}{X:Except Value Unit×Lt.Reader}
theorem ag1{r:Lt.Reader}{l:List (List UInt8)}(hp:bG r l){KP:Value->Lt.Reader->Prop}
  (hX:X=rY r l) (h:exP (BM r l) (fun z x=>KK (z,x)) KP):yGo r l KK KP X:=by
 obtain⟨a,g,hr⟩:=id hp;have hi:=a.1
 have b1:r.p.Classes.length<=8:=hi.2.1.1
 have b2:r.p.Globals.length<=8:=jG (k:=8) hi.2.2.1.1
 have d:r.p.Externs.length<=8:=hi.2.1.2.1
 obtain⟨w,h1,h2⟩:=PP r l a;unfold yGo;rw[hX];refine fun _ _ _=>⟨hp,?_⟩
 have e:BM r l=aiV r (rY r l):=rfl
 rw[e]at h;by_cases hz:(aM r.abs l r.first).1=0
 ·have hx:=JE hi hz
  have b:rY r l=(.ok (),⟨(aM r.abs l r.first).2.P,r.at_,w,r.first,(aM r.abs l r.first).2.Long⟩):=by
   grind [ii]
  rw[b]at h⊢;generalize(aM r.abs l r.first).2=x at hx h⊢;have f:x.P.Classes.length<=8:=hx.2.1.1
  have c2:x.P.Globals.length<=8:=jG (k:=8) hx.2.2.1.1
  have c3:x.P.Externs.length<=8:=hx.2.1.2.1
  show aa _ _
  simp only[aR,cq,ax];refine fun _ _ _=>?_
  rw[Aj b1 b2 d,Aj f c2 c3];refine ifk (fun c=>?_) (fun c=>?_)
  ·have c:r.heads<hd x.P:=by simp at c;exact c
   have h:KK ((),⟨x.P,r.at_,w,false,if r.heads<hd x.P then -1 else x.Long⟩):=h
   grind
  ·have c:¬ r.heads<hd x.P:=fun e=>c (by simpa using(show hd r.p<hd x.P from e))
   have h:KK ((),⟨x.P,r.at_,w,false,if r.heads<hd x.P then -1 else x.Long⟩):=h
   grind
 ·have b:rY r l=(.error (Lt.flt (aM r.abs l r.first).1),r):=by
   grind [ii]
  rw[b]at h⊢;exact h
theorem ac4{r:Lt.Reader}{l:List (List UInt8)}(hp:bG r l){KP:Value->Lt.Reader->Prop}
  (hX:(if Lt.sEq l then xV r l else X)=rY r l) (h:exP (BM r l) (fun z x=>KK (z,x)) KP):oJ r l KK KP X:=by
 have es:((decide (2 < (l.length:Int)))&&(decide ((l.getD 1 default)=[61])))=Lt.sEq l:=by
  grind [Lt.sEq]
 refine fun b a=>?_
 grind [ag1]
theorem Tv(r:Lt.Reader)(l:List (List UInt8))(hp:bG r l)(KK:Unit×Lt.Reader->Prop)(KP:Value->Lt.Reader->Prop)(h:exP (BM r l) (fun z x=>KK (z,x)) KP):Pq r l KK KP:=by
 unfold Pq;refine⟨⟨by decide,akH.2 hp.2.1⟩,?_⟩;have a:∀X,(if Lt.sEq l then xV r l else X)=rY r l->oJ r l KK KP X:=fun X hX=>ac4 hp hX h
 grind (splits:=20) [rY]
theorem YJ{a b:Lt.Read}(h:Sim a b)(l:List (List UInt8))(first:Bool):(aM a l first).1=(aM b l first).1/\Sim (aM a l first).2 (aM b l first).2:=by
 obtain⟨d,rfl|⟨h1,h2,h3⟩⟩:=h
 ·exact⟨rfl,rfl,.inl rfl⟩
 obtain⟨P,w,n⟩:=a;obtain⟨e,w',n'⟩:=b;have d:P=e:=d
 subst d;have h1:w<=2:=h1
 have h2:w'<=2:=h2
 have h3:w=1 ↔ w'=1:=h3
 have s:∀p:Lt.Program,Sim ⟨p,w,n⟩ ⟨p,w',n'⟩:=fun p=>⟨rfl,.inr ⟨h1,h2,h3⟩⟩
 have c:(⟨P,w,n⟩:Lt.Read).out=true:=by grind
 have ob:(⟨P,w',n'⟩:Lt.Read).out=true:=by grind
 have q:(⟨P,w,n⟩:Lt.Read).ins=false:=by grind
 have u:(⟨P,w',n'⟩:Lt.Read).ins=false:=by grind
 have w1:decide (w=1)=decide (w'=1):=decide_eq_decide.2 h3
 have v:decide (w=3)=false:=by grind
 have i:decide (w'=3)=false:=by grind
 have r:decide (w=4)=false:=by grind
 have g:decide (w'=4)=false:=by grind
 have t:decide (w=5)=false:=by grind
 have f:decide (w'=5)=false:=by grind
 have o:decide (w=9)=false:=by grind
 have j:decide (w'=9)=false:=by grind
 have hc:(da ⟨P,w,n⟩ l).1=(da ⟨P,w',n'⟩ l).1/\Sim (da ⟨P,w,n⟩ l).2 (da ⟨P,w',n'⟩ l).2:=by
  grind [da]
 have m:(bM ⟨P,w,n⟩ l).1=(bM ⟨P,w',n'⟩ l).1/\Sim (bM ⟨P,w,n⟩ l).2 (bM ⟨P,w',n'⟩ l).2:=by
  unfold bM;split
  ·unfold Lt.eG;simp only[c,ob];split
   ·grind
   ·split
    ·grind
    ·exact⟨rfl,rfl,.inr ⟨show(1:Int)<=2 by decide,show(1:Int)<=2 by decide,by simp⟩⟩
  split
  ·grind [gk]
  split
  ·unfold dP;simp only[c,ob];split
   ·grind
   ·exact⟨rfl,rfl,.inr ⟨show(2:Int)<=2 by decide,show(2:Int)<=2 by decide,by simp⟩⟩
  split
  ·unfold dO;simp only[c,ob];split
   ·grind
   ·exact⟨rfl,rfl,.inr ⟨show(2:Int)<=2 by decide,show(2:Int)<=2 by decide,by simp⟩⟩
  split
  ·unfold Lt.gz;simp only[c,ob];split
   ·grind
   ·exact⟨rfl,rfl,.inl rfl⟩
  grind
 have hp:(cr ⟨P,w,n⟩ l).1=(cr ⟨P,w',n'⟩ l).1/\Sim (cr ⟨P,w,n⟩ l).2 (cr ⟨P,w',n'⟩ l).2:=by
  grind [cr,gm,Lt.jN,Lt.dL,Lt.ma]
 have k:(bq ⟨P,w,n⟩ l).1=(bq ⟨P,w',n'⟩ l).1/\Sim (bq ⟨P,w,n⟩ l).2 (bq ⟨P,w',n'⟩ l).2:=by
  grind [bq]
 grind [aM]
def c3(n:Int):Prop:=n=0\/n=2\/n=3
theorem lf:c3 0:=.inl rfl
theorem IJ:c3 2:=.inr (.inl rfl)
theorem pg:c3 3:=.inr (.inr rfl)
theorem zD(c:Prop)[Decidable c]:c3 (if c then 2 else 0):=by
 grind [IJ,lf]
theorem ZK(r:Lt.Read)(l:List (List UInt8)):c3 (da r l).1:=by
 grind [da,pg,IJ,lf]
theorem ZL(r:Lt.Read)(l:List (List UInt8)):c3 (bM r l).1.2:=by
 unfold bM;split
 ·grind [Lt.eG,pg,IJ,lf]
 split
 ·grind [gk,pg,IJ,lf]
 split
 ·unfold dP;split
  ·exact pg
  ·exact zD _
 split
 ·unfold dO;split
  ·exact pg
  ·exact zD _
 split
 ·unfold Lt.gz;split
  ·exact pg
  ·exact zD _
 ·exact lf
theorem ZM(r:Lt.Read)(l:List (List UInt8)):c3 (cr r l).1.2:=by
 unfold cr;split
 ·unfold gm;split
  ·exact pg
  ·exact zD _
 split
 ·unfold Lt.jN;split
  ·exact pg
  ·exact zD _
 split
 ·unfold Lt.dL;split
  ·exact pg
  ·exact zD _
 grind [Lt.ma,pg,IJ,lf]
theorem VW(r:Lt.Read)(l:List (List UInt8)):c3 (bq r l).1.2:=by
 unfold bq;split
 ·split
  ·exact pg
  split
  ·grind [Lt.sAt,pg,IJ,lf]
  split
  ·unfold Lt.l9;split
   ·exact pg
   ·exact zD _
  grind [uY,lf,pg]
 ·exact lf
theorem NH(r:Lt.Read)(l:List (List UInt8))(b:Bool):c3 (aM r l b).1:=by
 grind [aM,ZK,pg,lf,ZL,ZM,VW]
theorem afN(r:Lt.Read)(l:List (List UInt8))(b:Bool):(Lit.int .i64 (aM r l b).1).wf=true:=by
 rcases NH r l b with e|e|e<;>rw[e]<;>decide
theorem NE(s:List UInt8)(KK:Lt.Program×Int×Int->Prop)(h:KK (oI s)):yZ s KK:=by
 unfold yZ;dsimp only;unfold oI Gc at h;have l1:(gj s).1=(gn s).1.map fun l=>(⟨l.N,l.Words⟩:Lt.Line):=rfl
 have l2:(gj s).2.1=(gn s).2.1:=rfl
 have m:(gj s).2.2=(gn s).2.2:=rfl
 simp only[l1,l2,m,ax,aK,and_self];refine ifk (fun hc=>?_) (fun hc=>?_)
 ·grind
 rw[if_pos (by grind)]at h;have e:=YK s
 generalize(gn s).1=L at h e;rw[ai2];refine fun hl=>?_
 refine au _ L.length (fun i x=>∃r d,x=((i:Int),r)/\r.inv/\Sim r.abs d/\r.first=decide (i=0)/\KK (jW (L.drop i) (decide (i=0)) d)) (fun R i x hi hx k=>?_) (fun R x hx=>?_) _ ⟨_,⟨⟨false,[],[],[],[]⟩,0,0⟩,rfl,⟨?_,by decide,by decide,by decide⟩,⟨rfl,.inr ⟨by decide,by decide,by decide⟩⟩,rfl,h⟩
 ·obtain⟨r,d,rfl,b,hs,hf,hk⟩:=hx;have q:(L.map fun l=>(⟨l.N,l.Words⟩:Lt.Line)).getD i default=⟨(L.getD i default).N,(L.getD i default).Words⟩:=by
   grind
  simp only[aX hi,if_true,Int.toNat_natCast,q];obtain⟨f,c⟩:=e _ (aQ L hi);rw[ajO hi,show L[i]=L.getD i default by grind,jW]at hk;generalize L.getD i default=ln at hk f c⊢;have a:(⟨r.p,ln.N,r.where_,r.first,r.long⟩:Lt.Reader).inv:=b
  obtain⟨w,j,g⟩:=abJ _ ln.Words a;have n:(⟨r.p,ln.N,r.where_,r.first,r.long⟩:Lt.Reader).abs=r.abs:=rfl
  rw[n]at j g;have sl:=YJ hs ln.Words r.first
  rw[<- hf,<- sl.1]at hk;refine⟨⟨ajC i,hi⟩,⟨a,f,c⟩,?_⟩;rw[j];by_cases hz:(aM r.abs ln.Words r.first).1=0
  ·rw[if_pos hz];rw[if_pos hz]at hk;obtain⟨g1,g2⟩:=g hz;refine k _ ⟨_,_,by grind [ac],g1,?_,by rfl,by simpa using hk⟩;obtain⟨o,u⟩:=g2;obtain⟨t,q2⟩:=sl.2;refine⟨o.trans t,?_⟩
   grind
  ·rw[if_neg hz];rw[if_neg hz]at hk;exact⟨_,rfl,afN _ _ _,hk⟩
 ·obtain⟨r,d,rfl,b,hs,hf,hk⟩:=hx;rw[akA,jW]at hk;simp only[l4,ai8,if_false];rw[Ah b.2.1,hs.out];cases ho:d.out with
  |true=>rw[ho,<- hs.1]at hk;exact hk
  |false=>rw[ho]at hk;exact⟨3,rfl,by decide,hk⟩
 ·exact⟨⟨by decide,by decide⟩,⟨by decide,by decide,by decide⟩,⟨rfl,rfl,rfl⟩,fun h=>absurd h (by decide),fun _=>rfl,fun h=>absurd h (by decide)⟩
theorem nj(n:Int):Lt.inR (i64.wrap n):=Af n
def uJ(n:Int)(c:UInt8):Int:=i64.wrap ((i64.wrap (n*10)) - (i64.wrap (((UInt8.ofNat (IntKind.u8.wrap (((c.toNat:Nat):Int) - (((48:UInt8).toNat:Nat):Int))).toNat).toNat:Nat):Int)))
def uy(c:UInt8):Bool:=decide (48<=c.toNat)&&decide (c.toNat<=57)
variable{c:UInt8}
theorem Ql{m:Nat}(h1:48<=c.toNat)(h2:c.toNat<=57)(h3:10*m+(c.toNat - 48)<=9223372036854775808):uJ (-(m:Int)) c=-((10*m+(c.toNat - 48):Nat):Int):=by
 unfold uJ;have a:IntKind.u8.wrap (((c.toNat:Nat):Int) - (((48:UInt8).toNat:Nat):Int))=((c.toNat - 48:Nat):Int):=by
  grind [IntKind.wrap,IntKind.bits]
 rw[a,Int.toNat_natCast];have b:(UInt8.ofNat (c.toNat - 48)).toNat=c.toNat - 48:=by simp;omega
 grind [eX]
theorem ML:∀(n:Nat),n<=9223372036854775808->(Lt.digs n).foldl uJ 0=-(n:Int):=by
 intro n;induction n using Nat.strongRecOn with
 |_ n ih=>
  intro hn;have hd:∀k:Nat,k < 10->(UInt8.ofNat (48+k)).toNat=48+k:=fun k hk=>by simp;omega
  by_cases h:n < 10
  ·rw[iT h];show uJ (-((0:Nat):Int)) _=_
   rw[Ql (by grind) (by grind) (by grind),hd n h];omega
  ·rw[pv h,sF,ih (n / 10) kQ1 kQ1];have:=ak8 n (show 10 > 0 by decide)
   rw[Ql (by grind) (by grind) (by grind),hd _ this];omega
theorem Dg:∀(l:List UInt8)(b:Int),Lt.inR b->Lt.inR (l.foldl uJ b)
 |[],b,h=>h
 |c::l,b,h=>Dg l _ (nj _)
theorem acG(h:∀n,Lt.inR n->aF n≠s):bw s=(0,false):=by
 unfold bw;rw[if_neg];exact h _ (Af _)
theorem DK(h:Lt.inR n)(e:aF n=s):s≠[]/\s.length<=20 /\
  (∀a:Nat,(if decide (s.getD 0 0=45)=true then(1:Int)else 0)=(a:Int)->(s.drop a).all uy=true/\(if decide ((a:Int)=0)=true then i64.wrap (0 - (s.drop a).foldl uJ 0)else(s.drop a).foldl uJ 0)=n):=by
 have hl:=gQ h
 have g:=E0 n.natAbs
 have d:=sC n.natAbs
 unfold Lt.inR at h;have hf:=ML n.natAbs kQ1
 have j:(Lt.digs n.natAbs).all uy=true:=by
  grind [uy]
 refine⟨by grind [wu],by grind,fun a k=>?_⟩;by_cases hn:n < 0
 ·grind [aF]
 ·have c:s=Lt.digs n.natAbs:=by grind [aF]
  have f:¬ s.getD 0 0=45:=by
   intro b;rw[c]at b;cases i:Lt.digs n.natAbs<;>simp_all
  have:a=0:=by
   grind
  grind [eX]
theorem zP(c d:UInt8):decide ((((c.toNat:Nat):Int))=((d.toNat:Nat):Int))=decide (c=d):=by
 grind [UInt8.toNat_inj]
theorem Nl(s:List UInt8)(KK:Int×Bool->Prop)(h:KK (fe s)):GU s KK:=by
 unfold GU;unfold fe at h;have no:(∀n,Lt.inR n->aF n≠s)->KK (0,false):=fun hn=>by grind [acG]
 simp only[zP,ax,aK,cq,jval,bor];refine ifk (fun hc=>no (fun n hn e=>?_)) (fun hc=>?_)
 ·grind [DK]
 simp only[aj6,decide_eq_true_eq,not_or]at hc;have h0:0<s.length:=akH.2 hc.1
 refine⟨⟨by decide,h0⟩,?_⟩;obtain⟨a,k,u⟩:∃a:Nat,(if decide (s.getD 0 0=45)=true then(1:Int)else 0)=(a:Int)/\a<=1:=by
  by_cases t:s.getD 0 0=45
  ·exact⟨1,by grind,ai0 _⟩
  grind
 have d:∀n,Lt.inR n->aF n=s->(s.drop a).all uy=true/\(if decide ((a:Int)=0)=true then i64.wrap (0 - (s.drop a).foldl uJ 0)else(s.drop a).foldl uJ 0)=n:=fun n hn e=>(DK hn e).2.2 a k
 rw[k];refine au _ (s.length-a) (fun i x=>x=((((s.drop a).take i).foldl uJ 0),((a+i:Nat):Int))/\((s.drop a).take i).all uy=true) (fun R i x hi hx m=>?_) (fun R x hx=>?_) _ ⟨rfl,rfl⟩
 ·obtain⟨rfl,c⟩:=hx;have b:a+i<s.length:=by omega
  have f:i < (s.drop a).length:=by grind
  have p:(s.drop a).getD i default=s.getD (a+i) 0:=by grind
  have et:=aB (s.drop a) f
  rw[p]at et;simp only[aX b,if_true,Int.toNat_natCast];have bad:¬ uy (s.getD (a+i) 0)=true->KK (0,false):=fun hd=>no (fun n hn e=>by
   grind)
  have q:(48:UInt8).toNat=48:=rfl
  have o:(57:UInt8).toNat=57:=rfl
  refine fun _=>⟨⟨by omega,b⟩,?_⟩
  refine ifk (fun r=>bad ?_) (fun r=>⟨⟨by omega,b⟩,ifk (fun c2=>bad ?_) (fun c2=>⟨⟨by omega,b⟩,m _ ⟨?_,?_⟩⟩)⟩)
  ·grind [uy]
  ·grind [uy]
  ·rw[et,sF,ac kQ1];rfl
  grind [uy]
 ·obtain⟨rfl,c⟩:=hx;have l:a+(s.length-a)=s.length:=by omega
  have j:(s.drop a).take (s.length-a)=s.drop a:=aj7 (by grind)
  rw[j]at c;rw[l,j];simp only[l4,ai8,if_false];refine fun _=>?_
  have g:Lt.inR (if decide ((a:Int)=0)=true then i64.wrap (0 - (s.drop a).foldl uJ 0)else(s.drop a).foldl uJ 0):=by
   grind [nj,Dg,Lt.inR]
  generalize hv:(if decide ((a:Int)=0)=true then i64.wrap (0 - (s.drop a).foldl uJ 0)else(s.drop a).foldl uJ 0)=v at g d⊢;refine⟨g,?_⟩
  grind [jD]
def yf:List UInt8:=[48,49,50,51,52,53,54,55,56,57,97,98,99,100,101,102]
theorem afW(c:UInt8):iu yf c < 0\/(0<=iu yf c/\iu yf c < 16/\lU (iu yf c).toNat=c):=by
 have:∀k:Fin 256,iu yf (UInt8.ofNat k.1) < 0\/(0<=iu yf (UInt8.ofNat k.1)/\iu yf (UInt8.ofNat k.1) < 16/\lU (iu yf (UInt8.ofNat k.1)).toNat=UInt8.ofNat k.1):=by decide +kernel
 have h:=this ⟨c.toNat,c.toNat_lt⟩
 grind [UInt8.ofNat_toNat]
theorem aaX(k:Nat):¬ iu yf (lU k) < 0:=by
 have:∀j:Fin 16,¬ iu yf (lU j.1) < 0:=by decide +kernel
 have h:=this ⟨k % 16,ak8 _ (by decide)⟩
 grind [lU]
theorem agO{u d:Nat}(f:u < 1152921504606846976)(hd:d < 16) :
  (IntKind.u64.wrap ((BitVec.ofInt IntKind.u64.bits (IntKind.u64.wrap ((u:Int)*2 ^ (min (4:Int).toNat IntKind.u64.bits))) ||| BitVec.ofInt IntKind.u64.bits (IntKind.u64.wrap (d:Int))).toNat:Nat))=((16*u+d:Nat):Int):=by
 have c:(u:Int)*2 ^ (min (4:Int).toNat IntKind.u64.bits)=((u*16:Nat):Int):=by
  rfl
 have w1:IntKind.u64.wrap ((u*16:Nat):Int)=((u*16:Nat):Int):=cH kQ1
 have w2:IntKind.u64.wrap ((d:Nat):Int)=((d:Nat):Int):=cH kQ1
 rw[c,w1,w2];show IntKind.u64.wrap (((BitVec.ofInt 64 ((u*16:Nat):Int) ||| BitVec.ofInt 64 ((d:Nat):Int)).toNat:Nat):Int)=_
 have a:∀n:Nat,BitVec.ofInt 64 ((n:Nat):Int)=BitVec.ofNat 64 n:=fun n=>BitVec.ofInt_natCast ..
 rw[a,a,BitVec.toNat_or,BitVec.toNat_ofNat,BitVec.toNat_ofNat,Nat.mod_eq_of_lt kQ1,Nat.mod_eq_of_lt kQ1];have e:u*16 ||| d=16*u+d:=by
  have:=Nat.shiftLeft_add_eq_or_of_lt (i:=4) (b:=d) kQ1 u
  grind [Nat.shiftLeft_eq]
 rw[e,cH kQ1]
theorem acF(h:∀n,Lt.inR n->oU n≠s):jC s=(0,false):=by
 unfold jC;rw[if_neg];exact fun hc=>h _ (nj _) hc.2
theorem Xc{a b:Nat}(c:a < 18446744073709551616)(hb:b < 18446744073709551616)(h:nT 16 (a:Int) []=nT 16 (b:Int) []):a=b:=by
 grind [we]
theorem Nb(s:List UInt8)(KK:Int×Bool->Prop)(h:KK (zV s)):tK s KK:=by
 unfold tK;unfold zV at h;have no:(∀n,Lt.inR n->oU n≠s)->KK (0,false):=fun hn=>by grind [acF]
 have pre:∀n,oU n=s->mE s [48,102]=(nT 16 (IntKind.u64.wrap (cY n)) [],true):=by
  intro n e;rw[<- e];rfl
 have m:∀n,(nT 16 (IntKind.u64.wrap (cY n)) []).length=16/\∀c∈nT 16 (IntKind.u64.wrap (cY n)) [],¬ iu yf c < 0:=by
  intro n;refine⟨by rfl,?_⟩;rw[iE,yw 16 _ [] (BitVec.isLt _)];intro c hc;rw[alB]at hc;obtain⟨i,_,rfl⟩:=ajK.1 hc;exact aaX _
 have hp:(mE s [48,102]).2=true->s=[48,102]++(mE s [48,102]).1:=by
  unfold mE Go.Lib.trimPrefix;intro hp;have hp:Go.Lib.hasPrefix s [48,102]=true:=hp
  rw[if_pos hp];obtain⟨t,D⟩:=List.isPrefixOf_iff_prefix.1 hp
  grind
 change tK s KK
 unfold tK;rw[show([48,49,50,51,52,53,54,55,56,57,97,98,99,100,101,102]:List UInt8)=yf from rfl];generalize mE s [48,102]=z at pre hp⊢;obtain⟨rest,ok⟩:=z;simp only at hp⊢
 simp only[ax,aK,cq,jval,bor];refine ifk (fun hc=>no (fun n hn e=>?_)) (fun hc=>?_)
 ·grind
 simp only[aj6,ajQ,decide_eq_false_iff_not,not_or,Decidable.not_not,ajU]at hc;have hs:=hp hc.1
 have y:rest.length=16:=by omega
 refine fun _=>?_
 refine au _ 16 (fun i x=>∃u:Nat,x=((u:Int),(i:Int))/\u < 16 ^ i/\∀l,nT i (u:Int) l=rest.take i++l) (fun R i x hi hx q=>?_) (fun R x hx=>?_) _ ⟨0,rfl,by decide,fun l=>rfl⟩
 ·obtain⟨u,rfl,j,hl⟩:=hx;have b:i<rest.length:=by omega
  have et:rest.take (i+1)=rest.take i++[rest.getD i 0]:=aB rest b
  have C:rest.getD i 0∈rest:=aQ rest b
  simp only[aX b,if_true,Int.toNat_natCast];refine⟨⟨ajC i,b⟩,ifk (fun a=>no (fun n hn e=>?_)) (fun a=>⟨by decide,q _ ?_⟩)⟩
  ·grind
  ·rcases afW (rest.getD i 0)with p|⟨v,g,hd⟩
   ·grind
   have o:16 ^ i<=16 ^ 15:=Nat.pow_le_pow_right (by decide) kQ1
   have w:(16:Nat) ^ 15=1152921504606846976:=by decide
   obtain⟨d,k⟩:=ak1 v;rw[k]at hd g⊢;rw[Int.toNat_natCast]at hd;refine⟨16*u+d,?_,?_,fun l=>?_⟩
   ·grind [agO,ac]
   ·omega
   ·rw[nT,show Int.tdiv ((16*u+d:Nat):Int) 16=(((16*u+d) / 16:Nat):Int)from rfl,show(16*u+d) / 16=u by omega,cH kQ1,hl,E8];have:lU (16*u+d)=lU d:=by unfold lU;congr 1;omega
    grind
 ·obtain⟨u,rfl,j,hl⟩:=hx;have A:(16:Nat) ^ 16=18446744073709551616:=by decide
  have j:u < 18446744073709551616:=by omega
  have hr:=hl []
  rw[alB,aj7 kQ1]at hr;have E:IntKind.u64.wrap (i64.wrap (u:Int))=(u:Int):=by
   grind [IntKind.wrap,IntKind.signed,IntKind.bits]
  have B:∀n:Int,Lt.inR n->i64.wrap (IntKind.u64.wrap n)=n:=by
   grind [Lt.inR,IntKind.wrap,IntKind.signed,IntKind.bits]
  rw[show decide (((16:Nat):Int) < (rest.length:Int))=false by grind];simp only[ai8,if_false];by_cases a:(!decide (Lt.Plain (i64.wrap (u:Int))=i64.wrap (u:Int)))=true
  ·rw[if_pos a];refine no (fun n hn e=>?_);have f:=pre n e
   simp only[Prod.mk.injEq]at f;have h1:=f.1
   rw[<- hr,iE]at h1;have h2:=Xc j (BitVec.isLt _) h1
   have h3:i64.wrap (u:Int)=cY n:=by
    grind [iE,DR]
   have h4:cY (cY n)=cY n:=by
    grind [cY]
   grind [kM]
  ·rw[if_neg a];have r:Lt.Plain (i64.wrap (u:Int))=i64.wrap (u:Int):=by grind
   have e:oU (i64.wrap (u:Int))=s:=by
    grind [oU,kM]
   grind [uZ,nj,kM]
theorem Uc(h:(bw s).2=true):s≠[]/\∀c∈s,c=45\/(48<=c.toNat/\c.toNat<=57):=by
 grind [wN,wu,jz]
theorem Lg:Lt.inR (bw s).1:=by
 unfold bw;split
 ·exact Af _
 grind [Lt.inR]
theorem wM(h:(jC s).2=true):(∃r,s=48::102::r)/\Lt.Plain (jC s).1=(jC s).1/\fa (jC s).1=s:=by
 unfold jC at h⊢;split at h
 ·rename_i hc;rw[if_pos hc];have e:=uZ (n:=Le s) (nj _)
  rw[hc.2]at e;unfold jC at e;rw[if_pos hc]at e;simp only[Prod.mk.injEq,and_true]at e;refine⟨⟨_,by rw[<- hc.2];rfl⟩,by grind [kM],?_⟩
  grind [zW]
 grind
theorem YD:Lt.inR (jC s).1:=by
 unfold jC;split
 ·exact nj _
 grind [Lt.inR]
theorem Yz:aW ⟨5,[],n⟩=true ↔ 0<=n/\n<=999:=by
 grind [aW]
theorem acE(s:List UInt8):Lt.cZ s=if Lt.Name s=true then(⟨1,s,0⟩,true)else if(bw s).2=true then(⟨2,[],(bw s).1⟩,true)else if(jC s).2=true then(⟨3,[],(jC s).1⟩,true)
  else if s=[110,117,108,108]then(⟨4,[],0⟩,true)else if s.getD 0 0=35/\(bw (s.drop 1)).2=true/\0<=(bw (s.drop 1)).1/\(bw (s.drop 1)).1<=999 then(⟨5,[],(bw (s.drop 1)).1⟩,true)else(⟨0,[],0⟩,false):=by
 unfold Lt.cZ;rw[YU];have a:oA s ⟨2,[],(bw s).1⟩=(bw s).2:=by
  rw[Bool.eq_iff_iff,fD,LK];constructor
  ·grind [jD,Lg]
  ·intro h;exact⟨rfl,wN h⟩
 have t3:oA s ⟨3,[],(jC s).1⟩=(jC s).2:=by
  rw[Bool.eq_iff_iff,fD];constructor
  ·intro ⟨hr,e⟩;have hp:Lt.Plain (jC s).1=(jC s).1:=by grind [aW]
   rw[Ek hp,<- zW]at e
   grind [uZ,YD]
  grind [wM,aW,Ek]
 have t4:oA s ⟨4,[],0⟩=decide (s=[110,117,108,108]):=by
  rw[Bool.eq_iff_iff,fD,Y3,decide_eq_true_eq];exact⟨fun h=>h.2.symm,fun h=>⟨rfl,h.symm⟩⟩
 have t5:oA s ⟨5,[],(bw (s.drop 1)).1⟩=decide (s.getD 0 0=35/\(bw (s.drop 1)).2=true/\0<=(bw (s.drop 1)).1/\(bw (s.drop 1)).1<=999):=by
  rw[Bool.eq_iff_iff,fD,decide_eq_true_eq];constructor
  ·grind [Yz,LL,jD,Lg]
  ·intro ⟨h1,h2,h3,h4⟩;refine⟨Yz.2 ⟨h3,h4⟩,?_⟩;rw[LL h3 h4,wN h2];cases s<;>grind
 grind
theorem Kc(s:List UInt8)(KK:Lt.Arg×Bool->Prop)(h:KK (rv s)):CS s KK:=by
 unfold CS;unfold rv at h;rw[acE]at h;have j:(s.drop 1).take (s.length - 1)=s.drop 1:=aj7 (by grind)
 have b:(bw s).2=true->∃a r,s=a::r/\(a=45\/(48<=a.toNat/\a.toNat<=57))/\∀c∈r,c=45\/(48<=c.toNat/\c.toNat<=57):=by
  intro hn;obtain⟨h1,h2⟩:=Uc hn;cases s<;>grind
 rw[j];unfold fe;simp only[zP];refine ifk (fun d=>?_) (fun d=>ifk (fun c2=>?_) (fun c2=>ifk (fun c3=>?_) (fun c3=>?_)))
 ·have d:s=[]:=by grind
  subst d;exact kk h (by decide +kernel)
 ·have c2:s=[110,117,108,108]:=by grind
  subst c2;exact kk h (by decide +kernel)
 ·grind
 have d:s≠[]:=by grind
 have c2:¬ s=[110,117,108,108]:=by grind
 rw[if_neg c3,if_neg c2]at h;refine⟨⟨by decide,akH.2 d⟩,ifk (fun c4=>⟨by decide,⟨by grind,ai0 _⟩,?_⟩) (fun c4=>?_)⟩
 ·have c4:s.getD 0 0=35:=by grind
  have f:¬ (bw s).2=true:=by
   intro hn;obtain⟨a,r,rfl,n,_⟩:=b hn
   simp_all
  have n2:¬ (jC s).2=true:=by
   grind [wM]
  rw[if_neg f,if_neg n2]at h;simp only[ax,cq,jval,bor]
  grind
 ·have c4:¬ s.getD 0 0=35:=by grind
  refine kk h ?_;unfold lb;have m:¬ (s.getD 0 0=35/\(bw (s.drop 1)).2=true/\0<=(bw (s.drop 1)).1/\(bw (s.drop 1)).1<=999):=fun i=>c4 i.1
  by_cases f:(bw s).2=true
  ·have n2:¬ (jC s).2=true:=by
    intro hn;obtain⟨⟨r,e⟩,_⟩:=wM hn;obtain⟨a,l,k,_,g⟩:=b f
    simp_all
   grind
  grind
theorem S8(c:UInt8)(KK:Bool->Prop)(h:KK (Lt.blank c)):O3 c KK:=by
 unfold O3;unfold Lt.blank at h;simp only[zP]
 grind
theorem Ni(s:List UInt8)(hp:DV s)(KK:List (List UInt8)×Bool->Prop)(h:KK (dw s)):GP s KK:=by
 have hp:s.length<=1099511627776:=hp
 unfold GP;dsimp only;unfold dw at h;refine au _ (s.length+1) (fun i x=>(i<=s.length/\∃out f w,x=(out,f,(i:Int))/\((f=-1/\w=[])\/∃j:Nat,f=(j:Int)/\j<i/\w=(s.drop j).take (i-j))/\out.length<=i/\KK (jf (s.drop i) w out))\/(i=s.length+1/\∃out f,x=(out,f,(i:Int))/\KK (out,true))) (fun R i x hi hx k=>?_) (fun R x hx=>?_) _ (Or.inl ⟨ajW _,[],-1,[],rfl,.inl ⟨rfl,rfl⟩,ai0 _,h⟩)
 ·rcases hx with⟨hi,out,f,w,rfl,hw,ho,hk⟩|⟨e,_⟩
  ·simp only[show decide ((i:Int)<=(s.length:Int))=true by grind,if_true,Int.toNat_natCast];refine fun _ n c=>?_
   have w1:i64.wrap ((i:Int)+1)=((i+1:Nat):Int):=ac kQ1
   rw[w1]at c;have push:∀B:List (List UInt8)->Prop,B (if w=[]then out else out++[w])->aa (α:=List (List UInt8)) (fun l=>if(decide (0<=f))=true then((0:Int)<=f/\(0:Int)<=(i:Int)/\(f.toNat<=i/\i<=s.length)/\(out.length+[(s.drop f.toNat).take (i-f.toNat)].length<=4611686018427387904/\(out.length+[(s.drop f.toNat).take (i-f.toNat)].length)*16<=140737488355328)/\l (out++[(s.drop f.toNat).take (i-f.toNat)]))else(l out)) B:=by
    intro B q J r;rcases hw with⟨rfl,rfl⟩|⟨j,rfl,hj,rfl⟩
    all_goals grind (splits:=20) [ai6]
   have p:(if w=[]then out else out++[w]).length<=i+1:=by
    grind
   by_cases he:i=s.length
   ·refine fun o b=>?_
    rw[show decide ((i:Int)=(s.length:Int))=true from decide_eq_true kQ1];refine fun _=>(b true ?_)
    simp only[if_true];refine push _ (c _ (k _ (.inr ⟨by omega,_,_,rfl,?_⟩)));rw[he,akA]at hk;exact hk
   have a:i<s.length:=by omega
   have hd:s.drop i=s.getD i 0::s.drop (i+1):=by
    grind [ajO]
   have et:∀j,j<=i->(s.drop j).take (i+1-j)=(s.drop j).take (i-j)++[s.getD i 0]:=by
    intro j hj;have:=aB (s.drop j) (i:=i-j) (by grind)
    grind
   rw[hd,jf]at hk;rw[show decide ((i:Int)=(s.length:Int))=false from decide_eq_false kQ1];refine fun o b=>fun _=>⟨⟨by omega,a⟩,b _ ?_⟩
   refine ifk (fun hb=>?_) (fun hb=>?_)
   ·grind
   ·rw[if_neg hb]at hk;have g:(32:UInt8).toNat=32:=rfl
    have d:(126:UInt8).toNat=126:=rfl
    have bad:(s.getD i 0).toNat<=32\/126 < (s.getD i 0).toNat->KK ([],false):=fun hc=>by grind
    simp only[aK,cq,ax,jval,g,d];refine⟨⟨by omega,a⟩,ifk (fun m=>?_) (fun m=>⟨⟨by omega,a⟩,ifk (fun c2=>?_) (fun c2=>?_)⟩)⟩
    ·grind
    ·grind
    rw[decide_eq_true_eq]at m c2;rw[if_neg kQ1]at hk;have fin:∀f:Int,(∃j:Nat,f=(j:Int)/\j<i+1/\w++[s.getD i 0]=(s.drop j).take (i+1-j))->n (out,f):=fun f hf=>c _ (k _ (.inl ⟨by omega,_,_,_,rfl,.inr hf,by grind,hk⟩))
    rcases hw with⟨rfl,rfl⟩|⟨j,rfl,hj,rfl⟩
    all_goals grind
  ·omega
 grind
theorem wg(c:UInt8):∀a b:List UInt8,(∀x∈a,x≠c)->Go.Lib.index (a++c::b) [c]=(a.length:Int)
 |[],b,_=>by grind [Go.Lib.index]
 |x::a,b,h=>by
  have ih:=wg c a b (fun y hy=>h y (by simp[hy]))
  grind [Go.Lib.index]
theorem Ap(c:UInt8):∀a:List UInt8,(∀x∈a,x≠c)->Go.Lib.index a [c]=-1
 |[],_=>by rfl
 |x::a,h=>by
  have ih:=Ap c a (fun y hy=>h y (by simp[hy]))
  grind [Go.Lib.index]
theorem vT(c:UInt8):∀s:List UInt8,(∀x∈s,x≠c)\/∃a b,s=a++c::b/\∀x∈a,x≠c
 |[]=>.inl (by simp)
 |x::s=>by
  by_cases hx:x=c
  ·subst hx;exact .inr ⟨[],s,rfl,by simp⟩
  ·have d:∀a:List UInt8,(∀y∈a,y≠c)->∀y∈x::a,y≠c:=fun a h y hy=>(ai7.1 hy).elim (fun e=>e ▸ hx) (h y)
   rcases vT c s with h|⟨a,b,rfl,h⟩
   all_goals grind
theorem wa(h:∀x∈s,x≠c):fy s [c]=[s]:=by
 unfold fy;rw[Go.Lib.splitB_data];have:Go.Lib.countB ⟨s.toArray⟩ ⟨[c].toArray⟩=0:=Go.Lib.count_miss (by grind [Ap])
 rw[this];rfl
variable{a:List UInt8}
theorem Ac{b:List UInt8}(h:∀x∈a,x≠c):fy (a++c::b) [c]=a::fy b [c]:=by
 unfold fy;rw[Go.Lib.splitB_data,Go.Lib.splitB_data];have hi:Go.Lib.index (a++c::b) [c]=(a.length:Int):=wg c a b h
 have hc:Go.Lib.countB ⟨(a++c::b).toArray⟩ ⟨[c].toArray⟩=1+Go.Lib.countB ⟨b.toArray⟩ ⟨[c].toArray⟩:=by
  have:=Go.Lib.count_hit (s:=a++c::b) (sub:=[c]) (i:=a.length) (by simp) hi
  simp_all
 rw[hc,Nat.add_comm,Go.Lib.splitK]
 simp_all
abbrev front(l:List UInt8):List UInt8:=(W3 l [59]).1
theorem zY{l:List UInt8}(h:∀x∈l,x≠59):front l=l:=by
 grind [W3,Go.Lib.cut,Ap]
theorem vY{b:List UInt8}(h:∀x∈a,x≠59):front (a++59::b)=a:=by
 simp_all[front,W3,Go.Lib.cut,wg]
theorem C7:∀(l:List UInt8)(k:Lt.Cut),k.bad=true->(l.foldl Lt.Cut.byte k).bad=true
 |[],k,h=>h
 |c::l,k,h=>by
  refine C7 l _ ?_
  grind [Lt.Cut.byte,Lt.Cut.word]
theorem qz:∀(l:List UInt8)(k:Lt.Cut),(l.foldl Lt.Cut.byte k).out=k.out/\(l.foldl Lt.Cut.byte k).n=k.n
 |[],k=>⟨rfl,rfl⟩
 |c::l,k=>by
  have ih:=qz l (k.byte c)
  grind [Lt.Cut.byte,Lt.Cut.word]
theorem nB:∀(l:List UInt8)(k:Lt.Cut),k.remark=true->k.w=[]->(l.foldl Lt.Cut.byte k).word.l=k.l/\(l.foldl Lt.Cut.byte k).bad=k.bad
 |[],k,h,hw=>⟨by grind [Lt.Cut.word],rfl⟩
 |c::l,k,h,hw=>by
  have e:k.byte c=k:=by
   obtain⟨o,L,w,n,r,b⟩:=k
   grind [Lt.Cut.byte,Lt.Cut.word]
  rw[akO,e];exact nB l k h hw
theorem gX:∀(l:List UInt8)(k:Lt.Cut),(∀x∈l,x≠59)->k.remark=false->k.bad=false ->
  (l.foldl Lt.Cut.byte k).remark=false/\(l.foldl Lt.Cut.byte k).bad=!(jf l k.w k.l).2/\((jf l k.w k.l).2=true->(l.foldl Lt.Cut.byte k).word.l=(jf l k.w k.l).1)
 |[],k,_,hr,hb=>by
  refine⟨hr,by grind [jf],fun _=>?_⟩;rfl
 |c::l,k,h,hr,hb=>by
  have f:¬ c=59:=h c (by simp)
  have h':∀x∈l,x≠59:=fun x hx=>h x (by simp[hx])
  rw[akO,jf];by_cases b:Lt.blank c=true
  ·rw[if_pos b];have e:k.byte c=k.word:=by
    grind [Lt.Cut.byte,Lt.blank]
   rw[e];exact gX l k.word h' hr hb
  ·rw[if_neg b];have e:k.byte c={ k with bad:=k.bad||(decide (c.toNat < 33)||decide (126<c.toNat)),w:=k.w++[c] }:=by
    grind [Lt.Cut.byte,Lt.blank]
   rw[e];by_cases hc:c.toNat<=32\/126<c.toNat
   ·rw[if_pos hc];have a:(decide (c.toNat < 33)||decide (126<c.toNat))=true:=by grind
    rw[hb,a];refine⟨?_,?_,fun h=>by simp at h⟩
    ·have d:∀(l:List UInt8)(k:Lt.Cut),(∀x∈l,x≠59)->k.remark=false->(l.foldl Lt.Cut.byte k).remark=false:=by
      intro l;induction l<;>grind [Lt.Cut.byte,Lt.Cut.word]
     grind
    grind [C7]
   ·rw[if_neg hc];have a:(decide (c.toNat < 33)||decide (126<c.toNat))=false:=by grind
    rw[hb,a];exact gX l ⟨k.out,k.l,k.w++[c],k.n,k.remark,false⟩ h' hr rfl
theorem zC(l:List UInt8)(out:List Lt.RLine)(n:Int):(l.foldl Lt.Cut.byte ⟨out,[],[],n,false,false⟩).bad=!(dw (front l)).2 /\
  ((dw (front l)).2=true->(l.foldl Lt.Cut.byte ⟨out,[],[],n,false,false⟩).line=⟨if(dw (front l)).1=[]then out else out++[⟨n,(dw (front l)).1⟩],[],[],n+1,false,false⟩):=by
 have fin:∀k:Lt.Cut,k.out=out->k.n=n->k.bad=!(dw (front l)).2->((dw (front l)).2=true->k.word.l=(dw (front l)).1)->k.bad=!(dw (front l)).2/\((dw (front l)).2=true->k.line=⟨if(dw (front l)).1=[]then out else out++[⟨n,(dw (front l)).1⟩],[],[],n+1,false,false⟩):=by
  grind [Lt.Cut.line]
 have ho:=qz l ⟨out,[],[],n,false,false⟩
 refine fin _ ho.1 ho.2 ?_ ?_
 ·rcases vT 59 l with h|⟨a,b,rfl,h⟩
  ·rw[zY h];exact(gX l ⟨out,[],[],n,false,false⟩ h rfl rfl).2.1
  ·rw[vY h,List.foldl_append,akO];obtain⟨h1,h2,h3⟩:=gX a ⟨out,[],[],n,false,false⟩ h rfl rfl;have e:(a.foldl Lt.Cut.byte ⟨out,[],[],n,false,false⟩).byte 59={ (a.foldl Lt.Cut.byte ⟨out,[],[],n,false,false⟩).word with remark:=true }:=by
    rfl
   rw[e,(nB b _ rfl rfl).2];exact h2
 ·rcases vT 59 l with h|⟨a,b,rfl,h⟩
  ·rw[zY h];exact(gX l ⟨out,[],[],n,false,false⟩ h rfl rfl).2.2
  ·rw[vY h,List.foldl_append,akO];obtain⟨h1,h2,h3⟩:=gX a ⟨out,[],[],n,false,false⟩ h rfl rfl;have e:(a.foldl Lt.Cut.byte ⟨out,[],[],n,false,false⟩).byte 59={ (a.foldl Lt.Cut.byte ⟨out,[],[],n,false,false⟩).word with remark:=true }:=by
    rfl
   rw[e,(nB b _ rfl rfl).1];exact h3
theorem vO:∀(l r:List UInt8)(k:Lt.Cut),(∀x∈l,x≠10)->cJ (l++r) k=cJ r (l.foldl Lt.Cut.byte k)
 |[],r,k,_=>rfl
 |c::l,r,k,h=>by
  rw[akV,cJ,if_neg (h c (by simp)),vO l r _ (fun x hx=>h x (by simp[hx]))];rfl
def oe:List (List UInt8)->Int->List Lt.RLine->List Lt.RLine×Int×Int
 |[],_,out=>(out,0,0)
 |l::r,n,out=>if(dw (front l)).2 then oe r (n+1) (if(dw (front l)).1=[]then out else out++[⟨n,(dw (front l)).1⟩])else([],n,3)
theorem Mw:∀(m:Nat)(s:List UInt8)(n:Int)(out:List Lt.RLine),s.length<=m->cJ s ⟨out,[],[],n,false,false⟩=oe (fy s [10]) n out:=by
 intro m;induction m with
 |zero=>
  intro s n out hs;have:s=[]:=List.length_eq_zero_iff.1 kQ1
  subst this;rfl
 |succ m ih=>
  intro s n out hs;rcases vT 10 s with h|⟨a,b,rfl,h⟩
  ·rw[wa h];have:=vO s [] ⟨out,[],[],n,false,false⟩ h
   grind [cJ,oe,zC,qz]
  grind [Ac,vO,cJ,oe,zC,qz]
theorem MV:∀(m:Nat)(s:List UInt8),s.length<=m->(fy s [10]).length<=s.length+1/\∀l∈fy s [10],l.length<=s.length:=by
 intro m;induction m with
 |zero=>
  grind [wa]
 |succ m ih=>
  intro s hs;rcases vT 10 s with h|⟨a,b,rfl,h⟩
  all_goals grind [wa,Ac]
theorem SK(l:List UInt8):(front l).length<=l.length:=by
 rcases vT 59 l with h|⟨a,b,rfl,h⟩
 all_goals grind [zY,vY]
theorem Nh(s:List UInt8)(KK:List Lt.Line×Int×Int->Prop)(h:KK (gj s)):GO s KK:=by
 unfold GO;dsimp only;unfold gj gn at h;refine fun _=>ifk (fun hc=>?_) (fun hc=>?_)
 ·grind
 have hs:s.length<=4194304:=by grind
 rw[if_neg kQ1,Mw _ s 1 [] (ai0 _)]at h;obtain⟨b,a⟩:=MV _ s (ai0 _);generalize fy s [10]=L at h b a⊢;refine⟨⟨by omega,by decide⟩,fun _=>?_⟩;refine au _ L.length (fun i x=>∃out:List Lt.RLine,x=(out.map fun l=>(⟨l.N,l.Words⟩:Lt.Line),(i:Int))/\out.length<=i/\KK ((oe (L.drop i) ((i:Int)+1) out).1.map fun l=>(⟨l.N,l.Words⟩:Lt.Line),(oe (L.drop i) ((i:Int)+1) out).2.1,(oe (L.drop i) ((i:Int)+1) out).2.2)) (fun R i x hi hx g=>?_) (fun R x hx=>?_) _ ⟨[],rfl,ai0 _,by grind⟩
 ·obtain⟨out,rfl,ho,hk⟩:=hx;simp only[aX hi,if_true,Int.toNat_natCast];have d:=a _ (aQ L hi)
  have hd:L.drop i=L.getD i default::L.drop (i+1):=by
   grind [ajO]
  rw[hd,oe]at hk;have e:=SK (L.getD i default)
  simp only[show i64.wrap ((i:Int)+1)=((i:Int)+1)from eX kQ1 kQ1,aK,cq,aR,ax,bb];refine⟨⟨by omega,hi⟩,by show(L.getD i default).length < 4294967281;omega,by show(front (L.getD i default)).length<=1099511627776;omega,?_⟩;by_cases c:(dw (front (L.getD i default))).2=true
  ·rw[if_pos c]at hk;refine ifk (fun hc=>by grind) (fun _=>fun _=>?_);refine ifk (fun hc=>?_) (fun hc=>?_)
   ·grind
   ·have f:(dw (front (L.getD i default))).1=[]:=by
     simp_all
    grind
  grind
 grind [oe]
def U5(a:Int)(KK:(List UInt8)->Prop):Prop:=
 (l5 a)/\KK (aF a)
def GN(b:Int)(KK:(List UInt8)->Prop):Prop:=
 have d:=([48,49,50,51,52,53,54,55,56,57,97,98,99,100,101,102]:List UInt8);ab (α:=List UInt8×Int) (fun e a=>have c:=(IntKind.u64.wrap ((BitVec.ofInt IntKind.u64.bits (Int.fdiv (IntKind.u64.wrap (Lt.Plain b)) (2 ^ (min (IntKind.u64.wrap a.2).toNat IntKind.u64.bits))) &&& BitVec.ofInt IntKind.u64.bits 15).toNat:Nat));have z3:=([(d.getD c.toNat 0)]:List UInt8);if(decide (0<=a.2))=true then((0:Int)<=(IntKind.u64.wrap a.2)/\((0:Int)<=c/\c.toNat<d.length)/\(a.1.length+z3.length<=4611686018427387904/\(a.1.length+z3.length)*1<=140737488355328)/\e ((a.1++z3),(i64.wrap (a.2 - 4))))else(KK a.1)) ([(48:UInt8),(102:UInt8)],60)
def CU(a:Lt.Arg)(KK:(List UInt8)->Prop):Prop:=
 if(!(aW a))=true then(KK ([]:List UInt8))else(if(decide (a.Kind=2))=true then((l5 a.N)/\KK (aF a.N))else(if(decide (a.Kind=3))=true then(KK (fa a.N))else(if(decide (a.Kind=4))=true then(KK [110,117,108,108])else(if(decide (a.Kind=5))=true then((l5 a.N)/\[35].length+(aF a.N).length<=4611686018427387904/\KK ([35]++(aF a.N)))else(KK a.S)))))
def U6(a:List Lt.Arg)(KK:(List (List UInt8))->Prop):Prop:=
 (a.length<=4611686018427387904->ab (α:=List (List UInt8)×Int) (fun c b=>if(decide (b.2 < (a.length:Int)))=true then(((0:Int)<=b.2/\b.2.toNat<a.length)/\(kP (a.getD b.2.toNat default))/\(b.1.length+([(al (a.getD b.2.toNat default))]:List (List UInt8)).length<=4611686018427387904/\(b.1.length+([(al (a.getD b.2.toNat default))]:List (List UInt8)).length)*16<=140737488355328)/\c ((b.1++([(al (a.getD b.2.toNat default))]:List (List UInt8))),(i64.wrap (b.2+1))))else(KK b.1)) ([],0))
def xb(b:Lt.Sheet)(a:List (List UInt8))(KK:((Unit)×Lt.Sheet)->Prop):Prop:=
 (b.l.length+([(Lt.Line.mk 0 a)]:List Lt.Line).length<=4611686018427387904/\(b.l.length+([(Lt.Line.mk 0 a)]:List Lt.Line).length)*32<=140737488355328)/\KK ((),(Lt.Sheet.mk (b.l++([(Lt.Line.mk 0 a)]:List Lt.Line))))
def xc(d:Lt.Sheet)(b:List UInt8)(a:List Lt.Var)(KK:((Unit)×Lt.Sheet)->Prop):Prop:=
 (a.length<=4611686018427387904->ab (α:=Int×Lt.Sheet) (fun e c=>if(decide (c.1 < (a.length:Int)))=true then(((0:Int)<=c.1/\c.1.toNat<a.length)/\(bB c.2 [b,(a.getD c.1.toNat default).Name,(a.getD c.1.toNat default).Type_])/\e ((i64.wrap (c.1+1)),((aV c.2 [b,(a.getD c.1.toNat default).Name,(a.getD c.1.toNat default).Type_]).2)))else(KK ((),c.2))) (0,d))
def xa(f:Lt.Sheet)(a:Lt.Instr)(KK:((Unit)×Lt.Sheet)->Prop):Prop:=
 have h:=([a.Name]:List (List UInt8));have o:=([((Lt.puts a.Args).getD 0 default),a.Name]:List (List UInt8));have z4:=([((Lt.Of a.Op).1).Word]:List (List UInt8));aa (α:=List (List UInt8)) (fun u=>if(((Lt.Of a.Op).1).Dst)=true then((([]:List (List UInt8)).length+([a.Dst,[61]]:List (List UInt8)).length<=4611686018427387904/\(([]:List (List UInt8)).length+([a.Dst,[61]]:List (List UInt8)).length)*16<=140737488355328)/\u [a.Dst,[61]])else(u [])) (fun d=>(d.length+z4.length<=4611686018427387904/\(d.length+z4.length)*16<=140737488355328)/\(FT a.Args)/\aa (α:=List (List UInt8)×List (List UInt8)) (fun p=>aa (α:=Bool) (fun w=>if(decide (a.Op=26))=true then(w true)else(w (decide (a.Op=27)))) (fun x=>if x=true then(((0:Int)<=0/\0 < (Lt.puts a.Args).length)/\((d++z4).length+o.length<=4611686018427387904/\((d++z4).length+o.length)*16<=140737488355328)/\(0:Int)<=1/\(1<=(Lt.puts a.Args).length/\(Lt.puts a.Args).length<=(Lt.puts a.Args).length)/\p (((d++z4)++o),(((Lt.puts a.Args).drop 1).take ((Lt.puts a.Args).length - 1))))else(if(((Lt.Of a.Op).1).Named)=true then(((d++z4).length+h.length<=4611686018427387904/\((d++z4).length+h.length)*16<=140737488355328)/\p (((d++z4)++h),(Lt.puts a.Args)))else(p ((d++z4),(Lt.puts a.Args)))))) (fun v4=>(v4.1.length+v4.2.length<=4611686018427387904/\(v4.1.length+v4.2.length)*16<=140737488355328)/\(bB f (v4.1++v4.2))/\(a.Frames.length<=4611686018427387904->ab (α:=Int×Lt.Sheet) (fun y g=>have e:=a.Frames.getD g.1.toNat default;if(decide (g.1 < (a.Frames.length:Int)))=true then(((0:Int)<=g.1/\g.1.toNat<a.Frames.length)/\aa (α:=List (List UInt8)) (fun z=>have z5:=(l5 (e.At))/\z [[97,116],e.Func,e.Block,(Lt.number (e.At))];(z5/\z5)/\(z5/\z5)/\z5) (fun t=>((e.Vars).length<=4611686018427387904->ab (α:=List (List UInt8)×Int) (fun m b=>have i:=(e.Vars).getD b.2.toNat default;have z3:=([i.Name,(al (i.A))]:List (List UInt8));if(decide (b.2 < ((e.Vars).length:Int)))=true then(aa (α:=List (List UInt8)) (fun n=>have v:=(kP (i.A))/\(b.1.length+z3.length<=4611686018427387904/\(b.1.length+z3.length)*16<=140737488355328)/\n (b.1++z3);((0:Int)<=b.2/\b.2.toNat < (e.Vars).length)/\v/\v) (fun r=>m (r,(i64.wrap (b.2+1)))))else((bB g.2 b.1)/\y ((i64.wrap (g.1+1)),((aV g.2 b.1).2)))) (t,0))))else((a.Objs.length<=4611686018427387904->ab (α:=Int×Lt.Sheet) (fun s c=>have j:=a.Objs.getD c.1.toNat default;have z9:=([[111,98,106],j.Class]:List (List UInt8));if(decide (c.1 < (a.Objs.length:Int)))=true then(aa (α:=Lt.Sheet) (fun q=>have k:=((FT (j.Vals))/\(z9.length+(Lt.puts (j.Vals)).length<=4611686018427387904/\(z9.length+(Lt.puts (j.Vals)).length)*16<=140737488355328)/\(bB c.2 (z9++(Lt.puts (j.Vals))))/\q ((aV c.2 (z9++(Lt.puts (j.Vals)))).2));((0:Int)<=c.1/\c.1.toNat<a.Objs.length)/\(k/\(k/\k))/\((k/\k)/\k)) (fun l=>s ((i64.wrap (c.1+1)),l)))else(KK ((),c.2))) (0,g.2)))) (0,((aV f (v4.1++v4.2)).2)))))
def yU(b:Lt.Sheet)(a:Lt.Term)(KK:((Unit)×Lt.Sheet)->Prop):Prop:=
 have z5:=a.To.getD 0 default;have z4:=((0:Int)<=1/\1<a.To.length);have z3:=((0:Int)<=0/\0<a.To.length);have c:=bB b [[98,114,97,110,99,104],(al a.A),z5,(a.To.getD 1 default)];have d:=(aV b [[98,114,97,110,99,104],(al a.A),z5,(a.To.getD 1 default)]).2;if(decide (a.Kind=1))=true then(z3/\(bB b [[106,117,109,112],z5])/\KK ((),((aV b [[106,117,109,112],z5]).2)))else(if(decide (a.Kind=2))=true then(((kP a.A)/\z3/\z4/\c/\KK ((),d))/\(z3/\((kP a.A)/\z4/\c/\KK ((),d))/\(z4/\(kP a.A)/\c/\KK ((),d)))/\(z4/\((kP a.A)/\z3/\c/\KK ((),d))/\(z3/\(kP a.A)/\c/\KK ((),d))))else(if(decide (a.Kind=3))=true then((kP a.A)/\(bB b [[114,101,116],(al a.A)])/\KK ((),((aV b [[114,101,116],(al a.A)]).2)))else((l5 a.N)/\(bB b [[116,114,97,112],(aF a.N)])/\KK ((),((aV b [[116,114,97,112],(aF a.N)]).2)))))
def oL(e:Lt.Sheet)(a:Lt.Func)(KK:((Unit)×Lt.Sheet)->Prop):Prop:=
 have z4:=(aV e [[102,117,110,99],a.Name,a.Result]).2;(bB e [[102,117,110,99],a.Name,a.Result])/\(jg z4 [112,97,114,97,109] a.Params)/\(jg ((dj z4 [112,97,114,97,109] a.Params).2) [118,97,114] a.Vars)/\(a.Blocks.length<=4611686018427387904->ab (α:=Int×Lt.Sheet) (fun m f=>have c:=a.Blocks.getD f.1.toNat default;have i:=Lt.Term.mk ((c.End).Kind) ((c.End).A) ((c.End).To) ((c.End).N);if(decide (f.1 < (a.Blocks.length:Int)))=true then(((0:Int)<=f.1/\f.1.toNat<a.Blocks.length)/\(bB f.2 [[98,108,111,99,107],c.Name])/\((c.Phis).length<=4611686018427387904->ab (α:=Int×Lt.Sheet) (fun o v4=>have z5:=(c.Phis).getD v4.1.toNat default;if(decide (v4.1 < ((c.Phis).length:Int)))=true then(((0:Int)<=v4.1/\v4.1.toNat < (c.Phis).length)/\((z5.Ins).length<=4611686018427387904->ab (α:=List (List UInt8)×Int) (fun n d=>have h:=(z5.Ins).getD d.2.toNat default;have g:=([h.Block,(al (h.A))]:List (List UInt8));if(decide (d.2 < ((z5.Ins).length:Int)))=true then(aa (α:=List (List UInt8)) (fun k=>have z3:=((kP (h.A))/\(d.1.length+g.length<=4611686018427387904/\(d.1.length+g.length)*16<=140737488355328)/\k (d.1++g));((0:Int)<=d.2/\d.2.toNat < (z5.Ins).length)/\z3/\z3) (fun l=>n (l,(i64.wrap (d.2+1)))))else((bB v4.2 d.1)/\o ((i64.wrap (v4.1+1)),((aV v4.2 d.1).2)))) ([[112,104,105],z5.Dst],0)))else(((c.Code).length<=4611686018427387904->ab (α:=Int×Lt.Sheet) (fun j b=>if(decide (b.1 < ((c.Code).length:Int)))=true then(((0:Int)<=b.1/\b.1.toNat < (c.Code).length)/\(Qv b.2 ((c.Code).getD b.1.toNat default))/\j ((i64.wrap (b.1+1)),((wO b.2 ((c.Code).getD b.1.toNat default)).2)))else((Ye b.2 i)/\m ((i64.wrap (f.1+1)),((Bt b.2 i).2)))) (0,v4.2)))) (0,((aV f.2 [[98,108,111,99,107],c.Name]).2))))else(KK ((),f.2))) (0,((dj ((dj z4 [112,97,114,97,109] a.Params).2) [118,97,114] a.Vars).2)))
def yW(a:Lt.Program)(KK:(List UInt8×Int)->Prop):Prop:=
 if(!(bH a))=true then(KK (([]:List UInt8),1))else(aa (α:=Lt.Sheet) (fun e=>if a.SSA=true then((bB (Lt.Sheet.mk []) [[115,115,97]])/\e ((aV (Lt.Sheet.mk []) [[115,115,97]]).2))else(e (Lt.Sheet.mk []))) (fun j=>(a.Classes.length<=4611686018427387904->ab (α:=Int×Lt.Sheet) (fun m v4=>have d:=a.Classes.getD v4.1.toNat default;if(decide (v4.1 < (a.Classes.length:Int)))=true then(((0:Int)<=v4.1/\v4.1.toNat<a.Classes.length)/\(bB v4.2 [[99,108,97,115,115],d.Name])/\(jg ((aV v4.2 [[99,108,97,115,115],d.Name]).2) [102,105,101,108,100] (d.Fields))/\m ((i64.wrap (v4.1+1)),((dj ((aV v4.2 [[99,108,97,115,115],d.Name]).2) [102,105,101,108,100] (d.Fields)).2)))else((jg v4.2 [103,108,111,98,97,108] a.Globals)/\(a.Externs.length<=4611686018427387904->ab (α:=Int×Lt.Sheet) (fun k c=>have z3:=a.Externs.getD c.1.toNat default;if(decide (c.1 < (a.Externs.length:Int)))=true then(aa (α:=Lt.Sheet) (fun h=>have f:=(l5 (z3.N))/\(bB c.2 [[101,120,116,101,114,110],z3.Name,(Lt.number (z3.N))])/\h ((aV c.2 [[101,120,116,101,114,110],z3.Name,(Lt.number (z3.N))]).2);((0:Int)<=c.1/\c.1.toNat<a.Externs.length)/\f/\f) (fun i=>k ((i64.wrap (c.1+1)),i)))else((a.Funcs.length<=4611686018427387904->ab (α:=Int×Lt.Sheet) (fun g b=>if(decide (b.1 < (a.Funcs.length:Int)))=true then(((0:Int)<=b.1/\b.1.toNat<a.Funcs.length)/\(xF b.2 (a.Funcs.getD b.1.toNat default))/\g ((i64.wrap (b.1+1)),((me b.2 (a.Funcs.getD b.1.toNat default)).2)))else((Qw b.2.l)/\((Lt.Join b.2.l).length<=4611686018427387904->if(decide (4194304 < ((Lt.Join b.2.l).length:Int)))=true then(KK (([]:List UInt8),2))else(KK ((Lt.Join b.2.l),0))))) (0,c.2)))) (0,((dj v4.2 [103,108,111,98,97,108] a.Globals).2))))) (0,j))))
theorem Nn(n:Int)(hp:l5 n)(KK:List UInt8->Prop)(h:KK (Lt.number n)):U5 n KK:=⟨hp,h⟩
theorem ahJ(x:Int):((BitVec.ofInt IntKind.u64.bits x &&& BitVec.ofInt IntKind.u64.bits 15).toNat:Nat) < 16:=by
 have e:(BitVec.ofInt IntKind.u64.bits 15).toNat=15:=by decide
 rw[BitVec.toNat_and,e];exact Nat.lt_of_le_of_lt Nat.and_le_right kQ1
theorem Xa(u x:Int):(0:Int)<=(IntKind.u64.wrap ((BitVec.ofInt IntKind.u64.bits (Int.fdiv (IntKind.u64.wrap u) (2 ^ (min (IntKind.u64.wrap x).toNat IntKind.u64.bits))) &&& BitVec.ofInt IntKind.u64.bits 15).toNat:Nat)) /\
  (IntKind.u64.wrap ((BitVec.ofInt IntKind.u64.bits (Int.fdiv (IntKind.u64.wrap u) (2 ^ (min (IntKind.u64.wrap x).toNat IntKind.u64.bits))) &&& BitVec.ofInt IntKind.u64.bits 15).toNat:Nat)).toNat < ([48,49,50,51,52,53,54,55,56,57,97,98,99,100,101,102]:List UInt8).length:=by
 have h:=ahJ (Int.fdiv (IntKind.u64.wrap u) (2 ^ (min (IntKind.u64.wrap x).toNat IntKind.u64.bits)))
 rw[cH kQ1,Int.toNat_natCast];exact⟨ajC _,h⟩
theorem Nc(n:Int)(KK:List UInt8->Prop)(h:KK (fa n)):GN n KK:=by
 unfold GN;dsimp only;(try simp only[ax,aK,aR,bb,cq,jval,bor,band,bnand,bimp,and_self]);refine au _ 16 (fun i x=>x=([48,102]++(List.range i).map fun(j:Nat)=>Qe (Lt.Plain n) (60 - 4*(j:Int)),60 - 4*(i:Int))) (fun R i x hi a b=>?_) (fun R x a=>?_) _ rfl
 ·subst a;have hd:decide ((0:Int)<=60 - 4*(i:Int))=true:=by simp;omega
  simp only[hd,if_true];have w:i64.wrap (60 - 4*(i:Int) - 4)=60 - 4*((i+1:Nat):Int):=by rw[dt kQ1 kQ1];omega
  refine⟨?_,Xa _ _,?_,b _ ?_⟩
  ·have:IntKind.u64.wrap (60 - 4*(i:Int))=60 - 4*(i:Int):=by
    have:=cH (n:=60 - 4*i) kQ1
    rw[show((60 - 4*i:Nat):Int)=60 - 4*(i:Int)by omega]at this;exact this
   rw[this];omega
  ·simp only[ai3,ai2,List.length_range,ai1,ai6];omega
  ·rw[w,List.range_succ,aj1,<- ajI];rfl
 ·subst a;have:decide ((0:Int)<=60 - 4*((16:Nat):Int))=false:=by decide
  simp only[this,ai8,if_false];exact h
theorem Kd(a:Lt.Arg)(hp:kP a)(KK:List UInt8->Prop)(h:KK (al a)):CU a KK:=by
 unfold CU;(try simp only[ax,aK,aR,jval,bor,band,bnand,bimp,and_self]);unfold al at h;unfold kP Lt.Arg.ok at hp;have hq:l5 a.N:=hp
 have:=gQ hp
 have e:(35::aF a.N).length<=4611686018427387904:=by simp only[ai1];omega
 grind
theorem Xt(l:List Lt.Arg)(hp:FT l)(KK:List (List UInt8)->Prop)(h:KK (Lt.puts l)):U6 l KK:=by
 obtain⟨hp,hl⟩:=hp;unfold U6;(try simp only[ax,aK,aR,bb,cq,jval,bor,band,bnand,bimp,and_self]);intro _;refine Al l.length (by unfold LEN;omega) (fun i=>Lt.puts (l.take i)) _ (fun R i hi ih=>?_) (fun R=>?_) rfl
 ·simp only[aX hi,if_true,Int.toNat_natCast];refine⟨⟨ajC i,hi⟩,hp _ (aQ l hi),?_,?_⟩
  ·simp only[Lt.puts,ai2,ajR,ai1,ai6];omega
  ·rw[aB l hi]at ih;simp only[Lt.puts,aj1,aiZ,aj4]at ih⊢;exact ih
 ·simp only[l4,ai8,if_false,ajH];exact h
theorem ig{l:List Lt.Var}(h:Lt.typed l n=true):(l.length:Int)<=n:=by
 unfold Lt.typed at h;simp only[aiW,decide_eq_true_eq]at h;exact h.1
theorem pN[Inhabited α](f:α->β)(l:List α){i:Nat}(h:i<l.length):(l.take (i+1)).map f=(l.take i).map f++[f (l.getD i default)]:=by
 rw[aB l h,aj1];rfl
theorem B3(s:Lt.Sheet)(w:List (List UInt8))(hp:bB s w)(KK:Unit×Lt.Sheet->Prop)(h:KK (aV s w)):xb s w KK:=by
 unfold bB Lt.room at hp;unfold xb;(try simp only[ax,aK,aR,jval,bor,band,bnand,bimp,and_self]);exact⟨⟨by simp only[ai1,ai6];omega,by simp only[ai1,ai6];omega⟩,h⟩
theorem B4(s:Lt.Sheet)(first:List UInt8)(l:List Lt.Var)(hp:jg s first l)(KK:Unit×Lt.Sheet->Prop)(h:KK (dj s first l)):xc s first l KK:=by
 unfold jg Lt.room at hp;unfold xc;(try simp only[ax,aK,aR,bb,cq,jval,bor,band,bnand,bimp,and_self]);intro hl;refine fQ l.length hl (fun i=>(⟨s.l++gf first (l.take i)⟩:Lt.Sheet)) _ (fun R i hi ih=>?_) (fun R=>?_) (by simp[gf])
 ·simp only[aX hi,if_true,Int.toNat_natCast]
  try dsimp +instances only [Int.toNat_natCast]
  refine⟨⟨ajC i,hi⟩,?_,?_⟩
  ·unfold bB Lt.room;simp only[gf,ai3,ai2,ajR];omega
  ·simp only[gf,pN _ l hi,<- ajI]at ih;exact ih
 ·simp only[l4,ai8,if_false];rw[ajH];exact h
theorem pV(l:List Lt.Arg):(Lt.puts l).length=l.length:=by simp[Lt.puts]
theorem B2(s:Lt.Sheet)(i:Lt.Instr)(hp:Qv s i)(KK:Unit×Lt.Sheet->Prop)(h:KK (wO s i)):xa s i KK:=by
 obtain⟨p,hi,d⟩:=hp;unfold Lt.room at d;obtain⟨w,okF,okO⟩:=p;have I:=eL hi
 have H:=I.args;have f16:=I.frames;have G:=I.objs
 have C:=pV i.Args
 unfold xa;dsimp only;(try simp only[ax,aK,aR,jval,bor,band,bnand,bimp,and_self]);intro z v;have y:∀u:List (List UInt8),u=(if(Lt.Of i.Op).1.Dst then [i.Dst,[61]]else [])->u.length<=2->z u:=by
  intro D e c;refine v D ⟨⟨by simp only[ai1,ai6];omega,by simp only[ai1,ai6];omega⟩,⟨w,by omega⟩,?_⟩;intro F t;have r:∀m n,m++n=Lt.words i->m.length+n.length<=100->F (m,n):=by
   intro m n e c;refine t _ ⟨⟨by dsimp only;omega,by dsimp only;omega⟩,by unfold bB Lt.room;omega,fun hl=>?_⟩;dsimp only;rw[e];refine fQ i.Frames.length hl (fun k=>(⟨s.l++[Lt.ln (Lt.words i)]++(i.Frames.take k).map (fun f=>Lt.ln (gM f))⟩:Lt.Sheet)) _ (fun R k hk ih=>?_) (fun R=>?_) (by simp[aV,Lt.ln])
   ·simp only[aX hk,if_true,Int.toNat_natCast]
    try dsimp +instances only [Int.toNat_natCast]
    have V:=pC (bQ I.fr hk)
    refine⟨⟨ajC k,hk⟩,?_,fun x=>?_⟩
    ·have:=V.2.2.1;have:=V.2.2.2.1
     exact⟨by omega,by omega⟩
    ·have B:=V.2.2.2.2.1
     have q:(i.Frames.getD k default).ok:=bQ okF hk
     refine Al (i.Frames.getD k default).Vars.length x (fun j=>[[97,116],(i.Frames.getD k default).Func,(i.Frames.getD k default).Block,Lt.number (i.Frames.getD k default).At]++((i.Frames.getD k default).Vars.take j).flatMap fun b=>[b.Name,al b.A]) _
      (fun E j hj g=>?_) (fun E=>?_) (by simp)
     ·simp only[aX hj,if_true,Int.toNat_natCast]
      try dsimp +instances only [Int.toNat_natCast]
      refine⟨⟨ajC j,hj⟩,q.2 _ (aQ _ hj),?_,?_⟩
      ·simp only[ai3,P7,ai1,ai6,ajR];omega
      ·simp only[j9 _ _ hj,<- ajI]at g;exact g
     ·simp only[l4,ai8,if_false];refine⟨?_,?_⟩
      ·unfold bB Lt.room;simp only[ai3,ai2,ajR,ai1,ai6];omega
      ·simp only[pN _ i.Frames hk,<- ajI]at ih;rw[ajH];exact ih
   ·simp only[l4,ai8,if_false];intro hl;rw[ajH];refine fQ i.Objs.length hl (fun k=>(⟨s.l++[Lt.ln (Lt.words i)]++i.Frames.map (fun f=>Lt.ln (gM f))++(i.Objs.take k).map (fun o=>Lt.ln (ni o))⟩:Lt.Sheet)) _ (fun R k hk ih=>?_) (fun R=>?_) (by simp)
    ·simp only[aX hk,if_true,Int.toNat_natCast]
     try dsimp +instances only [Int.toNat_natCast]
     have V:=yF (bQ I.ob hk)
     have c:(Lt.puts (i.Objs.getD k default).Vals).length<=8:=by rw[pV];exact V.2.1
     refine⟨⟨ajC k,hk⟩,⟨bQ okO hk,by omega⟩,⟨by simp only[ai1,ai6];omega,by simp only[ai1,ai6];omega⟩,?_,?_⟩
     ·unfold bB Lt.room;simp only[ai3,ai2,ajR,ai1,ai6];omega
     ·simp only[pN _ i.Objs hk,<- ajI]at ih;exact ih
    ·simp only[l4,ai8,if_false];rw[ajH];simp only[wO,gY,<- ajI]at h;exact h
  refine ifk (fun hc=>?_) (fun hc=>?_)
  ·have a:i.Op=26\/i.Op=27:=by simpa using hc
   have h1:=I.least a
   refine⟨⟨Int.le_refl _,by omega⟩,?_,by omega,⟨by omega,by omega⟩,?_⟩
   ·simp only[ai3,ai1,ai6];omega
   ·refine r _ _ ?_ ?_
    ·rw[Lt.words,if_pos a,<- e,aj7 (by simp)];simp
    ·simp only[ai3,ai1,ai6,ajR,alL];omega
  ·have a:¬ (i.Op=26\/i.Op=27):=by simpa using hc
   refine ifk (fun hn=>?_) (fun hn=>?_)
   ·refine⟨?_,r _ _ ?_ ?_⟩
    ·simp only[ai3,ai1,ai6];omega
    ·rw[Lt.words,if_neg a,<- e,if_pos hn];simp
    ·simp only[ai3,ai1,ai6];omega
   ·refine r _ _ ?_ ?_
    ·rw[Lt.words,if_neg a,<- e,if_neg hn];simp
    ·simp only[ai3,ai1,ai6];omega
 refine ifk (fun hd=>⟨by simp,y _ (by rw[if_pos hd]) (by simp)⟩) (fun hd=>y _ (by rw[if_neg hd]) (by simp))
theorem Fi(s:Lt.Sheet)(t:Lt.Term)(hp:Ye s t)(KK:Unit×Lt.Sheet->Prop)(h:KK (Bt s t)):yU s t KK:=by
 obtain⟨⟨c,f⟩,d,e⟩:=hp;unfold Lt.room at e;have hl:∀w,bB s w:=fun w=>by unfold bB Lt.room;omega
 unfold dv at d;rw[aiW]at d
 replace d:=d.2
 unfold Bt ip at h;unfold yU;dsimp only;(try simp only[ax,aK,aR,jval,bor,band,bnand,bimp,and_self]);simp only[decide_eq_true_eq];refine ifk (fun hc=>?_) (fun hc=>?_)
 ·rw[if_pos hc]at h d;simp only[aiW,decide_eq_true_eq]at d;exact⟨⟨Int.le_refl _,by omega⟩,hl _,h⟩
 rw[if_neg hc]at h d;refine ifk (fun hc=>?_) (fun hc=>?_)
 ·rw[if_pos hc]at h d;simp only[aiW,decide_eq_true_eq]at d;have a:(0:Int)<=0/\0<t.To.length:=⟨Int.le_refl _,by omega⟩
  have b:(0:Int)<=1/\1<t.To.length:=⟨by omega,by omega⟩
  exact⟨⟨c,a,b,hl _,h⟩,⟨a,⟨c,b,hl _,h⟩,b,c,hl _,h⟩,b,⟨c,a,hl _,h⟩,a,c,hl _,h⟩
 rw[if_neg hc]at h d;refine ifk (fun hc=>?_) (fun hc=>?_)
 ·rw[if_pos hc]at h;exact⟨c,hl _,h⟩
 ·rw[if_neg hc]at h;exact⟨f,hl _,h⟩
theorem vR(h:Lt.instr i=true):(gY i).length<=116:=by
 have I:=eL h
 have:=I.frames;have:=I.objs
 simp only[gY,ai3,ai2,ai1,ai6];omega
theorem eC(f:α->List β)(k:Nat):∀(l:List α),(∀x∈l,(f x).length<=k)->(l.flatMap f).length<=k*l.length
 |[],_=>by simp
 |a::l,h=>by
  have:=eC f k l (fun x hx=>h x (ajM _ hx))
  have:=h a (by simp)
  rw[ajY,ai3,ai1,Nat.mul_add];omega
theorem uF{l:List α}{i:Nat}{x:α}(h:x∈l.take i):x∈l:=akZ h
theorem Mu(h:Lt.block b=true):(dS b).length<=2+116*(b.Phis.length+b.Code.length):=by
 have B:=mz h
 have:=eC gY 116 b.Code (fun x hx=>vR (B.2.2.2 x hx))
 simp only[dS,ai3,ai2,ai1,ai6];omega
theorem pf:∀(l:List Lt.Block),(∀b∈l,Lt.block b=true)->(l.flatMap dS).length<=2*l.length+116*longs l
 |[],_=>by simp
 |b::l,h=>by
  have h1:=pf l (fun x hx=>h x (ajM _ hx))
  have h2:=Mu (h b (by simp))
  rw[ajY,ai3,ai1];simp only[longs,aiZ,List.sum_cons]at h1⊢;omega
theorem NJ(l:List Lt.Block)(i:Nat):longs (l.take i)<=longs l:=by
 have:longs l=longs (l.take i)+longs (l.drop i):=by
  unfold longs;rw[<- List.sum_append,<- aj1,aj8]
 omega
theorem TG(l:List Lt.Block){i:Nat}(h:i<l.length):longs (l.take i)+((l.getD i default).Phis.length+(l.getD i default).Code.length)<=longs l:=by
 have:=NJ l (i+1)
 rw[aB l h]at this;unfold longs at this⊢;rw[aj1,List.sum_append]at this;simp only[aiZ,aj4,List.sum_cons,List.sum_nil]at this;omega
theorem Dl(h:ay f=true):(gp f).length<=130000:=by
 have F:=nO h
 have h1:=ig F.params;have h2:=ig F.vars
 have h3:=pf f.Blocks F.bl
 have:=F.len;have:=F.long
 simp only[gp,gf,ai3,ai2,ai1,ai6];omega
theorem uz(s:Lt.Sheet)(f:Lt.Func)(hp:xF s f)(KK:Unit×Lt.Sheet->Prop)(h:KK (me s f)):oL s f KK:=by
 obtain⟨p,hf,g⟩:=hp;unfold Lt.room at g;have F:=nO hf
 have J:=ig F.params;have u:=ig F.vars
 have I:=F.len;have y:=F.long
 unfold oL;dsimp only;(try simp only[ax,aK,aR,jval,bor,band,bnand,bimp,and_self]);refine⟨?_,?_,?_,fun hl=>?_⟩
 ·unfold bB Lt.room;omega
 ·unfold jg Lt.room;simp only[aV,ai3,ai1,ai6];omega
 ·unfold jg Lt.room;simp only[aV,dj,gf,ai3,ai1,ai6,ai2];omega
 ·generalize hx0:(dj (dj (aV s [[102,117,110,99],f.Name,f.Result]).2 [112,97,114,97,109] f.Params).2 [118,97,114] f.Vars).2=d;obtain⟨d⟩:=d;have z:d.length<=s.l.length+1031:=by
   have:=congrArg (fun x=>x.l.length) hx0
   simp only[aV,dj,gf,ai3,ai1,ai6,ai2]at this;omega
  have h':KK ((),⟨d++f.Blocks.flatMap dS⟩):=by
   have e:d=_:=(congrArg Lt.Sheet.l hx0).symm
   rw[e];simp only[me,gp,dj,aV,ajI]at h⊢;exact h
  refine fQ f.Blocks.length hl (fun k=>(⟨d++(f.Blocks.take k).flatMap dS⟩:Lt.Sheet)) _ (fun R k hk ih=>?_) (fun R=>?_) (by simp)
  ·simp only[aX hk,if_true,Int.toNat_natCast]
   try dsimp +instances only [Int.toNat_natCast]
   generalize hb:f.Blocks.getD k default=b;have B:=mz (bQ F.bl hk)
   have n:=pf (f.Blocks.take k) (fun x hx=>F.bl x (uF hx))
   have hget:=TG f.Blocks hk
   have c:=bQ p hk
   rw[hb]at B hget c;have E:(f.Blocks.take k).length<=256:=by rw[ajR];omega
   generalize hX:(f.Blocks.take k).flatMap dS=X at n;simp only[j9 dS f.Blocks hk,hX,hb]at ih;have H:X.length+116*(b.Phis.length+b.Code.length)<=119296:=by omega
   refine⟨⟨ajC k,hk⟩,?_,fun v=>?_⟩
   ·unfold bB Lt.room;simp only[ai3];omega
   ·refine fQ b.Phis.length v (fun j=>(⟨d++X++[Lt.ln [[98,108,111,99,107],b.Name]]++(b.Phis.take j).map (fun x=>Lt.ln (wz x))⟩:Lt.Sheet)) _ (fun G j hj a=>?_) (fun G=>?_) (by simp[aV])
    ·simp only[aX hj,if_true,Int.toNat_natCast]
     try dsimp +instances only [Int.toNat_natCast]
     refine⟨⟨ajC j,hj⟩,fun q=>?_⟩;generalize hp:b.Phis.getD j default=x at *;have P:=A0 (bQ B.2.2.1 hj)
     have o:=bQ c.1 hj
     rw[hp]at P o;have D:=P.2.2.1
     refine Al x.Ins.length q (fun i=>[[112,104,105],x.Dst]++(x.Ins.take i).flatMap fun i=>[i.Block,al i.A]) _ (fun t i hi m=>?_) (fun t=>?_) (by simp)
     ·simp only[aX hi,if_true,Int.toNat_natCast]
      try dsimp +instances only [Int.toNat_natCast]
      refine⟨⟨ajC i,hi⟩,o.2 _ (aQ _ hi),?_,?_⟩
      ·simp only[ai3,P7,ai1,ai6,ajR];omega
      ·simp only[j9 _ _ hi,<- ajI]at m;exact m
     ·simp only[l4,ai8,if_false];refine⟨?_,?_⟩
      ·unfold bB Lt.room;simp only[ai3,ai2,ajR,ai1,ai6];omega
      ·simp only[pN _ b.Phis hj,<- ajI,hp]at a;rw[ajH];exact a
    ·simp only[l4,ai8,if_false];rw[ajH];intro w;refine fQ b.Code.length w (fun j=>(⟨d++X++[Lt.ln [[98,108,111,99,107],b.Name]]++b.Phis.map (fun x=>Lt.ln (wz x))++(b.Code.take j).flatMap gY⟩:Lt.Sheet)) _ (fun t j hj a=>?_) (fun t=>?_) (by simp)
     ·simp only[aX hj,if_true,Int.toNat_natCast]
      try dsimp +instances only [Int.toNat_natCast]
      have hc:=eC gY 116 (b.Code.take j) (fun x hx=>vR (B.2.2.2 x (uF hx)))
      have r:(b.Code.take j).length<=b.Code.length:=by rw[ajR];omega
      have C:116*(b.Code.take j).length<=116*b.Code.length:=Nat.mul_le_mul_left _ r
      refine⟨⟨ajC j,hj⟩,⟨bQ c.2.1 hj,bQ B.2.2.2 hj,?_⟩,?_⟩
      ·unfold Lt.room;simp only[ai3,ai2,ai1,ai6];omega
      ·simp only[j9 _ _ hj,<- ajI]at a;exact a
     ·simp only[l4,ai8,if_false];rw[ajH];have hc:=eC gY 116 b.Code (fun x hx=>vR (B.2.2.2 x hx))
      refine⟨⟨c.2.2,B.2.1,?_⟩,?_⟩
      ·unfold Lt.room;simp only[ai3,ai2,ai1,ai6];omega
      ·simp only[dS,<- ajI]at ih;exact ih
  ·simp only[l4,ai8,if_false];rw[ajH];exact h'
def small(w:List UInt8):Prop:=w.length<=100
instance (w:List UInt8):Decidable (small w):=inferInstanceAs (Decidable (w.length<=100))
def sM(x:Lt.Line):Prop:=x.Words.length<=600/\∀w∈x.Words,small w
theorem adX:∀(ws:List (List UInt8))(b:Bool),(∀w∈ws,small w)->(Lt.jw b ws).length<=101*ws.length
 |[],_,_=>by simp[Lt.jw]
 |w::r,b,h=>by
  have h1:=adX r true (fun x hx=>h x (ajM _ hx))
  have h2:w.length<=100:=h w (by simp)
  rw[Lt.jw];simp only[ai3,ai1];split<;>simp only[ai1,ai6]<;>omega
theorem xB:∀(l:List Lt.Line),(∀x∈l,sM x)->(bD l).length<=60601*l.length
 |[],_=>by simp[bD]
 |x::l,h=>by
  have h1:=xB l (fun y hy=>h y (ajM _ hy))
  obtain⟨h2,h3⟩:=h x (by simp);have h4:=adX x.Words false h3
  have:101*x.Words.length<=101*600:=Nat.mul_le_mul_left _ h2
  rw[bD,ajY];rw[bD]at h1;simp only[ai3,ai1,ai6];omega
theorem Ig(h:Lt.Name s=true):s.length<=16:=by
 unfold Lt.Name at h;simp only[aiW,decide_eq_true_eq]at h;exact h.1.1.1.2
theorem bi(h:Lt.Name s=true):small s:=by have:=Ig h;unfold small;omega
theorem Aw(h:Lt.kind s=true):small s:=by
 unfold Lt.kind at h;simp only[aj6,decide_eq_true_eq]at h;rcases h with(rfl|rfl)|h
 ·decide
 ·decide
 ·exact bi h
theorem uH(l:List UInt8):∀(k:Nat)(n:Int)(f i:Nat),(FJ l k n f i).length<=l.length
 |0,_,_,_=>by simp[FJ]
 |k+1,n,f,i=>by
  rw[FJ];split
  ·split
   ·split
    ·simp;omega
    ·exact uH l k _ _ _
   ·exact uH l k _ _ _
  ·simp
theorem M4{c:Prop}[Decidable c]{a b:Nat}(h1:a<=k)(h2:b<=k):(if c then a else b)<=k:=by split<;>assumption
theorem Vo(op:Int):small (Lt.Of op).1.Word:=by
 have h1:(Lt.nth Lt.two op).length<=100:=ajJ (uH _ _ _ _ _) (by decide)
 have h2:(Lt.nth [32,105,116,111,102,32,102,116,111,105,32,109,111,118,32] (i64.wrap (op - 21))).length<=100:=ajJ (uH _ _ _ _ _) (by decide)
 unfold small Lt.Of;simp only[apply_ite Prod.fst,apply_ite Lt.Form.Word,apply_ite List.length,ai1,ai6];refine M4 h1 (M4 h2 ?_)
 repeat refine M4 kQ1 ?_
 omega
theorem gD{a:Lt.Arg}(h:a.ok):small (al a):=by
 have hn:=gQ h
 have hf:=MR a.N
 unfold small al;split
 ·rename_i hr;split
  ·omega
  ·split
   ·omega
   ·split
    ·decide
    ·split
     ·simp only[ai1];omega
     ·rcases eV hr with h|h|h|h|h
      ·have:=Ig h.2.1;omega
      ·exact absurd h.1 (by assumption)
      ·exact absurd h.1 (by assumption)
      ·exact absurd h.1 (by assumption)
      ·exact absurd h.1 (by assumption)
 ·decide
theorem Be{l:List Lt.Arg}(h:sk l):∀w∈Lt.puts l,small w:=by
 intro w hw;obtain⟨a,b,rfl⟩:=ajK.1 hw;exact gD (h a b)
theorem vm(first:List UInt8)(hf:small first){l:List Lt.Var}(h:Lt.typed l n=true):∀x∈gf first l,sM x:=by
 intro x hx;obtain⟨v,hv,rfl⟩:=ajK.1 hx;unfold Lt.typed at h;simp only[aiW,ajB]at h;have:=h.2 v hv
 refine⟨by simp[Lt.ln],fun w hw=>?_⟩;simp only[Lt.ln,ai7,ajX,or_false]at hw;rcases hw with rfl|rfl|rfl
 ·exact hf
 ·exact bi this.1
 ·exact Aw this.2
theorem om(h:Lt.inR n):small (Lt.number n):=by have:=gQ h;unfold small Lt.number;omega
theorem WE(h:Lt.instr i=true)(c:i.ok):∀x∈gY i,sM x:=by
 have I:=eL h
 obtain⟨a,okF,okO⟩:=c;have d:=I.args
 intro x hx;simp only[gY,ai9,ajD,ajK]at hx;rcases hx with(rfl|⟨f,hf,rfl⟩)|⟨o,ho,rfl⟩
 ·refine⟨?_,fun w hw=>?_⟩
  ·simp only[Lt.ln,Lt.words,ai3];split<;>split<;>(try split)<;>simp only[ai1,ai6,ai3,alL,pV]<;>omega
  ·have hp:=Be a
   simp only[Lt.ln,Lt.words,ai9]at hw;rcases hw with(hw|hw)|hw
   ·split at hw
    ·rename_i hd;simp only[ai7,ajX,or_false]at hw;rcases hw with rfl|rfl
     ·exact bi (I.dstN hd)
     ·decide
    ·cases hw
   ·simp only[ajD]at hw;subst hw;exact Vo _
   ·split at hw
    ·rename_i hc;have h1:=I.least hc
     simp only[ai7]at hw;rcases hw with rfl|rfl|hw
     ·exact hp _ (aQ _ (by rw[pV];omega))
     ·have:(Lt.Of i.Op).1.Named=true:=by rcases hc with e|e<;>rw[e]<;>decide
      exact bi (I.nmN this)
     ·exact hp _ (List.mem_of_mem_drop hw)
    ·simp only[ai9]at hw;rcases hw with hw|hw
     ·split at hw
      ·rename_i hd;simp only[ajD]at hw;subst hw;exact bi (I.nmN hd)
      ·cases hw
     ·exact hp _ hw
 ·have V:=pC (I.fr f hf)
  refine⟨?_,fun w hw=>?_⟩
  ·have:=V.2.2.2.2.1
   simp only[Lt.ln,gM,ai3,P7,ai1,ai6];omega
  ·simp only[Lt.ln,gM,ai9,ai7,ajX,or_false,akB]at hw;rcases hw with(rfl|rfl|rfl|rfl)|⟨b,hb,rfl|rfl⟩
   ·decide
   ·exact bi V.1
   ·exact bi V.2.1
   ·have:=V.2.2.1;have:=V.2.2.2.1
    exact om ⟨by omega,by omega⟩
   ·have:=V.2.2.2.2.2 b hb
    unfold gU at this;rw[aiW]at this;exact bi this.1
   ·exact gD ((okF f hf).2 b hb)
 ·have V:=yF (I.ob o ho)
  refine⟨?_,fun w hw=>?_⟩
  ·simp only[Lt.ln,ni,ai3,pV,ai1,ai6];omega
  ·simp only[Lt.ln,ni,ai9,ai7,ajX,or_false]at hw;rcases hw with(rfl|rfl)|hw
   ·decide
   ·exact bi V.1
   ·exact Be (okO o ho) _ hw
theorem aaH(h:dv t=true)(a:t.ok):sM (Lt.ln (ip t)):=by
 unfold dv at h;rw[aiW,ajB]at h;obtain⟨h1,h2⟩:=h;refine⟨?_,fun w hw=>?_⟩
 ·simp only[Lt.ln,ip]
  repeat' split
  all_goals simp
 ·simp only[Lt.ln,ip]at hw;split at hw
  ·rename_i hc;rw[if_pos hc]at h2;simp only[aiW,decide_eq_true_eq]at h2;simp only[ai7,ajX,or_false]at hw;rcases hw with rfl|rfl
   ·decide
   ·exact bi (h1 _ (aQ _ kQ1))
  ·rename_i hc;rw[if_neg hc]at h2;split at hw
   ·rename_i hc;rw[if_pos hc]at h2;simp only[aiW,decide_eq_true_eq]at h2;simp only[ai7,ajX,or_false]at hw;rcases hw with rfl|rfl|rfl|rfl
    ·decide
    ·exact gD a.1
    ·exact bi (h1 _ (aQ _ kQ1))
    ·exact bi (h1 _ (aQ _ kQ1))
   ·split at hw
    ·simp only[ai7,ajX,or_false]at hw;rcases hw with rfl|rfl
     ·decide
     ·exact gD a.1
    ·simp only[ai7,ajX,or_false]at hw;rcases hw with rfl|rfl
     ·decide
     ·exact om a.2
theorem Rz(h:Lt.block b=true)(a:b.ok):∀x∈dS b,sM x:=by
 have B:=mz h
 intro x hx;simp only[dS,ai9,ajD,ajK,akB]at hx;rcases hx with((rfl|⟨y,hy,rfl⟩)|⟨i,hi,hx⟩)|rfl
 ·refine⟨by simp[Lt.ln],fun w hw=>?_⟩;simp only[Lt.ln,ai7,ajX,or_false]at hw;rcases hw with rfl|rfl
  ·decide
  ·exact bi B.1
 ·have P:=A0 (B.2.2.1 y hy)
  refine⟨?_,fun w hw=>?_⟩
  ·have:=P.2.2.1
   simp only[Lt.ln,wz,ai3,P7,ai1,ai6];omega
  ·simp only[Lt.ln,wz,ai9,ai7,ajX,or_false,akB]at hw;rcases hw with(rfl|rfl)|⟨b',hb,rfl|rfl⟩
   ·decide
   ·exact bi P.1
   ·have:=P.2.2.2 b' hb
    unfold lE at this;rw[aiW]at this;exact bi this.1
   ·exact gD ((a.1 y hy).2 b' hb)
 ·exact WE (B.2.2.2 i hi) (a.2.1 i hi) x hx
 ·exact aaH B.2.1 a.2.2
theorem W1(h:ay f=true)(a:f.ok):∀x∈gp f,sM x:=by
 have F:=nO h
 intro x hx;simp only[gp,ai9,ajD,akB]at hx;rcases hx with((rfl|hx)|hx)|⟨b,hb,hx⟩
 ·refine⟨by simp[Lt.ln],fun w hw=>?_⟩;simp only[Lt.ln,ai7,ajX,or_false]at hw;rcases hw with rfl|rfl|rfl
  ·decide
  ·exact bi F.name
  ·exact Aw F.res
 ·exact vm _ (by decide) F.params x hx
 ·exact vm _ (by decide) F.vars x hx
 ·exact Rz (F.bl b hb) (a b hb) x hx
theorem Yj(h:bH p=true)(a:p.ok):∀x∈kU p,sM x:=by
 have P:=ra h
 intro x hx;simp only[kU,ai9,akB,ajK]at hx;rcases hx with(((hx|⟨c,hc,hx⟩)|hx)|⟨e,he,rfl⟩)|⟨f,hf,hx⟩
 ·split at hx
  ·simp only[ajD]at hx;subst hx;refine⟨by simp[Lt.ln],fun w hw=>?_⟩;simp only[Lt.ln,ajD]at hw;subst hw;decide
  ·cases hx
 ·have C:=P.cl c hc
  unfold bL at C;rw[aiW]at C;simp only[dT,ai9,ajD]at hx;rcases hx with rfl|hx
  ·refine⟨by simp[Lt.ln],fun w hw=>?_⟩;simp only[Lt.ln,ai7,ajX,or_false]at hw;rcases hw with rfl|rfl
   ·decide
   ·exact bi C.1
  ·exact vm _ (by decide) C.2 x hx
 ·exact vm _ (by decide) P.glob x hx
 ·have E:=P.ex e he
  unfold cc at E;simp only[aiW,decide_eq_true_eq]at E;refine⟨by simp[Lt.ln,jc],fun w hw=>?_⟩;simp only[Lt.ln,jc,ai7,ajX,or_false]at hw;rcases hw with rfl|rfl|rfl
  ·decide
  ·exact bi E.1.1
  ·exact om ⟨by omega,by omega⟩
 ·exact W1 (P.fn f hf) (a f hf) x hx
theorem sy{c:Lt.Class}(h:bL c=true):(dT c).length<=9:=by
 unfold bL at h;rw[aiW]at h;have:=ig h.2
 simp only[dT,gf,ai3,ai2,ai1,ai6];omega
theorem TX(h:bH p=true):(kU p).length<=1050000:=by
 have P:=ra h
 have h1:=eC dT 9 p.Classes (fun c hc=>sy (P.cl c hc))
 have h2:=eC gp 130000 p.Funcs (fun f hf=>Dl (P.fn f hf))
 have h3:=ig P.glob
 have:=P.nc;have:=P.ne;have:=P.nf
 have h4:(if p.SSA=true then [Lt.ln [[115,115,97]]]else []).length<=1:=by split<;>simp
 simp only[kU,gf,ai3,ai2];omega
theorem Fo(p:Lt.Program)(hp:FU p)(KK:List UInt8×Int->Prop)(h:KK (nb p)):yW p KK:=by
 unfold FU at hp;unfold yW;dsimp only;(try simp only[ax,aK,aR,jval,bor,band,bnand,bimp,and_self]);unfold nb at h;refine ifk (fun hc=>kk h (by grind)) (fun hr=>?_)
 replace hr:bH p=true:=by simpa using hr
 have P:=ra hr
 have r:=P.nc;have v:=P.ne;have t:=P.nf
 have d:=ig P.glob
 rw[hr,if_pos rfl]at h;have g:(bD (kU p)).length<=140737488355328:=by
  have h1:=xB _ (Yj hr hp)
  have h2:=TX hr
  omega
 intro J q;have n:∀x:List Lt.Line,x=(if p.SSA=true then [Lt.ln [[115,115,97]]]else [])->J ⟨x⟩:=by
  intro x hx;refine q _ (fun hl=>?_);have s:x.length<=1:=by rw[hx];split<;>simp
  refine fQ p.Classes.length hl (fun i=>(⟨x++(p.Classes.take i).flatMap dT⟩:Lt.Sheet)) _ (fun R i hi ih=>?_) (fun R=>?_) (by simp)
  ·simp only[aX hi,if_true,Int.toNat_natCast]
   try dsimp +instances only [Int.toNat_natCast]
   have C:=bQ P.cl hi
   have w:=C
   unfold bL at C;rw[aiW]at C;have b:=eC dT 9 (p.Classes.take i) (fun c hc=>sy (P.cl c (uF hc)))
   have k:(p.Classes.take i).length<=8:=by rw[ajR];omega
   have o:=ig C.2
   refine⟨⟨ajC i,hi⟩,?_,?_,?_⟩
   ·unfold bB Lt.room;simp only[ai3];omega
   ·unfold jg Lt.room;simp only[aV,ai3,ai1,ai6];omega
   ·simp only[j9 _ _ hi,<- ajI,dT]at ih;exact ih
  ·simp only[l4,ai8,if_false];rw[ajH];have b:=eC dT 9 p.Classes (fun c hc=>sy (P.cl c hc))
   refine⟨?_,fun j=>?_⟩
   ·unfold jg Lt.room;simp only[ai3];omega
   ·generalize hy:(dj ⟨x++p.Classes.flatMap dT⟩ [103,108,111,98,97,108] p.Globals).2=y;obtain⟨y⟩:=y;have a:=congrArg Lt.Sheet.l hy
    have u:y.length<=100:=by
     rw[show y=_ from a.symm];simp only[dj,gf,ai3,ai2];omega
    refine fQ p.Externs.length j (fun i=>(⟨y++(p.Externs.take i).map jc⟩:Lt.Sheet)) _ (fun R i hi ih=>?_) (fun R=>?_) (by simp)
    ·simp only[aX hi,if_true,Int.toNat_natCast]
     try dsimp +instances only [Int.toNat_natCast]
     have E:=bQ P.ex hi
     unfold cc at E;simp only[aiW,decide_eq_true_eq]at E;refine⟨⟨ajC i,hi⟩,⟨by omega,by omega⟩,?_,?_⟩
     ·unfold bB Lt.room;simp only[ai3,ai2,ajR];omega
     ·simp only[pN _ _ hi,<- ajI]at ih;exact ih
    ·simp only[l4,ai8,if_false];rw[ajH];intro m;refine fQ p.Funcs.length m (fun i=>(⟨y++p.Externs.map jc++(p.Funcs.take i).flatMap gp⟩:Lt.Sheet)) _ (fun R i hi ih=>?_) (fun R=>?_) (by simp)
     ·simp only[aX hi,if_true,Int.toNat_natCast]
      try dsimp +instances only [Int.toNat_natCast]
      have b:=eC gp 130000 (p.Funcs.take i) (fun f hf=>Dl (P.fn f (uF hf)))
      have k:(p.Funcs.take i).length<=8:=by rw[ajR];omega
      refine⟨⟨ajC i,hi⟩,⟨bQ hp hi,bQ P.fn hi,?_⟩,?_⟩
      ·unfold Lt.room;simp only[ai3,ai2];omega
      ·simp only[j9 _ _ hi,<- ajI]at ih;exact ih
     ·simp only[l4,ai8,if_false];rw[ajH];have e:y++p.Externs.map jc++p.Funcs.flatMap gp=kU p:=by
       rw[show y=_ from a.symm,kU,<- hx];rfl
      rw[e];refine⟨g,fun _=>kk h ?_⟩;unfold Lt.Join
      grind
 exact ifk (fun hs=>⟨by unfold bB Lt.room;simp,n _ (by rw[if_pos hs];rfl)⟩) (fun hs=>n _ (by rw[if_neg hs]))
end Go.Am
end

section
namespace Go.Am
def Nm.sw:Nm->Nm
 |.loc i=>.out i
 |.out i=>.loc i
 |.gh v=>.gh v
theorem Nm.sw_sw:∀n:Nm,n.sw.sw=n
 |.loc _=>rfl
 |.out _=>rfl
 |.gh _=>rfl
theorem Nm.sw_tyd:∀n:Nm,n.sw.tyd=n.tyd
 |.loc _=>rfl
 |.out _=>rfl
 |.gh _=>rfl
theorem ah8:NmR Nm.sw:=⟨Nm.sw_sw,Nm.sw_tyd⟩
abbrev St.sw(s:St):St:=s.rn Nm.sw
abbrev swG(γ:Gam):Gam:=rnG Nm.sw γ
section
variable {w:World} {H:FH} {γ:Gam} {F:Nm->Fp}
def rU(γ:Gam):Nat->Option Nat:=fun i=>match γ (.loc i)with
 |.blk b=>some b
 |.gh _=>none
theorem ag5{g:G}{s:St}{a a':Act}(h:RX g s.toS a w H γ F){ds:List Deferred}(h1:a'.tmps=a.tmps)(h2:a'.defers=ds):RX ⟨g.nt,g.w0,g.H0,g.own0,rU γ,g.ex,ds⟩ s.sw.toS a' w H (swG γ) (fun n=>F n.sw):=by
 refine PE ah8 h h1 h2 (fun j b hb=>?_);show γ (.loc j)=.blk b
 unfold rU at hb;split at hb
 ·rename_i b' c;rw[c];simp only[aiX]at hb;rw[hb]
 ·cases hb
end
end Go.Am
end

section
namespace Go.Am
open Go Go.RowKit Go.Proofs
theorem K4(n:Int)(w:World):Calls prog 157 #[.int .i64 n] w fun e w'=>e=.panicked (chn (Lt.flt n))/\w'=w:=by
 go_enter func157,Tryz.ntmps157
 go_wp2
 exact⟨rfl,rfl,rfl⟩
theorem afD{v:At}{x:Int}(h:dc [.i .i64] [v]=some x):v.toV.map T.canon=.one (.c (.d (.int .i64 x))):=by
 obtain⟨h1,h2,h3⟩:=kq h;have:[v.toV.map T.canon]=[AV.one (.c (.d (.int .i64 x)))]:=h3
 simpa using this
theorem Wj:Cont prog 157 (ah2 Lt.flt):=by
 refine⟨fi (fn:=f157) kQ0 kQ0 kQ0,fun pk s ops k k' hk hc=>hc,fun g pk s a w H γ F1 ops k hX b hc=>?_⟩;unfold ah2 at hc;split at hc
 ·rename_i x hx
  match ops,hx with
  |[],hx=>simp[dc]at hx
  |[o],hx=>
   have hop:aH o=true:=by simpa using b
   have hv:=aL hX hop
   rw[ah hop]at hv;have c:=iK fu hv
   rw[afD hx]at c;obtain⟨_,m,d⟩:=c;show Calls _ _ #[a.eval o] w _
   have d:a.eval o=.int .i64 x:=by cases m<;>exact d.1
   rw[d];refine(K4 x w).mono ?_;rintro e w' ⟨rfl,rfl⟩
   exact .inr ⟨_,s,rfl,hc,H,γ,F1,hX⟩
  |_::_::_,hx=>simp[dc]at hx
 ·exact hc.elim
end Go.Am
end
