/-
  Part 13: AmR5 · AmY8 · AmR6 · AmY9 · AmY10.
-/
import Derived.Test.YtlikflolhhlgjaaGreatDoorBa12
set_option linter.unusedSimpArgs false
set_option linter.unusedVariables false
set_option linter.unusedSectionVars false
set_option linter.unnecessarySimpa false
section
namespace Go.Am
open Go
theorem nQ (bs:List Lt.Block) (b:Lt.Block):longs (bs++[b])=longs bs+(b.Phis.length+b.Code.length):=by simp [longs]
theorem Ed:∀ (l:List Lt.Block) (n:Nat),n+longs l<=1024->(∀ b∈l,Lt.block b=true)->Lt.blocks l n=true
 | [],_,_,_=>rfl
 | b::r,n,h,hb=>by
  have e:longs (b::r)=(b.Phis.length+b.Code.length)+longs r:=by simp [longs]
  rw [e] at h;rw [Lt.blocks,hb b (by simp),Ed r _ (by omega) (fun x hx=>hb x (by simp [hx]))];simp; omega
def Zr (f:Lt.Func):Prop:=Lt.Name f.Name=true/\Lt.kind f.Result=true/\Lt.typed f.Params 6=true/\Lt.typed f.Vars 1024=true
structure Open (f:Lt.Func) (bs:List Lt.Block) (b:Lt.Block) (w n:Int):Prop where
 hd:Zr f
 len:bs.length+1<=256
 long:n=((longs bs+(b.Phis.length+b.Code.length):Nat):Int)
 most:n<=1024
 bl:bs.all Lt.block=true
 nm:Lt.Name b.Name=true
 ph:b.Phis.all Lt.phi=true
 cd:b.Code.all Lt.instr=true
 fin:w=9->Lt.cr b.End=true
 ins:6<=w->w<=8->∃ cs c,b.Code=cs++[c]/\(7<=w->c.Op=31\/c.Op=34)
theorem Pt {f:Lt.Func} {bs:List Lt.Block} {b:Lt.Block} {w n:Int} (hw:5<=w) (h:Open f bs b w n):Lt.pd { f with Blocks:=bs++[b] } w n:=by
 have hl:=h.long
 have hm:=h.most
 refine ⟨h.hd,⟨by simpa using h.len,by omega,hm⟩,fun _=>by omega,fun _=>⟨bs,b,rfl,h.bl,?_,⟨h.nm,h.ph,h.cd⟩,h.fin,h.ins⟩⟩;have:=nQ bs b
 unfold longs at this;rw [hl];unfold longs;rw [this]
theorem wt {f:Lt.Func} {w n:Int} (hw:5<=w) (h:Lt.pd f w n):∃ bs b,f.Blocks=bs++[b]/\Open f bs b w n:=by
 obtain ⟨h1,⟨h2,h3,h4⟩,_,h5⟩:=h;obtain ⟨bs,b,e,hb,hn,⟨k1,k2,k3⟩,hf,hi⟩:=h5 hw;refine ⟨bs,b,e,⟨h1,by rw [e] at h2; simpa using h2,?_,h4,hb,k1,k2,k3,hf,hi⟩⟩;rw [hn,e];have:=nQ bs b
 unfold longs at this ⊢;rw [this]
theorem Jh {f:Lt.Func} {n:Int} (h:Lt.pd f 9 n):Lt.ax f=true:=by
 obtain ⟨bs,b,e,o⟩:=wt (by omega) h;obtain ⟨h1,h2,h3,h4⟩:=o.hd;have hl:=o.long
 have hm:=o.most
 have hn:=o.len
 unfold Lt.ax;have hb:∀ x∈f.Blocks,Lt.block x=true:=by
  rw [e];intro x hx;rcases adJ.1 hx with hx | hx
  ·exact adI.1 o.bl x hx
  ·rw [adM.1 hx];unfold Lt.block;rw [o.nm,o.fin rfl,o.ph,o.cd]; rfl
 have hbl:Lt.blocks f.Blocks 0=true:=by
  refine Ed _ _ ?_ hb;rw [e,nQ]; omega
 have hne:decide (f.Blocks=[])=false:=by rw [e]; simp
 have hle:decide (f.Blocks.length<=256)=true:=by rw [e]; simp; omega
 rw [h1,h2,h3,h4,hbl,hne,hle]; rfl
theorem tw {r:Lt.Read} (h:Lt.Inv r) (ho:r.out=true):r.P.Funcs.all Lt.ax=true:=by
 obtain ⟨_,_,_,_,h2,h3⟩:=h;have ho:r.Where<=2\/r.Where=9:=by simpa [Lt.Read.out] using ho
 rcases ho with ho | ho
 ·exact h2 ho
 ·obtain ⟨fs,f,e,hf,hp⟩:=h3 (by omega);rw [ho] at hp;rw [e,aeT,hf];simp [Jh hp]
theorem RS {r:Lt.Read} (h:Lt.Inv r) (ho:r.out=true):Lt.bb r.P=true:=by
 have hf:=tw h ho
 obtain ⟨_,⟨h1,h2,h3⟩,⟨h4,h5,h6⟩,_⟩:=h;unfold Lt.bb;rw [hf,h4,h5,h6];simp [h1,h2,h3]
theorem Fo {p:Lt.Program} {fs:List Lt.Func} {f f':Lt.Func} {w w' n n':Int} (h:Lt.Inv (stF p fs f w n)) (hw:3<=w) (h1:3<=w') (h2:w'<=9) (hp:Lt.pd f' w' n'):Lt.Inv (stF p fs f' w' n'):=by
 obtain ⟨_,⟨a1,a2,a3⟩,⟨a4,a5,a6⟩,_,_,a7⟩:=h;obtain ⟨fs0,f0,e,hf,_⟩:=a7 hw;have e:fs++[f]=fs0++[f0]:=e
 obtain ⟨e1,_⟩:=List.append_inj' e rfl;subst e1;have a3:(fs++[f]).length<=8:=a3
 refine ⟨⟨by show 0<=w'; omega,h2⟩,⟨a1,a2,by show (fs++[f']).length<=8; simpa using a3⟩,⟨a4,a5,a6⟩,fun h=>?_,fun h=>?_,fun _=>⟨fs,f',rfl,hf,hp⟩⟩
 ·have:w'=1:=h
  omega
 ·have:w'<=2:=h
  omega
theorem kp {r:Lt.Read} (h:Lt.Inv r) (hw:3<=r.Where):∃ p fs f,r=stF p fs f r.Where r.Long/\Lt.pd f r.Where r.Long:=by
 obtain ⟨_,_,_,_,_,a7⟩:=h;obtain ⟨fs,f,e,_,hp⟩:=a7 hw;refine ⟨r.P,fs,f,?_,hp⟩;unfold stF;rw [<- e]
theorem fg {r:Lt.Read} (h:Lt.Inv r) (hw:5<=r.Where):∃ p fs f bs b,r=stB p fs f bs b r.Where r.Long/\Open f bs b r.Where r.Long:=by
 obtain ⟨p,fs,f,e,hp⟩:=kp h (by omega);obtain ⟨bs,b,e2,o⟩:=wt hw hp;refine ⟨p,fs,f,bs,b,?_,o⟩;unfold stB;rw [<- e2]; exact e
theorem uw {p:Lt.Program} {fs:List Lt.Func} {f:Lt.Func} {bs bs':List Lt.Block} {b b':Lt.Block} {w w' n n':Int} (h:Lt.Inv (stB p fs f bs b w n)) (hw:5<=w) (h1:5<=w') (h2:w'<=9) (o:Open f bs' b' w' n'):Lt.Inv (stB p fs f bs' b' w' n'):=
 Fo h (by omega) (by omega) h2 (Pt h1 o)
theorem nb {l:List Lt.Var} {v:Lt.Var} {k:Nat} (h:Lt.typed l k=true) (hl:l.length<k) (h1:Lt.Name v.Name=true) (h2:Lt.kind v.Type_=true):Lt.typed (l++[v]) k=true:=by
 unfold Lt.typed at h ⊢;simp only [ac9] at h;rw [aeT,h.2];simp [h1,h2]; omega
theorem j6 {l:List (List UInt8)} (h:Lt.fv l=true):Lt.Name (Lt.w1 l)=true/\Lt.kind (Lt.w2 l)=true:=by
 unfold Lt.fv at h;rw [aR,Qj] at h;simp only [ac9] at h;exact h.2
theorem Pm {α:Type} {l:List α} (h:l≠[]):∃ i x,l=i++[x]:=⟨l.dropLast,l.getLast h,(List.dropLast_concat_getLast h).symm⟩
theorem CH {s:Bool} {cs:List Lt.Class} {gs:List Lt.Var} {es:List Lt.Extern} {fs:List Lt.Func} {w n:Int} (h0:0<=w) (h9:w<=9) (a1:cs.length<=8) (a2:es.length<=8) (a3:fs.length<=8) (a4:Lt.typed gs 8=true) (a5:cs.all Lt.bD=true) (a6:es.all Lt.bT=true)
  (a7:w=1->cs≠[]) (a8:w<=2->fs.all Lt.ax=true) (a9:3<=w->∃ fs0 f,fs=fs0++[f]/\fs0.all Lt.ax=true/\Lt.pd f w n):Lt.Inv ⟨⟨s,cs,gs,es,fs⟩,w,n⟩:=⟨⟨h0,h9⟩,⟨a1,a2,a3⟩,⟨a4,a5,a6⟩,a7,a8,a9⟩
theorem SR {r:Lt.Read} {l:List (List UInt8)} (h:Lt.Inv r) (hz:(Lt.dk r l).1=0):Lt.Inv (Lt.dk r l).2:=by
 unfold Lt.dk at hz ⊢;split at hz
 ·cases hz
 rename_i c1; rw [if_neg c1];split at hz
 ·cases hz
 rename_i c2; rw [if_neg c2];simp only [adP,ac9,aR] at c1;have hf:=tw h c1.1.1
 obtain ⟨_,⟨a1,a2,a3⟩,⟨a4,a5,a6⟩,_⟩:=h;refine CH (by decide) (by decide) (by simp; omega) a2 a3 a4 ?_ a6 (fun _=>by simp) (fun _=>hf) (fun h=>absurd h (by decide));rw [aeT,a5];simp only [adQ,afN,afG,aeE];unfold Lt.bD;rw [c1.2]; rfl
theorem Si {r:Lt.Read} {l:List (List UInt8)} (h:Lt.Inv r) (hz:(Lt.eE r l).1=0):Lt.Inv (Lt.eE r l).2:=by
 unfold Lt.eE at hz ⊢;split at hz
 ·cases hz
 rename_i c1; rw [if_neg c1];split at hz
 ·cases hz
 rename_i c2; rw [if_neg c2];simp only [adP,ac9,decide_eq_true_eq] at c1;obtain ⟨c1,ct⟩:=c1;obtain ⟨t1,t2⟩:=j6 ct;obtain ⟨a0,⟨a1,a2,a3⟩,⟨a4,a5,a6⟩,a7,a8,a9⟩:=h;obtain ⟨i,c,e⟩:=Pm (a7 c1);rw [e,fb] at c2;rw [e] at a5 a1;rw [aeT] at a5;simp only [ac9,adQ,afN,and_true] at a5;obtain ⟨p1,p2⟩:=a5;unfold Lt.bD at p2;simp only [ac9] at p2;have key:Lt.last r.P.Classes (fun c=>{ c with Fields:=c.Fields++[⟨Lt.w1 l,Lt.w2 l⟩] })=i++[{ c with Fields:=c.Fields++[⟨Lt.w1 l,Lt.w2 l⟩] }]:=by rw [e,j0]
 show Lt.Inv ⟨⟨r.P.SSA,Lt.last r.P.Classes (fun c=>{ c with Fields:=c.Fields++[⟨Lt.w1 l,Lt.w2 l⟩] }),r.P.Globals,r.P.Externs,r.P.Funcs⟩,r.Where,r.Long⟩
 rw [key];refine CH a0.1 a0.2 (by simpa using a1) a2 a3 a4 ?_ a6 (fun _=>by simp) a8 (fun h=>by omega)
 ·rw [aeT,p1];simp only [adQ,afN,afG,aeE];unfold Lt.bD;have:=nb (k:=8) (v:=⟨Lt.w1 l,Lt.w2 l⟩) p2.2 (by omega) t1 t2
  rw [p2.1]; simpa using this
theorem nB {n k:Nat} (h:(if k<=n then (2:Int) else 0)=0):n<k:=by
 split at h
 ·cases h
 ·omega
theorem Oq {r:Lt.Read} {l:List (List UInt8)} (h:Lt.Inv r) (hz:(Lt.da r l).1=0):Lt.Inv (Lt.da r l).2:=by
 unfold Lt.da at hz ⊢;split at hz
 ·cases hz
 rename_i c1; rw [if_neg c1];have c2:=nB hz
 simp only [adP,ac9] at c1;obtain ⟨t1,t2⟩:=j6 c1.2;have hf:=tw h c1.1
 obtain ⟨_,⟨a1,a2,a3⟩,⟨a4,a5,a6⟩,_⟩:=h;exact CH (w:=2) (by decide) (by decide) a1 a2 a3 (nb (k:=8) a4 c2 t1 t2) a5 a6 (fun h=>absurd h (by decide)) (fun _=>hf) (fun h=>absurd h (by decide))
theorem Oy {r:Lt.Read} {l:List (List UInt8)} (h:Lt.Inv r) (hz:(Lt.cY r l).1=0):Lt.Inv (Lt.cY r l).2:=by
 unfold Lt.cY at hz ⊢;split at hz
 ·cases hz
 rename_i c1; rw [if_neg c1];have c2:=nB hz
 simp only [adP,ac9,aR] at c1;have hf:=tw h c1.1.1.1
 obtain ⟨_,⟨a1,a2,a3⟩,⟨a4,a5,a6⟩,_⟩:=h;refine CH (w:=2) (by decide) (by decide) a1 (by simp; omega) a3 a4 a5 ?_ (fun h=>absurd h (by decide)) (fun _=>hf) (fun h=>absurd h (by decide));rw [aeT,a6];simp only [adQ,afN,afG,aeE];unfold Lt.bT;rw [c1.1.2,c1.2.1.2,c1.2.2]; rfl
theorem Wa {r:Lt.Read} {l:List (List UInt8)} (h:Lt.Inv r) (hz:(Lt.fp r l).1=0):Lt.Inv (Lt.fp r l).2:=by
 unfold Lt.fp at hz ⊢;split at hz
 ·cases hz
 rename_i c1; rw [if_neg c1];have c2:=nB hz
 simp only [adP,ac9] at c1;obtain ⟨t1,t2⟩:=j6 c1.2;have hf:=tw h c1.1
 obtain ⟨_,⟨a1,a2,a3⟩,⟨a4,a5,a6⟩,_⟩:=h;exact CH (w:=3) (n:=0) (by decide) (by decide) a1 a2 (by simp; omega) a4 a5 a6 (fun h=>absurd h (by decide)) (fun h=>absurd h (by decide)) (fun _=>⟨r.P.Funcs,_,rfl,hf,⟨⟨t1,t2,by simp [Lt.typed],by simp [Lt.typed]⟩,⟨by simp,by decide,by decide⟩,fun _=>⟨rfl,rfl⟩,fun h=>absurd h (by decide)⟩⟩)
theorem SA {r:Lt.Read} {l:List (List UInt8)} (h:Lt.Inv r) (hz:(Lt.eJ r l).1=0):Lt.Inv (Lt.eJ r l).2:=by
 unfold Lt.eJ at hz ⊢;split at hz
 ·cases hz
 rename_i c1; rw [if_neg c1];have c2:=nB hz
 simp only [adP,ac9,decide_eq_true_eq] at c1;obtain ⟨c1,ct⟩:=c1;obtain ⟨t1,t2⟩:=j6 ct;obtain ⟨p,fs,f,e,hp⟩:=kp h (by omega);rw [e,mZ] at c2;rw [e] at h;obtain ⟨⟨k1,k2,k3,k4⟩,k5,k6,_⟩:=hp;have key:=Fo (f':={ f with Params:=f.Params++[⟨Lt.w1 l,Lt.w2 l⟩] }) (w':=3) (n':=r.Long) h (by omega) (by omega) (by omega) ⟨⟨k1,k2,nb (k:=6) k3 c2 t1 t2,k4⟩,k5,fun _=>k6 (by omega),fun h=>absurd h (by decide)⟩
 have e2:r.func (fun f=>{ f with Params:=f.Params++[⟨Lt.w1 l,Lt.w2 l⟩] })=stF p fs { f with Params:=f.Params++[⟨Lt.w1 l,Lt.w2 l⟩] } 3 r.Long:=by
  rw [e,iK,c1]; rfl
 rw [e2]; exact key
theorem Xc {r:Lt.Read} {l:List (List UInt8)} (h:Lt.Inv r) (hz:(Lt.ic r l).1=0):Lt.Inv (Lt.ic r l).2:=by
 unfold Lt.ic at hz ⊢;split at hz
 ·cases hz
 rename_i c1; rw [if_neg c1];have c2:=nB hz
 simp only [adP,ac9,decide_eq_true_eq,ad4] at c1;obtain ⟨c1,ct⟩:=c1;obtain ⟨t1,t2⟩:=j6 ct;obtain ⟨p,fs,f,e,hp⟩:=kp h (by omega);rw [e,mZ] at c2;rw [e] at h;obtain ⟨⟨k1,k2,k3,k4⟩,k5,k6,_⟩:=hp;have key:=Fo (f':={ f with Vars:=f.Vars++[⟨Lt.w1 l,Lt.w2 l⟩] }) (w':=4) (n':=r.Long) h (by omega) (by omega) (by omega) ⟨⟨k1,k2,k3,nb (k:=1024) k4 c2 t1 t2⟩,k5,fun _=>k6 (by omega),fun h=>absurd h (by decide)⟩
 have e2:r.func (fun f=>{ f with Vars:=f.Vars++[⟨Lt.w1 l,Lt.w2 l⟩] })=stF p fs { f with Vars:=f.Vars++[⟨Lt.w1 l,Lt.w2 l⟩] } r.Where r.Long:=by
  rw [e,iK]; rfl
 rw [e2]; exact key
theorem Rf {r:Lt.Read} {l:List (List UInt8)} (h:Lt.Inv r) (hz:(Lt.cR r l).1=0):Lt.Inv (Lt.cR r l).2:=by
 unfold Lt.cR at hz ⊢;split at hz
 ·cases hz
 rename_i c1; rw [if_neg c1];have c2:=nB hz
 simp only [adP,ac9,decide_eq_true_eq,ad4,aR] at c1;obtain ⟨⟨c1,_⟩,cn⟩:=c1;obtain ⟨p,fs,f,e,hp⟩:=kp h (by omega);rw [e,mZ] at c2;rw [e] at h;have e2:r.func (fun f=>{ f with Blocks:=f.Blocks++[⟨Lt.w1 l,[],[],⟨0,⟨0,[],0⟩,[],0⟩⟩] })=stF p fs { f with Blocks:=f.Blocks++[⟨Lt.w1 l,[],[],⟨0,⟨0,[],0⟩,[],0⟩⟩] } r.Where r.Long:=by
  rw [e,iK]; rfl
 rw [e2];have hall:f.Blocks.all Lt.block=true/\r.Long=((longs f.Blocks:Nat):Int)/\r.Long<=1024:=by
  by_cases h9:r.Where=9
  ·rw [h9] at hp;have hs:=nX (Jh hp)
   obtain ⟨bs,b,eb,o⟩:=wt (by omega) hp;exact ⟨adI.2 hs.bl,by rw [o.long,eb,nQ],o.most⟩
  ·obtain ⟨_,_,k6,_⟩:=hp;obtain ⟨k7,k8⟩:=k6 (by omega);rw [k7,k8];exact ⟨rfl,rfl,by decide⟩
 refine Fo h (by omega) (by omega) (by omega) (Pt (by omega) ⟨hp.1,by omega,?_,hall.2.2,hall.1,cn,rfl,rfl,fun h=>absurd h (by decide),fun h=>absurd h (by decide)⟩);show r.Long=_
 rw [hall.2.1]; simp
theorem nl {objs:Bool} {l:List (List UInt8)} {k:Int} (h:(Lt.aH l k objs).2=true):(∀ b∈(Lt.aH l k objs).1,Lt.Name b.Name=true/\Lt.aZ objs b.A=true)/\((Lt.aH l k objs).1.flatMap fun b=>[b.Name,Lt.ac b.A])=l.drop k.toNat:=by
 unfold Lt.aH at h ⊢;split at h
 ·cases h
 rename_i hc; rw [if_neg hc];cases hg:Lt.bw objs (l.drop k.toNat) with
 | none=>rw [hg] at h; cases h
 | some x=>exact xu hg
theorem Xb {r:Lt.Read} {l:List (List UInt8)} (h:Lt.Inv r) (hz:(Lt.jD r l).1=0):Lt.Inv (Lt.jD r l).2:=by
 unfold Lt.jD at hz ⊢;split at hz
 ·cases hz
 rename_i c1; rw [if_neg c1];split at hz
 ·cases hz
 rename_i c2; rw [if_neg c2];simp only [adP,ac9,decide_eq_true_eq,aeJ,decide_eq_false_iff_not,aR] at c1;obtain ⟨⟨⟨c1,cp⟩,ce⟩,cn⟩:=c1;obtain ⟨p,fs,f,bs,b,e,o⟩:=fg h (by omega);rw [e] at h;have e2:({ r.block (fun b=>{ b with Phis:=b.Phis++[⟨Lt.w1 l,(Lt.aH l 2 false).1.map fun x=>⟨x.Name,x.A⟩⟩] }) with Long:=r.Long+1 }:Lt.Read)=stB p fs f bs { b with Phis:=b.Phis++[⟨Lt.w1 l,(Lt.aH l 2 false).1.map fun x=>⟨x.Name,x.A⟩⟩] } 5 (r.Long+1):=by
  have:r.block (fun b=>{ b with Phis:=b.Phis++[⟨Lt.w1 l,(Lt.aH l 2 false).1.map fun x=>⟨x.Name,x.A⟩⟩] })=stB p fs f bs { b with Phis:=b.Phis++[⟨Lt.w1 l,(Lt.aH l 2 false).1.map fun x=>⟨x.Name,x.A⟩⟩] } r.Where r.Long:=by
   rw [e,fu]; rfl
  rw [this,c1]; rfl
 rw [e2];have hl:=o.long
 refine uw h (by omega) (by omega) (by omega) ⟨o.hd,o.len,?_,by omega,o.bl,o.nm,?_,o.cd,fun h=>absurd h (by decide),fun h=>absurd h (by decide)⟩
 ·simp only [adD,adF,adL]; omega
 ·rw [aeT,o.ph];simp only [adQ,afN,afG,aeE];unfold Lt.phi;have hp:=(nl cp).1
  have e1:decide (((Lt.aH l 2 false).1.map fun x=>(⟨x.Name,x.A⟩:Lt.In))=[])=false:=by
   simp only [decide_eq_false_iff_not,List.map_eq_nil_iff];intro e; rw [e] at ce; exact ce rfl
  have e3:((Lt.aH l 2 false).1.map fun x=>(⟨x.Name,x.A⟩:Lt.In)).all Lt.lb=true:=by
   rw [agB,adI];intro x hx;show (Lt.Name x.Name&&Lt.aZ false x.A)=true
   rw [(hp x hx).1,(hp x hx).2]; rfl
  rw [cn,e1,e3];simp; omega
theorem Lw {dst:List UInt8} {l:List (List UInt8)} {x:Lt.Instr} (h:Lt.ej dst l=some x) (hd:dst≠[]->Lt.Name dst=true):Lt.instr x=true/\x.Frames=[]/\x.Objs=[]:=by
 unfold Lt.ej at h;split at h
 ·cases h
 rename_i c1;simp only [adP,ac9,beq_iff_eq] at c1;obtain ⟨_,o2,o3⟩:=I3 c1.1;obtain ⟨_,e2,e3,e4,e5,e6⟩:=oc (Lt.sOp (Lt.w0 l)).1;rw [e3] at c1;split at h
 ·cases h
 rename_i nm rest hr;split at h
 ·rename_i c2;simp only [ac9,decide_eq_true_eq] at c2;obtain ⟨⟨⟨c2,c3⟩,c4⟩,c5⟩:=c2;rw [e4,aR] at c3;rw [e5] at c4;rw [e6] at c5;simp only [ac8] at h;subst h;refine ⟨?_,rfl,rfl⟩;have hsa:=(mX c2).1
  have hN:(Lt.Of (Lt.sOp (Lt.w0 l)).1).1.Named=!decide (nm=[]):=by
   unfold Lt.Fe at hr;cases hn:(Lt.Of (Lt.sOp (Lt.w0 l)).1).1.Named with
   | true=>
    rw [hn] at c3;have:Lt.Name nm=true:=by simpa using c3
    cases nm with
    | nil=>cases this
    | cons a r=>rfl
   | false=>
    split at hr
    ·rename_i hc;have h26:(Lt.Of 26).1.Named=true:=by decide +kernel
     have h27:(Lt.Of 27).1.Named=true:=by decide +kernel
     rcases hc with e | e <;> rw [e] at hn
     ·rw [h26] at hn; cases hn
     ·rw [h27] at hn; cases hn
    ·rw [e4,hn,if_neg (by decide)] at hr;simp only [ac8,Prod.mk.injEq] at hr;rw [<- hr.1]; rfl
  unfold Lt.instr;dsimp only;rw [o3,hsa,c1.2,<- hN,decide_eq_true c4,decide_eq_true c5,c3];have h1:(!(!decide (dst=[])&&!Lt.Name dst))=true:=by
   by_cases hc:dst=[]
   ·simp [hc]
   ·simp [hd hc]
  have h2:(if (Lt.sOp (Lt.w0 l)).1≠31/\(Lt.sOp (Lt.w0 l)).1≠34 then decide (([]:List Lt.Frame)=[])&&decide (([]:List Lt.Virt)=[]) else ([]:List Lt.Frame).all Lt.frame&&([]:List Lt.Virt).all Lt.virt)=true:=by
   split <;> rfl
  rw [h1,h2];simp
 ·cases h
theorem LA {r:Lt.Read} {l:List (List UInt8)} (h:Lt.Inv r) (hz:(Lt.cz r l).1=0):Lt.Inv (Lt.cz r l).2:=by
 unfold Lt.cz at hz ⊢;split at hz
 ·cases hz
 rename_i c0; rw [if_neg c0];split at hz
 ·cases hz
 rename_i c1; rw [if_neg c1];cases hs:Lt.ej (if Lt.sEq l then Lt.w0 l else []) (if Lt.sEq l then l.drop 2 else l) with
 | none=>rw [hs] at hz; cases hz
 | some x=>
  rw [hs] at hz;simp only at hz ⊢
  split at hz
  ·cases hz
  rename_i c2; rw [if_neg c2];have hin:5<=r.Where/\r.Where<=8:=by simpa [Lt.Read.ins] using c1
  obtain ⟨hx,hf,ho⟩:=Lw hs (by
   rw [aR] at c0;cases he:Lt.sEq l with
   | true=>rw [he] at c0; intro _; rw [if_pos rfl]; simpa using c0
   | false=>intro h; exact absurd (if_neg (by decide)) h)
  obtain ⟨p,fs,f,bs,b,e,o⟩:=fg h (by omega);rw [e] at h;have e2:({ r.block (fun b=>{ b with Code:=b.Code++[x] }) with Where:=if x.Op=31\/x.Op=34 then 7 else 6,Long:=r.Long+1 }:Lt.Read)=stB p fs f bs { b with Code:=b.Code++[x] } (if x.Op=31\/x.Op=34 then 7 else 6) (r.Long+1):=by
   have:r.block (fun b=>{ b with Code:=b.Code++[x] })=stB p fs f bs { b with Code:=b.Code++[x] } r.Where r.Long:=by
    rw [e,fu]; rfl
   rw [this]; rfl
  rw [e2];have hl:=o.long
  have hw:∀ {k:Int},k=(if x.Op=31\/x.Op=34 then (7:Int) else 6)->5<=k/\k<=8/\(7<=k->x.Op=31\/x.Op=34):=by
   rintro k rfl
   split
   ·rename_i hc; exact ⟨by omega,by omega,fun _=>hc⟩
   ·exact ⟨by omega,by omega,fun h=>by omega⟩
  obtain ⟨w1,w2,w3⟩:=hw rfl;refine uw h (by omega) w1 (by omega) ⟨o.hd,o.len,?_,by omega,o.bl,o.nm,o.ph,?_,fun h=>by omega,fun _ _=>⟨b.Code,x,rfl,w3⟩⟩
  ·simp only [adD,adF,adL]; omega
  ·rw [aeT,o.cd];simp [hx]
theorem A8 {c:Lt.Instr} {fr:List Lt.Frame} {ob:List Lt.Virt} (h:Lt.instr c=true) (ho:c.Op=31\/c.Op=34) (h1:fr.length<=16) (h2:ob.length<=99) (h3:∀ x∈fr,Lt.frame x=true) (h4:∀ x∈ob,Lt.virt x=true):Lt.instr { c with Frames:=fr,Objs:=ob }=true:=by
 unfold Lt.instr at h ⊢;simp only [ac9] at h ⊢;obtain ⟨⟨k1,⟨⟨⟨k2,k3⟩,k4⟩,_⟩,_⟩,_⟩:=h;refine ⟨⟨k1,⟨⟨⟨k2,k3⟩,k4⟩,by simpa using h1⟩,by simpa using h2⟩,?_⟩;rw [if_neg (by omega),ac9,adI,adI];exact ⟨h3,h4⟩
theorem Z2 {r:Lt.Read} {l:List (List UInt8)} (h:Lt.Inv r) (hz:(Lt.sAt r l).1=0):Lt.Inv (Lt.sAt r l).2:=by
 unfold Lt.sAt at hz ⊢;split at hz
 ·cases hz
 rename_i c1; rw [if_neg c1];split at hz
 ·cases hz
 rename_i c2; rw [if_neg c2];simp only [adP,ac9,decide_eq_true_eq,aR] at c1;obtain ⟨⟨⟨⟨c1,cp⟩,cf⟩,cb⟩,⟨cn,c0⟩,c9⟩:=c1;obtain ⟨p,fs,f,bs,b,e,o⟩:=fg h (by omega);obtain ⟨cs,c,ec,hop⟩:=o.ins (by omega) (by omega);have hop:=hop (by omega)
 have e':r=stI p fs f bs b cs c r.Where r.Long:=by
  unfold stI; rw [<- ec]; exact e
 have hc:=o.cd
 rw [ec,aeT] at hc;simp only [ac9,adQ,afN,and_true] at hc;have hio:=eP hc.2
 rw [e',zn] at c2;rw [e] at h;have e2:r.instr (fun x=>{ x with Frames:=x.Frames++[⟨Lt.w1 l,Lt.w2 l,(Lt.aY (Lt.w3 l)).1,(Lt.aH l 4 true).1⟩] })=stI p fs f bs b cs { c with Frames:=c.Frames++[⟨Lt.w1 l,Lt.w2 l,(Lt.aY (Lt.w3 l)).1,(Lt.aH l 4 true).1⟩] } r.Where r.Long:=by
  rw [e',mJ]; rfl
 rw [e2];have hl:=o.long
 refine uw h (by omega) (by omega) (by omega) ⟨o.hd,o.len,?_,o.most,o.bl,o.nm,o.ph,?_,fun h=>by omega,fun _ _=>⟨cs,_,rfl,fun _=>hop⟩⟩
 ·rw [hl,ec]; simp
 ·rw [aeT,hc.1];simp only [adQ,afN,afG,aeE];refine A8 (c:=c) (ob:=c.Objs) hc.2 hop (by simp; omega) hio.objs (fun x hx=>?_) hio.ob;rcases adJ.1 hx with hx | hx
  ·exact hio.fr x hx
  ·rw [adM.1 hx];have hp:=(nl cp).1
   unfold Lt.frame;have e3:(Lt.aH l 4 true).1.all Lt.gn=true:=by
    rw [adI];intro x hx;show (Lt.Name x.Name&&Lt.aZ true x.A)=true
    rw [(hp x hx).1,(hp x hx).2]; rfl
   simp only
   rw [cf,cb,e3,decide_eq_true c0,decide_eq_true c9,decide_eq_true (show (Lt.aH l 4 true).1.length<=16 by omega)]; rfl
theorem XH {r:Lt.Read} {l:List (List UInt8)} (h:Lt.Inv r) (hi:r.ins=true) (hz:(Lt.jB r l).1=0):Lt.Inv (Lt.jB r l).2:=by
 unfold Lt.jB at hz ⊢;split at hz
 ·cases hz
 rename_i c1; rw [if_neg c1];have c2:=nB hz
 have hin:5<=r.Where/\r.Where<=8:=by simpa [Lt.Read.ins] using hi
 simp only [adP,ac9,decide_eq_true_eq,aR] at c1;obtain ⟨⟨⟨⟨c1,c3⟩,c4⟩,cn⟩,ca⟩:=c1;obtain ⟨p,fs,f,bs,b,e,o⟩:=fg h (by omega);obtain ⟨cs,c,ec,hop⟩:=o.ins (by omega) (by omega);have hop:=hop (by omega)
 have e':r=stI p fs f bs b cs c r.Where r.Long:=by
  unfold stI; rw [<- ec]; exact e
 have hc:=o.cd
 rw [ec,aeT] at hc;simp only [ac9,adQ,afN,and_true] at hc;have hio:=eP hc.2
 rw [e',zn] at c2;rw [e] at h;have e2:({ r.instr (fun x=>{ x with Objs:=x.Objs++[⟨Lt.w1 l,(Lt.dg (l.drop 2) true).1⟩] }) with Where:=8 }:Lt.Read)=stI p fs f bs b cs { c with Objs:=c.Objs++[⟨Lt.w1 l,(Lt.dg (l.drop 2) true).1⟩] } 8 r.Long:=by
  have:r.instr (fun x=>{ x with Objs:=x.Objs++[⟨Lt.w1 l,(Lt.dg (l.drop 2) true).1⟩] })=stI p fs f bs b cs { c with Objs:=c.Objs++[⟨Lt.w1 l,(Lt.dg (l.drop 2) true).1⟩] } r.Where r.Long:=by
   rw [e',mJ]; rfl
  rw [this]; rfl
 rw [e2];have hl:=o.long
 refine uw h (by omega) (by omega) (by omega) ⟨o.hd,o.len,?_,o.most,o.bl,o.nm,o.ph,?_,fun h=>by omega,fun _ _=>⟨cs,_,rfl,fun _=>hop⟩⟩
 ·rw [hl,ec]; simp
 ·rw [aeT,hc.1];simp only [adQ,afN,afG,aeE];refine A8 (c:=c) (fr:=c.Frames) hc.2 hop hio.frames (by simp; omega) hio.fr (fun x hx=>?_);rcases adJ.1 hx with hx | hx
  ·exact hio.ob x hx
  ·rw [adM.1 hx];obtain ⟨k1,k2,_⟩:=mX ca;rw [adT] at k2;unfold Lt.virt;simp only
   rw [cn,k1];simp; omega
theorem Ot {l:List (List UInt8)} {t:Lt.Term} (h:Lt.gJ l=some t):Lt.cr t=true:=by
 unfold Lt.gJ at h;split at h
 ·split at h
  ·rename_i c;simp only [ac9,aR] at c;simp only [ac8] at h; subst h;simp [Lt.cr,Lt.zT];exact c.2
  ·cases h
 split at h
 ·split at h
  ·rename_i c;simp only [ac9,aR] at c;simp only [ac8] at h; subst h;have:=mT c.2
   simp [Lt.cr];exact ⟨c.1.2,this⟩
  ·cases h
 split at h
 ·split at h
  ·rename_i c;simp only [ac9] at c;simp only [ac8] at h; subst h;have:=mT c.2
   simp [Lt.cr];exact this
  ·cases h
 split at h
 ·split at h
  ·simp only [ac8] at h; subst h;simp [Lt.cr,Lt.zT]
  ·cases h
 ·cases h
theorem Yu {r:Lt.Read} {l:List (List UInt8)} (h:Lt.Inv r) (hi:r.ins=true) (hz:(Lt.oE r l).1=0):Lt.Inv (Lt.oE r l).2:=by
 have hin:5<=r.Where/\r.Where<=8:=by simpa [Lt.Read.ins] using hi
 unfold Lt.oE at hz ⊢;cases hs:Lt.gJ l with
 | none=>rw [hs] at hz; cases hz
 | some t=>
  have ht:=Ot hs
  obtain ⟨p,fs,f,bs,b,e,o⟩:=fg h (by omega);rw [e] at h;have e2:({ r.block (fun b=>{ b with End:=t }) with Where:=9 }:Lt.Read)=stB p fs f bs { b with End:=t } 9 r.Long:=by
   have:r.block (fun b=>{ b with End:=t })=stB p fs f bs { b with End:=t } r.Where r.Long:=by
    rw [e,fu]; rfl
   rw [this]; rfl
  show Lt.Inv ({ r.block (fun b=>{ b with End:=t }) with Where:=9 }:Lt.Read)
  rw [e2];exact uw h (by omega) (by omega) (by omega) ⟨o.hd,o.len,o.long,o.most,o.bl,o.nm,o.ph,o.cd,fun _=>ht,fun h1 h2=>absurd h2 (by omega)⟩
theorem Wh {r:Lt.Read} {l:List (List UInt8)} (h:Lt.Inv r) (hz:(Lt.bA r l).1.2=0):Lt.Inv (Lt.bA r l).2:=by
 unfold Lt.bA at hz ⊢;split at hz
 ·rename_i c; rw [if_pos c]; exact SR h hz
 rename_i c; rw [if_neg c];split at hz
 ·rename_i c; rw [if_pos c]; exact Si h hz
 rename_i c; rw [if_neg c];split at hz
 ·rename_i c; rw [if_pos c]; exact Oq h hz
 rename_i c; rw [if_neg c];split at hz
 ·rename_i c; rw [if_pos c]; exact Oy h hz
 rename_i c; rw [if_neg c];split at hz
 ·rename_i c; rw [if_pos c]; exact Wa h hz
 rename_i c; rw [if_neg c]; exact h
theorem Wm {r:Lt.Read} {l:List (List UInt8)} (h:Lt.Inv r) (hz:(Lt.bN r l).1.2=0):Lt.Inv (Lt.bN r l).2:=by
 unfold Lt.bN at hz ⊢;split at hz
 ·rename_i c; rw [if_pos c]; exact SA h hz
 rename_i c; rw [if_neg c];split at hz
 ·rename_i c; rw [if_pos c]; exact Xc h hz
 rename_i c; rw [if_neg c];split at hz
 ·rename_i c; rw [if_pos c]; exact Rf h hz
 rename_i c; rw [if_neg c];split at hz
 ·rename_i c; rw [if_pos c]; exact Xb h hz
 rename_i c; rw [if_neg c]; exact h
theorem R6 {r:Lt.Read} {l:List (List UInt8)} (h:Lt.Inv r) (hz:(Lt.bg r l).1.2=0):Lt.Inv (Lt.bg r l).2:=by
 unfold Lt.bg at hz ⊢;split at hz
 ·rename_i c; rw [if_pos c];split at hz
  ·cases hz
  rename_i ci; rw [if_neg ci];have hi:r.ins=true:=by simpa using ci
  split at hz
  ·rename_i c; rw [if_pos c]; exact Z2 h hz
  rename_i c; rw [if_neg c];split at hz
  ·rename_i c; rw [if_pos c]; exact XH h hi hz
  rename_i c; rw [if_neg c]; exact Yu h hi hz
 rename_i c; rw [if_neg c]; exact h
theorem u6 {r:Lt.Read} {l:List (List UInt8)} {b:Bool} (h:Lt.Inv r) (hz:(Lt.aI r l b).1=0):Lt.Inv (Lt.aI r l b).2:=by
 unfold Lt.aI at hz ⊢;split at hz
 ·rename_i c; rw [if_pos c]; exact LA h hz
 rename_i c; rw [if_neg c];split at hz
 ·rename_i c; rw [if_pos c];split at hz
  ·cases hz
  rename_i c; rw [if_neg c]; exact h
 rename_i c; rw [if_neg c];split at hz
 ·rename_i c; rw [if_pos c]; exact Wh h hz
 rename_i c; rw [if_neg c];split at hz
 ·rename_i c; rw [if_pos c]; exact Wm h hz
 rename_i c; rw [if_neg c];split at hz
 ·rename_i c; rw [if_pos c]; exact R6 h hz
 rename_i c; rw [if_neg c]; exact LA h hz
theorem Zn:Lt.Inv ⟨⟨false,[],[],[],[]⟩,0,0⟩:=⟨⟨by decide,by decide⟩,⟨by decide,by decide,by decide⟩,⟨rfl,rfl,rfl⟩,fun h=>absurd h (by decide),fun _=>rfl,fun h=>absurd h (by decide)⟩
theorem uQ:∀ (L:List Lt.RLine) (b:Bool) (r:Lt.Read),Lt.Inv r->(Lt.dx L b r).2.2=0->Lt.bb (Lt.dx L b r).1=true
 | [],b,r,h,hz=>by
  rw [Lt.dx] at hz ⊢;split at hz
  ·rename_i c; rw [if_pos c]; exact RS h c
  ·cases hz
 | x::t,b,r,h,hz=>by
  rw [Lt.dx] at hz ⊢;split at hz
  ·rename_i c; rw [if_pos c]; exact uQ t false _ (u6 h c) hz
  ·rename_i c; exact absurd hz c
theorem La {s:List UInt8} (h:(Lt.bY s).2.2=0):Lt.bb (Lt.bY s).1=true:=by
 unfold Lt.bY at h ⊢;split at h
 ·rename_i c; rw [if_pos c]; exact uQ _ _ _ Zn h
 ·rename_i c; exact absurd h c
end Go.Am
end

section
namespace Go.Am
open Go
def hd (p:Lt.Program):Nat:=p.Classes.length+p.Globals.length+p.Externs.length
def Rel (w:Int) (r:Lt.Reader) (x:Lt.Read):Prop:=
 (r.heads<hd x.P/\((w=1/\x.Where=1)\/(w=0/\x.Where=2))) \/
 (¬ r.heads<hd x.P/\(0<=x.Long/\x.Long<=1024)/\((2<=w/\w<=7/\x.Where=w+1)\/(w=0/\x.Where=9))) \/
 (¬ r.heads<hd x.P/\w=r.where_/\x.Where=r.abs.Where/\x.Long=r.long)
theorem sG {r:Lt.Reader} (h:r.inv) (hw:3<=r.abs.Where):0<=r.long:=by
 obtain ⟨_,_,_,h4⟩:=h;refine h4.2 ⟨fun e=>?_,by omega⟩;unfold Lt.Reader.abs at hw;rw [e] at hw;simp at hw
section
variable {r:Lt.Reader} {l:List (List UInt8)}
theorem QI (hz:(Lt.dk r.abs l).1=0):Rel 1 r (Lt.dk r.abs l).2:=by
 unfold Lt.dk at hz ⊢;split at hz
 ·simp at hz
 ·rename_i h1;rw [if_neg h1];split at hz
  ·simp at hz
  ·rename_i h2;rw [if_neg h2];refine .inl ⟨?_,.inl ⟨rfl,rfl⟩⟩;simp only [hd,Lt.Reader.heads,oq,adD,adX]; omega
theorem QF (hz:(Lt.eE r.abs l).1=0):Rel r.where_ r (Lt.eE r.abs l).2:=by
 unfold Lt.eE at hz ⊢;split at hz
 ·simp at hz
 ·rename_i h1;rw [if_neg h1];split at hz
  ·simp at hz
  ·rename_i h2;rw [if_neg h2];refine .inr (.inr ⟨?_,rfl,rfl,rfl⟩);simp only [hd,Lt.Reader.heads,oq,Lt.last,aeK]; omega
theorem Nc (hz:(Lt.da r.abs l).1=0):Rel 0 r (Lt.da r.abs l).2:=by
 unfold Lt.da at hz ⊢;split at hz
 ·simp at hz
 ·rename_i h1;rw [if_neg h1];refine .inl ⟨?_,.inr ⟨rfl,rfl⟩⟩;simp only [hd,Lt.Reader.heads,oq,adD,adX]; omega
theorem Nb (hz:(Lt.cY r.abs l).1=0):Rel 0 r (Lt.cY r.abs l).2:=by
 unfold Lt.cY at hz ⊢;split at hz
 ·simp at hz
 ·rename_i h1;rw [if_neg h1];refine .inl ⟨?_,.inr ⟨rfl,rfl⟩⟩;simp only [hd,Lt.Reader.heads,oq,adD,adX]; omega
theorem WB (hz:(Lt.fp r.abs l).1=0):Rel 2 r (Lt.fp r.abs l).2:=by
 unfold Lt.fp at hz ⊢;split at hz
 ·simp at hz
 ·rename_i h1;rw [if_neg h1];exact .inr (.inl ⟨afL _,⟨agO _,show (0:Int)<=1024 by decide⟩,.inl ⟨by decide,by decide,rfl⟩⟩)
variable (h:r.inv)
theorem QL (hz:(Lt.eJ r.abs l).1=0):Rel r.where_ r (Lt.eJ r.abs l).2:=by
 unfold Lt.eJ at hz ⊢;split at hz
 ·simp at hz
 ·rename_i h1;rw [if_neg h1];exact .inr (.inr ⟨afL _,rfl,rfl,rfl⟩)
include h
theorem X7 (hz:(Lt.ic r.abs l).1=0):Rel 3 r (Lt.ic r.abs l).2:=by
 unfold Lt.ic at hz ⊢;split at hz
 ·simp at hz
 ·rename_i h1;rw [if_neg h1];have hw:3<=r.abs.Where:=by simp at h1; omega
  exact .inr (.inl ⟨afL _,⟨sG h hw,h.2.2.1.2⟩,.inl ⟨by decide,by decide,rfl⟩⟩)
theorem RI (hz:(Lt.cR r.abs l).1=0):Rel 4 r (Lt.cR r.abs l).2:=by
 unfold Lt.cR at hz ⊢;split at hz
 ·simp at hz
 ·rename_i h1;rw [if_neg h1];have hw:3<=r.abs.Where:=by simp at h1; omega
  exact .inr (.inl ⟨afL _,⟨sG h hw,h.2.2.1.2⟩,.inl ⟨by decide,by decide,rfl⟩⟩)
theorem XE (hz:(Lt.jD r.abs l).1=0):Rel 4 r (Lt.jD r.abs l).2:=by
 unfold Lt.jD at hz ⊢;split at hz
 ·simp at hz
 ·rename_i h1;rw [if_neg h1];split at hz
  ·simp at hz
  ·rename_i h2;rw [if_neg h2];have hw:r.abs.Where=5:=by
    simp only [adP,ac9,decide_eq_true_eq] at h1;exact h1.1.1.1
   have h0:=sG h (by omega)
   have hl:¬ 1024<=r.long:=fun e=>h2 (.inr e)
   exact .inr (.inl ⟨afL _,⟨by show 0<=r.long+1; omega,by show r.long+1<=1024; omega⟩,.inl ⟨by decide,by decide,hw⟩⟩)
theorem JC (hz:(Lt.cz r.abs l).1=0):Rel ((Lt.cz r.abs l).2.Where - 1) r (Lt.cz r.abs l).2:=by
 unfold Lt.cz at hz ⊢;split at hz
 ·simp at hz
 ·rename_i h1;rw [if_neg h1];split at hz
  ·simp at hz
  ·rename_i h2;rw [if_neg h2];split at hz
   ·simp at hz
   ·rename_i x hx;simp only [hx];split at hz
    ·simp at hz
    ·rename_i hl;rw [if_neg hl];have hw:3<=r.abs.Where:=by
      have:r.abs.ins=true:=by simpa using h2
      unfold Lt.Read.ins at this;simp at this; omega
     have h0:=sG h hw
     have hl:¬ 1024<=r.long:=hl
     refine .inr (.inl ⟨afL _,⟨by show 0<=r.long+1; omega,by show r.long+1<=1024; omega⟩,.inl ?_⟩);dsimp only;split <;> decide
theorem Zt (hz:(Lt.sAt r.abs l).1=0):Rel 6 r (Lt.sAt r.abs l).2:=by
 unfold Lt.sAt at hz ⊢;split at hz
 ·simp at hz
 ·rename_i h1;rw [if_neg h1];split at hz
  ·simp at hz
  ·rename_i h2;rw [if_neg h2];have hw:r.abs.Where=7:=by
    simp only [adP,ac9,decide_eq_true_eq] at h1;exact h1.1.1.1.1
   exact .inr (.inl ⟨afL _,⟨sG h (by omega),h.2.2.1.2⟩,.inl ⟨by decide,by decide,hw⟩⟩)
theorem Xr (hz:(Lt.jB r.abs l).1=0):Rel 7 r (Lt.jB r.abs l).2:=by
 unfold Lt.jB at hz ⊢;split at hz
 ·simp at hz
 ·rename_i h1;rw [if_neg h1];have hw:7<=r.abs.Where:=by
   simp only [adP,ac9,decide_eq_true_eq] at h1;exact h1.1.1.1.1
  exact .inr (.inl ⟨afL _,⟨sG h (by omega),h.2.2.1.2⟩,.inl ⟨by decide,by decide,rfl⟩⟩)
theorem Yq (hin:r.abs.ins=true) (hz:(Lt.oE r.abs l).1=0):Rel 0 r (Lt.oE r.abs l).2:=by
 have hw:3<=r.abs.Where:=by
  unfold Lt.Read.ins at hin;simp at hin; omega
 unfold Lt.oE at hz ⊢;split at hz
 ·exact .inr (.inl ⟨afL _,⟨sG h hw,h.2.2.1.2⟩,.inr ⟨rfl,rfl⟩⟩)
 ·simp at hz
end
theorem DT {r:Lt.Reader} {x y:Int×Lt.Read} {w:Int} (h1:x.1=y.1) (h2:x.1=0->x.2=y.2):Lt.gE r x w=Lt.gE r y w:=by
 unfold Lt.gE;rw [<- h1];split
 ·rename_i h; rw [h2 h]
 ·rfl
theorem UV {l:List (List UInt8)} (h:Lt.w0 l=Lt.ig\/Lt.w0 l=Lt.cu\/Lt.w0 l=Lt.nY\/Lt.w0 l=Lt.jg):Lt.p9 l=Lt.gJ l:=by
 unfold Lt.p9;by_cases h3:Lt.w0 l=Lt.ig\/Lt.w0 l=Lt.cu\/Lt.w0 l=Lt.nY
 ·rw [if_pos h3]
 ·have e:Lt.w0 l=Lt.jg:=by
   rcases h with h | h | h | h
   ·exact absurd (.inl h) h3
   ·exact absurd (.inr (.inl h)) h3
   ·exact absurd (.inr (.inr h)) h3
   ·exact h
  rw [if_neg h3];unfold Lt.gJ;rw [if_neg (fun e=>h3 (.inl e)),if_neg (fun e=>h3 (.inr (.inl e))),if_neg (fun e=>h3 (.inr (.inr e))),if_pos e]
theorem Qx (r:Lt.Reader) (l:List (List UInt8)) (h:r.inv):∃ w,Lt.rK r l=Lt.gE r (Lt.aI r.abs l r.first) w/\((Lt.aI r.abs l r.first).1=0->Rel w r (Lt.aI r.abs l r.first).2):=by
 have ff:∀ x:Lt.Read,¬ (((false,(0:Int)),x).1.1=true):=fun x=>by simp
 unfold Lt.rK;by_cases hs:Lt.sEq l=true
 ·have e:Lt.aI r.abs l r.first=Lt.cz r.abs l:=by unfold Lt.aI; rw [if_pos hs]
  rw [e,if_pos hs]; exact ⟨_,rfl,JC h⟩
 rw [if_neg hs];by_cases n0:Lt.w0 l=Lt.kB
 ·have e:Lt.aI r.abs l r.first=if (r.first&&decide (l.length=1))=false then (3,r.abs) else (0,{ r.abs with P:={ r.p with SSA:=true } }):=by unfold Lt.aI; rw [if_neg hs,if_pos n0]; rfl
  rw [e,if_pos n0];refine ⟨_,rfl,fun hz=>?_⟩;split at hz
  ·simp at hz
  ·rename_i hc;rw [if_neg hc];exact .inr (.inr ⟨afL _,rfl,rfl,rfl⟩)
 rw [if_neg n0];have e0:Lt.aI r.abs l r.first=if (Lt.bA r.abs l).1.1 then ((Lt.bA r.abs l).1.2,(Lt.bA r.abs l).2) else if (Lt.bN r.abs l).1.1 then ((Lt.bN r.abs l).1.2,(Lt.bN r.abs l).2) else if (Lt.bg r.abs l).1.1 then ((Lt.bg r.abs l).1.2,(Lt.bg r.abs l).2) else Lt.cz r.abs l:=by
  unfold Lt.aI; rw [if_neg hs,if_neg n0]
 rw [e0];unfold Lt.bA;by_cases n1:Lt.w0 l=Lt.fw
 ·rw [if_pos n1,if_pos n1]; exact ⟨_,rfl,QI⟩
 rw [if_neg n1,if_neg n1];by_cases n2:Lt.w0 l=Lt.gR
 ·rw [if_pos n2,if_pos n2]; exact ⟨_,rfl,QF⟩
 rw [if_neg n2,if_neg n2];by_cases n3:Lt.w0 l=Lt.fj
 ·rw [if_pos n3,if_pos n3]; exact ⟨_,rfl,Nc⟩
 rw [if_neg n3,if_neg n3];by_cases n4:Lt.w0 l=Lt.eu
 ·rw [if_pos n4,if_pos n4]; exact ⟨_,rfl,Nb⟩
 rw [if_neg n4,if_neg n4];by_cases n5:Lt.w0 l=Lt.pi
 ·rw [if_pos n5,if_pos n5]; exact ⟨_,rfl,WB⟩
 rw [if_neg n5,if_neg n5,if_neg (ff _)];unfold Lt.bN;by_cases n6:Lt.w0 l=Lt.eh
 ·rw [if_pos n6,if_pos n6]; exact ⟨_,rfl,QL⟩
 rw [if_neg n6,if_neg n6];by_cases n7:Lt.w0 l=Lt.oF
 ·rw [if_pos n7,if_pos n7]; exact ⟨_,rfl,X7 h⟩
 rw [if_neg n7,if_neg n7];by_cases n8:Lt.w0 l=Lt.eI
 ·rw [if_pos n8,if_pos n8]; exact ⟨_,rfl,RI h⟩
 rw [if_neg n8,if_neg n8];by_cases n9:Lt.w0 l=Lt.t8
 ·rw [if_pos n9,if_pos n9]; exact ⟨_,rfl,XE h⟩
 rw [if_neg n9,if_neg n9,if_neg (ff _)];have eS:(Lt.w0 l=Lt.kAt\/Lt.w0 l=Lt.l6\/Lt.w0 l=Lt.ig\/Lt.w0 l=Lt.cu\/Lt.w0 l=Lt.nY\/Lt.w0 l=Lt.jg)->Lt.bg r.abs l=if r.abs.ins=false then ((true,3),r.abs) else if Lt.w0 l=Lt.kAt then ((true,(Lt.sAt r.abs l).1),(Lt.sAt r.abs l).2) else if Lt.w0 l=Lt.l6 then ((true,(Lt.jB r.abs l).1),(Lt.jB r.abs l).2) else ((true,(Lt.oE r.abs l).1),(Lt.oE r.abs l).2):=fun hh=>by
  unfold Lt.bg; rw [if_pos hh]
 by_cases n10:Lt.w0 l=Lt.kAt
 ·rw [if_pos n10,eS (.inl n10)];by_cases hin:r.abs.ins=false
  ·rw [if_pos hin];refine ⟨6,?_,fun hz=>by simp at hz⟩;have:(Lt.sAt r.abs l).1=3:=by
    have:decide (r.abs.Where=7)=false:=by
     unfold Lt.Read.ins at hin;simp at hin; simp; omega
    unfold Lt.sAt;rw [this]; rfl
   exact DT this (fun hz=>by rw [this] at hz; simp at hz)
  ·rw [if_neg hin,if_pos n10]; exact ⟨_,rfl,Zt h⟩
 rw [if_neg n10];by_cases n11:Lt.w0 l=Lt.l6
 ·rw [if_pos n11,eS (.inr (.inl n11))];by_cases hin:r.abs.ins=false
  ·unfold Lt.mY;rw [if_pos hin,if_pos hin];exact ⟨7,rfl,fun hz=>by simp at hz⟩
  ·unfold Lt.mY;rw [if_neg hin,if_neg hin,if_neg n10,if_pos n11]; exact ⟨_,rfl,Xr h⟩
 rw [if_neg n11];by_cases n12:Lt.w0 l=Lt.ig\/Lt.w0 l=Lt.cu\/Lt.w0 l=Lt.nY\/Lt.w0 l=Lt.jg
 ·rw [if_pos n12,eS (.inr (.inr n12))];by_cases hin:r.abs.ins=false
  ·unfold Lt.CX;rw [if_pos hin,if_pos hin];exact ⟨0,rfl,fun hz=>by simp at hz⟩
  ·unfold Lt.CX;rw [if_neg hin,if_neg hin,if_neg n10,if_neg n11,UV n12];refine ⟨0,DT ?_ ?_,Yq h (by simpa using hin)⟩
   ·unfold Lt.oE; cases Lt.gJ l <;> rfl
   ·unfold Lt.oE; cases Lt.gJ l
    ·intro hz; simp at hz
    ·intro _; rfl
 have eN:Lt.bg r.abs l=((false,0),r.abs):=by
  unfold Lt.bg; rw [if_neg (fun hh=>hh.elim n10 (fun hh=>hh.elim n11 n12))]
 rw [if_neg n12,eN,if_neg (ff _)];exact ⟨_,rfl,JC h⟩
def Sim (a b:Lt.Read):Prop:=a.P=b.P/\(a=b\/(a.Where<=2/\b.Where<=2/\(a.Where=1 ↔ b.Where=1)))
theorem PH {P:Lt.Program} {w n m:Int} (h:Lt.Inv ⟨P,w,n⟩) (hw:w<=2):Lt.Inv ⟨P,w,m⟩:=
 ⟨h.1,h.2.1,h.2.2.1,h.2.2.2.1,h.2.2.2.2.1,fun h3=>absurd h3 (by show ¬ 3<=w; omega)⟩
def js (r:Lt.Reader) (w:Int) (x:Lt.Read):Lt.Reader:=⟨x.P,r.at_,w,false,if r.heads<hd x.P then -1 else x.Long⟩
theorem SP {r:Lt.Reader} {w:Int} {x:Lt.Read} (h:r.inv) (hx:Lt.Inv x) (hr:Rel w r x):(js r w x).inv/\Sim (js r w x).abs x:=by
 obtain ⟨P,W,n⟩:=x;obtain ⟨hi,hw,hl,hlw⟩:=h;rcases hr with ⟨h1,⟨rfl,h2⟩ | ⟨rfl,h2⟩⟩ | ⟨h1,h2,⟨h3,h4,h5⟩ | ⟨rfl,h3⟩⟩ | ⟨h1,rfl,h3,h4⟩
 ·have h2:W=1:=h2
  subst h2;have e:(js r 1 ⟨P,1,n⟩)=⟨P,r.at_,1,false,-1⟩:=by unfold js; rw [if_pos h1]
  rw [e];exact ⟨⟨show Lt.Inv ⟨P,1,-1⟩ from PH hx (by decide),show (0:Int)<=1/\(1:Int)<=7 by decide,show (-1:Int) <= -1/\(-1:Int)<=1024 by decide,by simp⟩,rfl,.inr ⟨by simp [Lt.Reader.abs],by simp,by simp [Lt.Reader.abs]⟩⟩
 ·have h2:W=2:=h2
  subst h2;have e:(js r 0 ⟨P,2,n⟩)=⟨P,r.at_,0,false,-1⟩:=by unfold js; rw [if_pos h1]
  rw [e];exact ⟨⟨show Lt.Inv ⟨P,2,-1⟩ from PH hx (by decide),show (0:Int)<=0/\(0:Int)<=7 by decide,show (-1:Int) <= -1/\(-1:Int)<=1024 by decide,by simp [Lt.Reader.abs]⟩,rfl,.inr ⟨by simp [Lt.Reader.abs],by simp,by simp [Lt.Reader.abs]⟩⟩
 ·have h5:W=w+1:=h5
  have h2:0<=n/\n<=1024:=h2
  have e:(js r w ⟨P,W,n⟩)=⟨P,r.at_,w,false,n⟩:=by unfold js; rw [if_neg h1]
  have ea:(⟨P,r.at_,w,false,n⟩:Lt.Reader).abs=⟨P,W,n⟩:=by
   unfold Lt.Reader.abs; dsimp only; rw [if_neg (by omega),if_neg (by omega),h5]
  rw [e];refine ⟨⟨by rw [ea]; exact hx,⟨by show 0<=w; omega,h4⟩,⟨by show -1<=n; omega,h2.2⟩,?_⟩,by rw [ea]; exact ⟨rfl,.inl rfl⟩⟩;rw [ea];show 0<=n ↔ w≠1/\W≠2
  omega
 ·have h3:W=9:=h3
  have h2:0<=n/\n<=1024:=h2
  have e:(js r 0 ⟨P,W,n⟩)=⟨P,r.at_,0,false,n⟩:=by unfold js; rw [if_neg h1]
  have ea:(⟨P,r.at_,0,false,n⟩:Lt.Reader).abs=⟨P,W,n⟩:=by
   unfold Lt.Reader.abs; dsimp only; rw [if_pos rfl,if_pos h2.1,h3]
  rw [e];refine ⟨⟨by rw [ea]; exact hx,show (0:Int)<=0/\(0:Int)<=7 by decide,⟨by show -1<=n; omega,h2.2⟩,?_⟩,by rw [ea]; exact ⟨rfl,.inl rfl⟩⟩;rw [ea];show 0<=n ↔ (0:Int)≠1/\W≠2
  omega
 ·have h4:n=r.long:=h4
  have h3:W=r.abs.Where:=h3
  have e:(js r r.where_ ⟨P,W,n⟩)=⟨P,r.at_,r.where_,false,n⟩:=by unfold js; rw [if_neg h1]
  have ea:(⟨P,r.at_,r.where_,false,n⟩:Lt.Reader).abs=⟨P,W,n⟩:=by rw [h3,h4]; rfl
  rw [e];refine ⟨⟨by rw [ea]; exact hx,hw,by rw [h4]; exact hl,?_⟩,by rw [ea]; exact ⟨rfl,.inl rfl⟩⟩;rw [ea,h3,h4]; exact hlw
theorem XX (r:Lt.Reader) (l:List (List UInt8)) (h:r.inv):∃ w,Lt.yi r l=(if (Lt.aI r.abs l r.first).1=0 then (.ok (),js r w (Lt.aI r.abs l r.first).2) else (.error (Lt.flt (Lt.aI r.abs l r.first).1),r)) /\
  ((Lt.aI r.abs l r.first).1=0->(js r w (Lt.aI r.abs l r.first).2).inv/\Sim (js r w (Lt.aI r.abs l r.first).2).abs (Lt.aI r.abs l r.first).2):=by
 obtain ⟨w,h1,h2⟩:=Qx r l h;refine ⟨w,?_,fun hz=>SP h (u6 h.1 hz) (h2 hz)⟩;unfold Lt.yi;rw [h1];unfold Lt.gE;by_cases hz:(Lt.aI r.abs l r.first).1=0
 ·rw [if_pos hz,if_pos hz]; rfl
 ·rw [if_neg hz,if_neg hz]
end Go.Am
end

section
namespace Go.Am
open Go
theorem TW {p:Lt.Program} (hs:U8 p) (h:p.ok) (he:∀ e∈p.Externs,Lt.inR e.N) (hn:∀ f∈p.Funcs,∀ b∈f.Blocks,∀ i∈b.Code,∀ r∈i.Frames,Lt.inR r.At) (hf:Lt.Few p 20000=true):(Lt.s8 p).length<=4194304:=by
 obtain ⟨hw,hc⟩:=ab8 hs hf;have h1:=rU Lt.qx (fun c=>1+xl c) 20 p.Classes (fun c _=>R0 c)
 rw [Yz] at h1;have h2:=rU Lt.pH qV 40 p.Externs (fun x hx=>MH (he x hx))
 have h3:=rU Lt.wc Av 100 p.Funcs (fun x hx=>Wz (h x hx) (hn x hx))
 have h4:=nN [103,108,111,98,97,108] (by decide) p.Globals
 have h5:(if p.SSA=true then Lt.lnT [[115,115,97]] else []).length<=10:=by split <;> decide
 unfold UY at hw;unfold Lt.s8;simp only [adD];omega
theorem abO:∀ (s:List UInt8) (k:Lt.Cut) (B:Nat),(∀ x∈k.out,x.Words≠[]/\x.Words.length<=B)->k.l.length+s.length+1<=B->∀ x∈(Lt.cq s k).1,x.Words≠[]/\x.Words.length<=B
 | s,k,B=>by
  have hw:∀ k:Lt.Cut,k.word.l.length<=k.l.length+1/\k.word.out=k.out:=by
   intro k;refine ⟨?_,rfl⟩;unfold Lt.Cut.word;dsimp only;split
   ·omega
   ·simp
  have hline:∀ k:Lt.Cut,(∀ x∈k.out,x.Words≠[]/\x.Words.length<=B)->k.l.length+1<=B->∀ x∈k.line.out,x.Words≠[]/\x.Words.length<=B:=by
   intro k h hl x hx;unfold Lt.Cut.line at hx;dsimp only at hx;split at hx
   ·exact h x hx
   ·rename_i hne;rcases adJ.1 hx with hx | hx
    ·exact h x hx
    ·rw [adM.1 hx];exact ⟨hne,by have:=(hw k).1; show k.word.l.length<=B; omega⟩
  have hbyte:∀ (k:Lt.Cut) (c:UInt8),(k.byte c).l.length<=k.l.length+1/\(k.byte c).out=k.out:=by
   intro k c;unfold Lt.Cut.byte;split
   ·exact hw k
   ·split
    ·exact hw k
    ·exact ⟨by show k.l.length<=_; omega,rfl⟩
  induction s generalizing k with
  | nil=>
   intro h hl x hx;rw [Lt.cq] at hx;split at hx
   ·cases hx
   ·exact hline k h (by simp at hl; omega) x hx
  | cons c r ih=>
   intro h hl x hx;have hl':k.l.length+(r.length+1)+1<=B:=hl
   rw [Lt.cq] at hx;split at hx
   ·split at hx
    ·cases hx
    ·exact ih k.line (hline k h (by omega)) (by show 0+r.length+1<=B; omega) x hx
   ·have hb:=hbyte k c
    exact ih (k.byte c) (by rw [hb.2]; exact h) (by omega) x hx
theorem VC (s:List UInt8):∀ x∈(Lt.cZ s).1,x.Words≠[]/\x.Words.length<=1099511627776:=by
 intro x hx;unfold Lt.cZ at hx;split at hx
 ·cases hx
 ·rename_i hc;exact abO s _ _ (by simp) (by simp; omega) x hx
end Go.Am
end

section
namespace Go.Am
open Go
theorem zp {p:Lt.Program} (h1:p.Classes.length<=8) (h2:p.Globals.length<=8) (h3:p.Externs.length<=8) :
  (IntKind.i64.wrap ((IntKind.i64.wrap ((p.Classes.length:Int)+(p.Globals.length:Int)))+(p.Externs.length:Int)))=((hd p:Nat):Int):=by
 rw [dq (n:=(p.Classes.length:Int)+_) (by omega) (by omega),dq (by omega) (by omega)];unfold hd; omega
def acZ (r:Lt.Reader) (X:Except Value Unit×Lt.Reader):Except Value Unit×Lt.Reader:=match X with
 | (.ok _,x)=>(.ok (),{ x with first:=false,long:=if r.heads<x.heads then -1 else x.long })
 | (.error v,x)=>(.error v,x)
theorem V0 {r:Lt.Reader} {l:List (List UInt8)} (hp:Lt.az r l) {KK:Unit×Lt.Reader->Prop} {KP:Value->Lt.Reader->Prop} {X:Except Value Unit×Lt.Reader}
  (hX:X=Lt.rK r l) (h:exP (Lt.yi r l) (fun z x=>KK (z,x)) KP):yGo r l KK KP X:=by
 obtain ⟨hinv,hne,hr⟩:=id hp;have hi:=hinv.1
 have b1:r.p.Classes.length<=8:=hi.2.1.1
 have b2:r.p.Globals.length<=8:=iT (k:=8) hi.2.2.1.1
 have b3:r.p.Externs.length<=8:=hi.2.1.2.1
 obtain ⟨w,h1,h2⟩:=Qx r l hinv;unfold yGo;rw [hX];refine fun _ _ _=>⟨hp,?_⟩
 have e:Lt.yi r l=acZ r (Lt.rK r l):=rfl
 rw [e] at h;by_cases hz:(Lt.aI r.abs l r.first).1=0
 ·have hx:=u6 hi hz
  have e1:Lt.rK r l=(.ok (),⟨(Lt.aI r.abs l r.first).2.P,r.at_,w,r.first,(Lt.aI r.abs l r.first).2.Long⟩):=by
   rw [h1]; unfold Lt.gE; rw [if_pos hz]
  rw [e1] at h ⊢;generalize (Lt.aI r.abs l r.first).2=x at hx h ⊢;have c1:x.P.Classes.length<=8:=hx.2.1.1
  have c2:x.P.Globals.length<=8:=iT (k:=8) hx.2.2.1.1
  have c3:x.P.Externs.length<=8:=hx.2.1.2.1
  show ab _ _
  simp only [aA,bL,al];refine fun _ _ _=>?_
  rw [zp b1 b2 b3,zp c1 c2 c3];refine ifk (fun c=>?_) (fun c=>?_)
  ·have c:r.heads<hd x.P:=by simp at c; exact c
   have h:KK ((),⟨x.P,r.at_,w,false,if r.heads<hd x.P then -1 else x.Long⟩):=h
   rw [if_pos c] at h; exact h
  ·have c:¬ r.heads<hd x.P:=fun e=>c (by simpa using (show hd r.p<hd x.P from e))
   have h:KK ((),⟨x.P,r.at_,w,false,if r.heads<hd x.P then -1 else x.Long⟩):=h
   rw [if_neg c] at h; exact h
 ·have e1:Lt.rK r l=(.error (Lt.flt (Lt.aI r.abs l r.first).1),r):=by
   rw [h1]; unfold Lt.gE; rw [if_neg hz]
  rw [e1] at h ⊢;exact h
theorem Yh {r:Lt.Reader} {l:List (List UInt8)} (hp:Lt.az r l) {KK:Unit×Lt.Reader->Prop} {KP:Value->Lt.Reader->Prop} {X:Except Value Unit×Lt.Reader}
  (hX:(if Lt.sEq l then Lt.tH r l else X)=Lt.rK r l) (h:exP (Lt.yi r l) (fun z x=>KK (z,x)) KP):mW r l KK KP X:=by
 have es:((decide (2 < (l.length:Int)))&&(decide ((l.getD 1 default)=[61])))=Lt.sEq l:=by
  unfold Lt.sEq; rw [show decide (2 < (l.length:Int))=decide (2<l.length) from decide_eq_decide.2 (by omega)]
 refine fun J3 hJ3=>?_
 have hE:=hJ3 (Lt.sEq l) ?_
 ·refine fun _=>ifk (fun hc=>⟨⟨by decide,by simp at hc; omega⟩,?_⟩) (fun hc=>?_)
  ·rw [<- es,hc,aeE] at hE; exact hE
  ·rw [<- es,ad3.2 hc,afB] at hE; exact hE
 refine ifk (fun hs=>?_) (fun hs=>?_)
 ·rw [if_pos hs] at hX; exact V0 hp hX h
 ·rw [if_neg hs] at hX; exact V0 hp hX h
theorem SI (r:Lt.Reader) (l:List (List UInt8)) (hp:Lt.az r l) (KK:Unit×Lt.Reader->Prop) (KP:Value->Lt.Reader->Prop) (h:exP (Lt.yi r l) (fun z x=>KK (z,x)) KP):Fz r l KK KP:=by
 unfold Fz;refine ⟨⟨by decide,aeY.2 hp.2.1⟩,?_⟩;have go:∀ X,(if Lt.sEq l then Lt.tH r l else X)=Lt.rK r l->mW r l KK KP X:=fun X hX=>Yh hp hX h
 clear h;unfold Lt.rK at go;by_cases hs:Lt.sEq l=true
 ·simp only [if_pos hs,forall_const] at go;simp only [go,ite_self]
 ·simp only [if_neg hs] at go;simp only [decide_eq_true_eq,show l.getD 0 default=Lt.w0 l from rfl];refine ifk (fun c0=>go _ (by rw [if_pos c0])) (fun c0=>?_);rw [if_neg c0] at go;refine ifk (fun c1=>go _ (by rw [if_pos c1])) (fun c1=>?_);rw [if_neg c1] at go;refine ifk (fun c2=>go _ (by rw [if_pos c2])) (fun c2=>?_);rw [if_neg c2] at go;refine ifk (fun c3=>go _ (by rw [if_pos c3])) (fun c3=>?_);rw [if_neg c3] at go;refine ifk (fun c4=>go _ (by rw [if_pos c4])) (fun c4=>?_);rw [if_neg c4] at go;refine ifk (fun c5=>go _ (by rw [if_pos c5])) (fun c5=>?_);rw [if_neg c5] at go;refine ifk (fun c6=>go _ (by rw [if_pos c6])) (fun c6=>?_);rw [if_neg c6] at go;refine ifk (fun c7=>go _ (by rw [if_pos c7])) (fun c7=>?_);rw [if_neg c7] at go;refine ifk (fun c8=>go _ (by rw [if_pos c8])) (fun c8=>?_);rw [if_neg c8] at go;refine ifk (fun c9=>go _ (by rw [if_pos c9])) (fun c9=>?_);rw [if_neg c9] at go;refine ifk (fun c10=>go _ (by rw [if_pos c10])) (fun c10=>?_);rw [if_neg c10] at go;refine ifk (fun c11=>go _ (by rw [if_pos c11])) (fun c11=>?_);rw [if_neg c11] at go;refine ifk (fun c=>go _ (by rw [if_pos (.inl c)])) (fun c12=>?_);refine ifk (fun c=>go _ (by rw [if_pos (.inr (.inl c))])) (fun c13=>?_);refine ifk (fun c=>go _ (by rw [if_pos (.inr (.inr (.inl c)))])) (fun c14=>?_);refine ifk (fun c=>go _ (by rw [if_pos (.inr (.inr (.inr c)))])) (fun c15=>?_);exact go _ (by rw [if_neg (fun hh=>hh.elim c12 (fun hh=>hh.elim c13 (fun hh=>hh.elim c14 c15)))])
theorem Sim.out {a b:Lt.Read} (h:Sim a b):a.out=b.out:=by
 rcases h with ⟨_,rfl | ⟨h1,h2,_⟩⟩
 ·rfl
 ·unfold Lt.Read.out; simp [h1,h2]
theorem TE {a b:Lt.Read} (h:Sim a b) (l:List (List UInt8)) (first:Bool):(Lt.aI a l first).1=(Lt.aI b l first).1/\Sim (Lt.aI a l first).2 (Lt.aI b l first).2:=by
 obtain ⟨hP,rfl | ⟨h1,h2,h3⟩⟩:=h
 ·exact ⟨rfl,rfl,.inl rfl⟩
 obtain ⟨P,w,n⟩:=a;obtain ⟨P',w',n'⟩:=b;have hP:P=P':=hP
 subst hP;have h1:w<=2:=h1
 have h2:w'<=2:=h2
 have h3:w=1 ↔ w'=1:=h3
 have s:∀ p:Lt.Program,Sim ⟨p,w,n⟩ ⟨p,w',n'⟩:=fun p=>⟨rfl,.inr ⟨h1,h2,h3⟩⟩
 have oa:(⟨P,w,n⟩:Lt.Read).out=true:=by unfold Lt.Read.out; simp [h1]
 have ob:(⟨P,w',n'⟩:Lt.Read).out=true:=by unfold Lt.Read.out; simp [h2]
 have ia:(⟨P,w,n⟩:Lt.Read).ins=false:=by unfold Lt.Read.ins; simp; omega
 have ib:(⟨P,w',n'⟩:Lt.Read).ins=false:=by unfold Lt.Read.ins; simp; omega
 have w1:decide (w=1)=decide (w'=1):=decide_eq_decide.2 h3
 have d3:decide (w=3)=false:=by simp; omega
 have d3':decide (w'=3)=false:=by simp; omega
 have d4:decide (w=4)=false:=by simp; omega
 have d4':decide (w'=4)=false:=by simp; omega
 have d5:decide (w=5)=false:=by simp; omega
 have d5':decide (w'=5)=false:=by simp; omega
 have d9:decide (w=9)=false:=by simp; omega
 have d9':decide (w'=9)=false:=by simp; omega
 have hc:(Lt.cz ⟨P,w,n⟩ l).1=(Lt.cz ⟨P,w',n'⟩ l).1/\Sim (Lt.cz ⟨P,w,n⟩ l).2 (Lt.cz ⟨P,w',n'⟩ l).2:=by
  unfold Lt.cz;rw [if_pos ia,if_pos ib];split <;> exact ⟨rfl,s P⟩
 have hh:(Lt.bA ⟨P,w,n⟩ l).1=(Lt.bA ⟨P,w',n'⟩ l).1/\Sim (Lt.bA ⟨P,w,n⟩ l).2 (Lt.bA ⟨P,w',n'⟩ l).2:=by
  unfold Lt.bA;split
  ·unfold Lt.dk;simp only [oa,ob];split
   ·exact ⟨rfl,s P⟩
   ·split
    ·exact ⟨rfl,s P⟩
    ·exact ⟨rfl,rfl,.inr ⟨show (1:Int)<=2 by decide,show (1:Int)<=2 by decide,by simp⟩⟩
  split
  ·unfold Lt.eE;simp only [w1];split
   ·exact ⟨rfl,s P⟩
   ·split
    ·exact ⟨rfl,s P⟩
    ·exact ⟨rfl,s _⟩
  split
  ·unfold Lt.da;simp only [oa,ob];split
   ·exact ⟨rfl,s P⟩
   ·exact ⟨rfl,rfl,.inr ⟨show (2:Int)<=2 by decide,show (2:Int)<=2 by decide,by simp⟩⟩
  split
  ·unfold Lt.cY;simp only [oa,ob];split
   ·exact ⟨rfl,s P⟩
   ·exact ⟨rfl,rfl,.inr ⟨show (2:Int)<=2 by decide,show (2:Int)<=2 by decide,by simp⟩⟩
  split
  ·unfold Lt.fp;simp only [oa,ob];split
   ·exact ⟨rfl,s P⟩
   ·exact ⟨rfl,rfl,.inl rfl⟩
  ·exact ⟨rfl,s P⟩
 have hp:(Lt.bN ⟨P,w,n⟩ l).1=(Lt.bN ⟨P,w',n'⟩ l).1/\Sim (Lt.bN ⟨P,w,n⟩ l).2 (Lt.bN ⟨P,w',n'⟩ l).2:=by
  unfold Lt.bN;split
  ·unfold Lt.eJ;simp only [d3,d3',afB,if_true];exact ⟨trivial,s P⟩
  split
  ·unfold Lt.ic;simp only [d3,d3',d4,d4',afK,afB,if_true];exact ⟨trivial,s P⟩
  split
  ·unfold Lt.cR;simp only [d3,d3',d4,d4',d9,d9',afK,afB,if_true];exact ⟨trivial,s P⟩
  split
  ·unfold Lt.jD;simp only [d5,d5',afB,if_true];exact ⟨trivial,s P⟩
  ·exact ⟨rfl,s P⟩
 have ht:(Lt.bg ⟨P,w,n⟩ l).1=(Lt.bg ⟨P,w',n'⟩ l).1/\Sim (Lt.bg ⟨P,w,n⟩ l).2 (Lt.bg ⟨P,w',n'⟩ l).2:=by
  unfold Lt.bg;rw [if_pos ia,if_pos ib];split <;> exact ⟨rfl,s P⟩
 unfold Lt.aI;split
 ·exact hc
 split
 ·split
  ·exact ⟨rfl,s P⟩
  ·exact ⟨rfl,s _⟩
 rw [hh.1];split
 ·exact ⟨rfl,hh.2⟩
 rw [hp.1];split
 ·exact ⟨rfl,hp.2⟩
 rw [ht.1];split
 ·exact ⟨rfl,ht.2⟩
 ·exact hc
def c3 (n:Int):Prop:=n=0\/n=2\/n=3
theorem ku:c3 0:=.inl rfl
theorem Ka:c3 2:=.inr (.inl rfl)
theorem nj:c3 3:=.inr (.inr rfl)
theorem zF (c:Prop) [Decidable c]:c3 (if c then 2 else 0):=by
 split
 ·exact Ka
 ·exact ku
theorem ON (r:Lt.Read) (l:List (List UInt8)):c3 (Lt.cz r l).1:=by
 unfold Lt.cz;split
 ·exact nj
 split
 ·exact nj
 split
 ·exact nj
 split
 ·exact Ka
 ·exact ku
theorem XB (r:Lt.Read) (l:List (List UInt8)):c3 (Lt.bA r l).1.2:=by
 unfold Lt.bA;split
 ·unfold Lt.dk;split
  ·exact nj
  split
  ·exact Ka
  ·exact ku
 split
 ·unfold Lt.eE;split
  ·exact nj
  split
  ·exact Ka
  ·exact ku
 split
 ·unfold Lt.da;split
  ·exact nj
  ·exact zF _
 split
 ·unfold Lt.cY;split
  ·exact nj
  ·exact zF _
 split
 ·unfold Lt.fp;split
  ·exact nj
  ·exact zF _
 ·exact ku
theorem Yc (r:Lt.Read) (l:List (List UInt8)):c3 (Lt.bN r l).1.2:=by
 unfold Lt.bN;split
 ·unfold Lt.eJ;split
  ·exact nj
  ·exact zF _
 split
 ·unfold Lt.ic;split
  ·exact nj
  ·exact zF _
 split
 ·unfold Lt.cR;split
  ·exact nj
  ·exact zF _
 split
 ·unfold Lt.jD;split
  ·exact nj
  split
  ·exact Ka
  ·exact ku
 ·exact ku
theorem Wu (r:Lt.Read) (l:List (List UInt8)):c3 (Lt.bg r l).1.2:=by
 unfold Lt.bg;split
 ·split
  ·exact nj
  split
  ·unfold Lt.sAt;split
   ·exact nj
   split
   ·exact Ka
   ·exact ku
  split
  ·unfold Lt.jB;split
   ·exact nj
   ·exact zF _
  ·unfold Lt.oE;split
   ·exact ku
   ·exact nj
 ·exact ku
theorem NX (r:Lt.Read) (l:List (List UInt8)) (b:Bool):c3 (Lt.aI r l b).1:=by
 unfold Lt.aI;split
 ·exact ON r l
 split
 ·split
  ·exact nj
  ·exact ku
 split
 ·exact XB r l
 split
 ·exact Yc r l
 split
 ·exact Wu r l
 ·exact ON r l
theorem abC (r:Lt.Read) (l:List (List UInt8)) (b:Bool):(Lit.int .i64 (Lt.aI r l b).1).wf=true:=by
 rcases NX r l b with e | e | e <;> rw [e] <;> decide
theorem Nl (s:List UInt8) (KK:Lt.Program×Int×Int->Prop) (h:KK (Lt.dM s)):zL s KK:=by
 unfold zL; dsimp only;unfold Lt.dM Lt.bY at h;have l1:(Lt.fq s).1=(Lt.cZ s).1.map fun l=>(⟨l.N,l.Words⟩:Lt.Line):=rfl
 have l2:(Lt.fq s).2.1=(Lt.cZ s).2.1:=rfl
 have l3:(Lt.fq s).2.2=(Lt.cZ s).2.2:=rfl
 simp only [l1,l2,l3,al,au,and_self];refine ifk (fun hc=>?_) (fun hc=>?_)
 ·rw [if_neg (by simpa using hc)] at h; exact h
 rw [if_pos (by simpa using hc)] at h;have hok:=VC s
 generalize (Lt.cZ s).1=L at h hok;rw [adE];refine fun hl=>?_
 refine eV _ L.length (fun i x=>∃ r d,x=((i:Int),r)/\r.inv/\Sim r.abs d/\r.first=decide (i=0)/\KK (Lt.dx (L.drop i) (decide (i=0)) d)) (fun R i x hi hx hR=>?_) (fun R x hx=>?_) _ ⟨_,⟨⟨false,[],[],[],[]⟩,0,0⟩,rfl,⟨?_,by decide,by decide,by decide⟩,⟨rfl,.inr ⟨by decide,by decide,by decide⟩⟩,rfl,h⟩
 ·obtain ⟨r,d,rfl,hinv,hs,hf,hk⟩:=hx;have eg:(L.map fun l=>(⟨l.N,l.Words⟩:Lt.Line)).getD i default=⟨(L.getD i default).N,(L.getD i default).Words⟩:=by
   rw [List.getD,List.getD,adG,adA hi]; rfl
  simp only [cX hi,if_true,Int.toNat_natCast,eg];obtain ⟨hne,hlen⟩:=hok _ (eM L hi);rw [aeB hi,show L[i]=L.getD i default by rw [List.getD,adA hi]; rfl,Lt.dx] at hk;generalize L.getD i default=ln at hk hne hlen ⊢;have hinv':(⟨r.p,ln.N,r.where_,r.first,r.long⟩:Lt.Reader).inv:=hinv
  obtain ⟨w,e1,e2⟩:=XX _ ln.Words hinv';have ea:(⟨r.p,ln.N,r.where_,r.first,r.long⟩:Lt.Reader).abs=r.abs:=rfl
  rw [ea] at e1 e2;have sl:=TE hs ln.Words r.first
  rw [<- hf,<- sl.1] at hk;refine ⟨⟨adC i,hi⟩,⟨hinv',hne,hlen⟩,?_⟩;rw [e1];by_cases hz:(Lt.aI r.abs ln.Words r.first).1=0
  ·rw [if_pos hz];rw [if_pos hz] at hk;obtain ⟨g1,g2⟩:=e2 hz;refine hR _ ⟨_,_,by rw [b9 (by omega)],g1,?_,by simp [js],by simpa using hk⟩;obtain ⟨p1,p2⟩:=g2;obtain ⟨q1,q2⟩:=sl.2;refine ⟨p1.trans q1,?_⟩;rcases p2 with p2 | ⟨a1,a2,a3⟩
   ·rw [p2]; exact q2
   ·rcases q2 with q2 | ⟨b1,b2,b3⟩
    ·rw [<- q2]; exact .inr ⟨a1,a2,a3⟩
    ·exact .inr ⟨a1,b2,a3.trans b3⟩
  ·rw [if_neg hz];rw [if_neg hz] at hk;exact ⟨_,rfl,abC _ _ _,hk⟩
 ·obtain ⟨r,d,rfl,hinv,hs,hf,hk⟩:=hx;rw [afW,Lt.dx] at hk;simp only [dz,adB,if_false];rw [BS hinv.2.1,hs.out];cases ho:d.out with
  | true=>rw [ho,<- hs.1] at hk; exact hk
  | false=>rw [ho] at hk; exact ⟨3,rfl,by decide,hk⟩
 ·exact ⟨⟨by decide,by decide⟩,⟨by decide,by decide,by decide⟩,⟨rfl,rfl,rfl⟩,fun h=>absurd h (by decide),fun _=>rfl,fun h=>absurd h (by decide)⟩
end Go.Am
end

section
namespace Go.Am
open Go
theorem mQ (n:Int):Lt.inR (IntKind.i64.wrap n):=BF n
def vf (n:Int) (c:UInt8):Int:=IntKind.i64.wrap ((IntKind.i64.wrap (n*10)) - (IntKind.i64.wrap (((UInt8.ofNat (IntKind.u8.wrap (((c.toNat:Nat):Int) - (((48:UInt8).toNat:Nat):Int))).toNat).toNat:Nat):Int)))
def tQ (c:UInt8):Bool:=decide (48<=c.toNat)&&decide (c.toNat<=57)
theorem P1 {m:Nat} {c:UInt8} (h1:48<=c.toNat) (h2:c.toNat<=57) (h3:10*m+(c.toNat - 48)<=9223372036854775808):vf (-(m:Int)) c=-((10*m+(c.toNat - 48):Nat):Int):=by
 unfold vf;have e1:IntKind.u8.wrap (((c.toNat:Nat):Int) - (((48:UInt8).toNat:Nat):Int))=((c.toNat - 48:Nat):Int):=by
  have:(48:UInt8).toNat=48:=rfl
  rw [this];simp only [IntKind.wrap,IntKind.signed,IntKind.bits];simp;omega
 rw [e1,Int.toNat_natCast];have e2:(UInt8.ofNat (c.toNat - 48)).toNat=c.toNat - 48:=by simp; omega
 rw [e2,dq (n:=-(m:Int)*10) (by omega) (by omega),dq (n:=((c.toNat - 48:Nat):Int)) (by omega) (by omega),dq (by omega) (by omega)];omega
theorem L9:∀ (n:Nat),n<=9223372036854775808->(Lt.digs n).foldl vf 0=-(n:Int):=by
 intro n;induction n using Nat.strongRecOn with
 | _ n ih=>
  intro hn;have hd:∀ k:Nat,k < 10->(UInt8.ofNat (48+k)).toNat=48+k:=fun k hk=>by simp; omega
  by_cases h:n < 10
  ·rw [eC h];show vf (-((0:Nat):Int)) _=_
   rw [P1 (by rw [hd n h]; omega) (by rw [hd n h]; omega) (by rw [hd n h]; omega),hd n h]; omega
  ·rw [l4 h,sW,ih (n / 10) (by omega) (by omega)];have:=afO n (show 10 > 0 by decide)
   rw [P1 (by rw [hd _ this]; omega) (by rw [hd _ this]; omega) (by rw [hd _ this]; omega),hd _ this]; omega
theorem Ej:∀ (l:List UInt8) (b:Int),Lt.inR b->Lt.inR (l.foldl vf b)
 | [],b,h=>h
 | c::l,b,h=>Ej l _ (mQ _)
theorem Yd {s:List UInt8} (h:∀ n,Lt.inR n->Lt.ak n≠s):Lt.aY s=(0,false):=by
 unfold Lt.aY;rw [if_neg];exact h _ (BF _)
theorem EJ {n:Int} (h:Lt.inR n) {s:List UInt8} (e:Lt.ak n=s):s≠[]/\s.length<=20 /\
  (∀ a:Nat,(if decide (s.getD 0 0=45)=true then (1:Int) else 0)=(a:Int)->(s.drop a).all tQ=true/\(if decide ((a:Int)=0)=true then IntKind.i64.wrap (0 - (s.drop a).foldl vf 0) else (s.drop a).foldl vf 0)=n):=by
 have hl:=iD h
 have hne:=Ij n.natAbs
 have hdd:=sb n.natAbs
 unfold Lt.inR at h;have hf:=L9 n.natAbs (by omega)
 have ha:(Lt.digs n.natAbs).all tQ=true:=by
  rw [adI];intro c hc;have:=hdd c hc
  unfold tQ; simp [this]
 refine ⟨by rw [<- e]; exact q7 n,by rw [<- e]; omega,fun a hA=>?_⟩;by_cases hn:n < 0
 ·have e1:s=45::Lt.digs n.natAbs:=by rw [<- e]; unfold Lt.ak; rw [if_pos hn]; rfl
  rw [e1] at hA ⊢;have:a=1:=by
   rw [if_pos (by simp)] at hA; omega
  subst this;refine ⟨ha,?_⟩;rw [if_neg (by decide),ae6,afH,hf];omega
 ·have e1:s=Lt.digs n.natAbs:=by rw [<- e]; unfold Lt.ak; rw [if_neg hn]; rfl
  have h45:¬ s.getD 0 0=45:=by
   intro e2;rw [e1] at e2;cases hh:Lt.digs n.natAbs with
   | nil=>exact hne hh
   | cons b r=>
    rw [hh] at e2 hdd;have:=hdd b (by simp)
    have e2:b=45:=e2
    subst e2;simp at this
  have:a=0:=by
   rw [if_neg (by simpa using h45)] at hA; omega
  subst this;rw [afH,e1];refine ⟨ha,?_⟩;rw [if_pos (by decide),hf,dq (by omega) (by omega)];omega
theorem BU (c d:UInt8):decide ((((c.toNat:Nat):Int))=((d.toNat:Nat):Int))=decide (c=d):=by
 by_cases hc:c=d
 ·subst hc; simp
 ·have:c.toNat≠d.toNat:=fun e=>hc (UInt8.toNat_inj.1 e)
  simp only [hc,decide_false,decide_eq_false_iff_not]; omega
theorem Mc (s:List UInt8) (KK:Int×Bool->Prop) (h:KK (Lt.eH s)):CD s KK:=by
 unfold CD;unfold Lt.eH at h;have no:(∀ n,Lt.inR n->Lt.ak n≠s)->KK (0,false):=fun hn=>by rw [Yd hn] at h; exact h
 simp only [BU,al,au,bL,jval,bor];refine ifk (fun hc=>no (fun n hn e=>?_)) (fun hc=>?_)
 ·obtain ⟨h1,h2,_⟩:=EJ hn e;simp only [ad4,decide_eq_true_eq] at hc;rcases hc with hc | hc
  ·exact h1 hc
  ·omega
 simp only [ad4,decide_eq_true_eq,not_or] at hc;have h0:0<s.length:=aeY.2 hc.1
 refine ⟨⟨by decide,h0⟩,?_⟩;obtain ⟨a,hA,ha⟩:∃ a:Nat,(if decide (s.getD 0 0=45)=true then (1:Int) else 0)=(a:Int)/\a<=1:=by
  by_cases h45:s.getD 0 0=45
  ·exact ⟨1,by simp only [h45,decide_true,if_true]; rfl,adH _⟩
  ·exact ⟨0,by simp only [h45,decide_false,adB,if_false]; rfl,by decide⟩
 have shape:∀ n,Lt.inR n->Lt.ak n=s->(s.drop a).all tQ=true/\(if decide ((a:Int)=0)=true then IntKind.i64.wrap (0 - (s.drop a).foldl vf 0) else (s.drop a).foldl vf 0)=n:=fun n hn e=>(EJ hn e).2.2 a hA
 rw [hA];refine eV _ (s.length-a) (fun i x=>x=((((s.drop a).take i).foldl vf 0),((a+i:Nat):Int))/\((s.drop a).take i).all tQ=true) (fun R i x hi hx hR=>?_) (fun R x hx=>?_) _ ⟨rfl,rfl⟩
 ·obtain ⟨rfl,hall⟩:=hx;have hlt:a+i<s.length:=by omega
  have hlt2:i < (s.drop a).length:=by rw [adT]; omega
  have eg:(s.drop a).getD i default=s.getD (a+i) 0:=by rw [List.getD,adW]; rfl
  have et:=fP (s.drop a) hlt2
  rw [eg] at et;simp only [cX hlt,if_true,Int.toNat_natCast];have bad:¬ tQ (s.getD (a+i) 0)=true->KK (0,false):=fun hd=>no (fun n hn e=>by
   have:=(shape n hn e).1
   rw [<- afZ (i+1) (s.drop a),et] at this;simp only [aeT,adQ,ac9] at this;exact hd this.1.2.1)
  have e48:(48:UInt8).toNat=48:=rfl
  have e57:(57:UInt8).toNat=57:=rfl
  refine fun _=>⟨⟨by omega,hlt⟩,?_⟩
  refine ifk (fun c1=>bad ?_) (fun c1=>⟨⟨by omega,hlt⟩,ifk (fun c2=>bad ?_) (fun c2=>⟨⟨by omega,hlt⟩,hR _ ⟨?_,?_⟩⟩)⟩)
  ·rw [e48] at c1;unfold tQ; simp at c1 ⊢; omega
  ·rw [e57] at c2;unfold tQ; simp at c2 ⊢; omega
  ·rw [et,sW,b9 (by omega)]; rfl
  ·rw [e48] at c1; rw [e57] at c2;rw [et,aeT,hall];simp at c1 c2;unfold tQ; simp; omega
 ·obtain ⟨rfl,hall⟩:=hx;have e1:a+(s.length-a)=s.length:=by omega
  have e2:(s.drop a).take (s.length-a)=s.drop a:=aeA (by rw [adT]; omega)
  rw [e2] at hall;rw [e1,e2];simp only [dz,adB,if_false];refine fun _=>?_
  have hin:Lt.inR (if decide ((a:Int)=0)=true then IntKind.i64.wrap (0 - (s.drop a).foldl vf 0) else (s.drop a).foldl vf 0):=by
   split
   ·exact mQ _
   ·exact Ej _ _ (by unfold Lt.inR; omega)
  generalize hv:(if decide ((a:Int)=0)=true then IntKind.i64.wrap (0 - (s.drop a).foldl vf 0) else (s.drop a).foldl vf 0)=v at hin shape ⊢;refine ⟨hin,?_⟩;by_cases hc:(!decide (Lt.ak v=s))=true
  ·rw [if_pos hc];refine no (fun n hn e=>?_);have:=(shape n hn e).2
   subst this;simp [e] at hc
  ·rw [if_neg hc];have e:Lt.ak v=s:=by simpa using hc
   rw [<- e,ji hin] at h;exact h
def yt:List UInt8:=[48,49,50,51,52,53,54,55,56,57,97,98,99,100,101,102]
theorem aaZ (c:UInt8):Lt.gW yt c < 0\/(0<=Lt.gW yt c/\Lt.gW yt c < 16/\kn (Lt.gW yt c).toNat=c):=by
 have:∀ k:Fin 256,Lt.gW yt (UInt8.ofNat k.1) < 0\/(0<=Lt.gW yt (UInt8.ofNat k.1)/\Lt.gW yt (UInt8.ofNat k.1) < 16/\kn (Lt.gW yt (UInt8.ofNat k.1)).toNat=UInt8.ofNat k.1):=by decide +kernel
 have h:=this ⟨c.toNat,c.toNat_lt⟩
 rw [UInt8.ofNat_toNat] at h;exact h
theorem YC (k:Nat):¬ Lt.gW yt (kn k) < 0:=by
 have:∀ j:Fin 16,¬ Lt.gW yt (kn j.1) < 0:=by decide +kernel
 have h:=this ⟨k % 16,afO _ (by decide)⟩
 have e:kn (k % 16)=kn k:=by unfold kn; rw [Nat.mod_mod]
 rw [<- e]; exact h
theorem Z6 {u d:Nat} (hu:u < 1152921504606846976) (hd:d < 16) :
  (IntKind.u64.wrap ((BitVec.ofInt IntKind.u64.bits (IntKind.u64.wrap ((u:Int)*2 ^ (min (4:Int).toNat IntKind.u64.bits))) ||| BitVec.ofInt IntKind.u64.bits (IntKind.u64.wrap (d:Int))).toNat:Nat))=((16*u+d:Nat):Int):=by
 have e1:(u:Int)*2 ^ (min (4:Int).toNat IntKind.u64.bits)=((u*16:Nat):Int):=by
  have:min (4:Int).toNat IntKind.u64.bits=4:=by decide
  rw [this]; omega
 have w1:IntKind.u64.wrap ((u*16:Nat):Int)=((u*16:Nat):Int):=ch (by omega)
 have w2:IntKind.u64.wrap ((d:Nat):Int)=((d:Nat):Int):=ch (by omega)
 rw [e1,w1,w2];show IntKind.u64.wrap (((BitVec.ofInt 64 ((u*16:Nat):Int) ||| BitVec.ofInt 64 ((d:Nat):Int)).toNat:Nat):Int)=_
 have e2:∀ n:Nat,BitVec.ofInt 64 ((n:Nat):Int)=BitVec.ofNat 64 n:=fun n=>BitVec.ofInt_natCast ..
 rw [e2,e2,BitVec.toNat_or,BitVec.toNat_ofNat,BitVec.toNat_ofNat,afY (by omega),afY (by omega)];have e3:u*16 ||| d=16*u+d:=by
  have:=Nat.shiftLeft_add_eq_or_of_lt (i:=4) (b:=d) (by omega) u
  rw [Nat.shiftLeft_eq] at this;rw [show u*16=u*2 ^ 4 from rfl,<- this]; omega
 rw [e3,ch (by omega)]
theorem Yn {s:List UInt8} (h:∀ n,Lt.inR n->Lt.om n≠s):Lt.iw s=(0,false):=by
 unfold Lt.iw;rw [if_neg];exact fun hc=>h _ (mQ _) hc.2
theorem VP {a b:Nat} (ha:a < 18446744073709551616) (hb:b < 18446744073709551616) (h:Lt.mD 16 (a:Int) []=Lt.mD 16 (b:Int) []):a=b:=by
 have e1:=qF 16 a [] ha (by omega)
 have e2:=qF 16 b [] hb (by omega)
 rw [h,e2] at e1;have h16:(16:Nat) ^ 16=18446744073709551616:=by decide
 rw [h16,afY ha,afY hb] at e1;simp only [List.foldl_nil] at e1;omega
theorem Ow (s:List UInt8) (KK:Int×Bool->Prop) (h:KK (Lt.wu s)):pK s KK:=by
 unfold pK;unfold Lt.wu at h;have no:(∀ n,Lt.inR n->Lt.om n≠s)->KK (0,false):=fun hn=>by rw [Yn hn] at h; exact h
 have pre:∀ n,Lt.om n=s->Lt.l7 s [48,102]=(Lt.mD 16 (IntKind.u64.wrap (Lt.cj n)) [],true):=by
  intro n e;rw [<- e]; rfl
 have hexs:∀ n,(Lt.mD 16 (IntKind.u64.wrap (Lt.cj n)) []).length=16/\∀ c∈Lt.mD 16 (IntKind.u64.wrap (Lt.cj n)) [],¬ Lt.gW yt c < 0:=by
  intro n;refine ⟨by rw [uZ]; rfl,?_⟩;rw [gP,zg 16 _ [] (BitVec.isLt _)];intro c hc;rw [aeO] at hc;obtain ⟨i,_,rfl⟩:=ad0.1 hc;exact YC _
 have hp:(Lt.l7 s [48,102]).2=true->s=[48,102]++(Lt.l7 s [48,102]).1:=by
  unfold Lt.l7 Go.Lib.trimPrefix;intro hp;have hp:Go.Lib.hasPrefix s [48,102]=true:=hp
  rw [if_pos hp];obtain ⟨t,ht⟩:=List.isPrefixOf_iff_prefix.1 hp;rw [<- ht]; rfl
 change pK s KK
 unfold pK;rw [show ([48,49,50,51,52,53,54,55,56,57,97,98,99,100,101,102]:List UInt8)=yt from rfl];generalize Lt.l7 s [48,102]=cp at pre hp ⊢;obtain ⟨rest,ok⟩:=cp;simp only at hp ⊢
 simp only [al,au,bL,jval,bor];refine ifk (fun hc=>no (fun n hn e=>?_)) (fun hc=>?_)
 ·have hpe:=pre n e
  simp only [Prod.mk.injEq] at hpe;rw [hpe.1,hpe.2,(hexs n).1] at hc;simp at hc
 simp only [ad4,aeJ,decide_eq_false_iff_not,not_or,Decidable.not_not,adP] at hc;have hs:=hp hc.1
 have h16:rest.length=16:=by omega
 refine fun _=>?_
 refine eV _ 16 (fun i x=>∃ u:Nat,x=((u:Int),(i:Int))/\u < 16 ^ i/\∀ l,Lt.mD i (u:Int) l=rest.take i++l) (fun R i x hi hx hR=>?_) (fun R x hx=>?_) _ ⟨0,rfl,by decide,fun l=>rfl⟩
 ·obtain ⟨u,rfl,hu,hl⟩:=hx;have hlt:i<rest.length:=by omega
  have et:rest.take (i+1)=rest.take i++[rest.getD i 0]:=fP rest hlt
  have hm:rest.getD i 0∈rest:=eM rest hlt
  simp only [cX hlt,if_true,Int.toNat_natCast];refine ⟨⟨adC i,hlt⟩,ifk (fun hc1=>no (fun n hn e=>?_)) (fun hc1=>⟨by decide,hR _ ?_⟩)⟩
  ·have hpe:=pre n e
   simp only [Prod.mk.injEq] at hpe;have hm':rest.getD i 0∈Lt.mD 16 (IntKind.u64.wrap (Lt.cj n)) []:=by rw [<- hpe.1]; exact hm
   exact (hexs n).2 _ hm' (by simpa using hc1)
  ·rcases aaZ (rest.getD i 0) with hneg | ⟨d0,d16,hd⟩
   ·exact absurd (decide_eq_true hneg) hc1
   have hp15:16 ^ i<=16 ^ 15:=Nat.pow_le_pow_right (by decide) (by omega)
   have h15:(16:Nat) ^ 15=1152921504606846976:=by decide
   obtain ⟨d,hdd⟩:=afJ d0;rw [hdd] at hd d16 ⊢;rw [Int.toNat_natCast] at hd;refine ⟨16*u+d,?_,?_,fun l=>?_⟩
   ·rw [Z6 (by omega) (by omega),b9 (by omega)]
   ·rw [ag0]; omega
   ·rw [Lt.mD,show Int.tdiv ((16*u+d:Nat):Int) 16=(((16*u+d) / 16:Nat):Int) from rfl,show (16*u+d) / 16=u by omega,ch (by omega),hl,FK];have:kn (16*u+d)=kn d:=by unfold kn; congr 1; omega
    rw [this,hd,et]; simp
 ·obtain ⟨u,rfl,hu,hl⟩:=hx;have e16:(16:Nat) ^ 16=18446744073709551616:=by decide
  have hu:u < 18446744073709551616:=by omega
  have hr:=hl []
  rw [aeO,aeA (by omega)] at hr;have ew:IntKind.u64.wrap (IntKind.i64.wrap (u:Int))=(u:Int):=by
   simp only [IntKind.wrap,IntKind.signed,IntKind.bits];simp;omega
  have e2:∀ n:Int,Lt.inR n->IntKind.i64.wrap (IntKind.u64.wrap n)=n:=by
   intro n hn;unfold Lt.inR at hn;simp only [IntKind.wrap,IntKind.signed,IntKind.bits];simp;omega
  rw [show decide (((16:Nat):Int) < (rest.length:Int))=false by simp; omega];simp only [adB,if_false];by_cases hc1:(!decide (Lt.Plain (IntKind.i64.wrap (u:Int))=IntKind.i64.wrap (u:Int)))=true
  ·rw [if_pos hc1];refine no (fun n hn e=>?_);have hpe:=pre n e
   simp only [Prod.mk.injEq] at hpe;have h1:=hpe.1
   rw [<- hr,gP] at h1;have h2:=VP hu (BitVec.isLt _) h1
   have h3:IntKind.i64.wrap (u:Int)=Lt.cj n:=by
    rw [h2,<- gP,e2 _ (E1 hn)]
   have h4:Lt.cj (Lt.cj n)=Lt.cj n:=by
    unfold Lt.cj;by_cases h:Lt.FT n=true
    ·rw [if_pos h]; simp
    ·rw [if_neg h,if_neg h]
   rw [h3,<- kl,h4] at hc1;simp at hc1
  ·rw [if_neg hc1];have hpl:Lt.Plain (IntKind.i64.wrap (u:Int))=IntKind.i64.wrap (u:Int):=by simpa using hc1
   have e:Lt.om (IntKind.i64.wrap (u:Int))=s:=by
    unfold Lt.om;rw [kl,hpl,ew,hr,hs]
   rw [<- e,vb (mQ _),kl,hpl] at h;exact h
theorem RL {s:List UInt8} (h:(Lt.aY s).2=true):s≠[]/\∀ c∈s,c=45\/(48<=c.toNat/\c.toNat<=57):=by
 have e:=jZ h
 exact ⟨by rw [<- e]; exact q7 _,by rw [<- e]; exact jd _⟩
theorem qe {s:List UInt8}:Lt.inR (Lt.aY s).1:=by
 unfold Lt.aY;split
 ·exact BF _
 ·unfold Lt.inR; omega
theorem wX {s:List UInt8} (h:(Lt.iw s).2=true):(∃ r,s=48::102::r)/\Lt.Plain (Lt.iw s).1=(Lt.iw s).1/\Lt.dK (Lt.iw s).1=s:=by
 unfold Lt.iw at h ⊢;split at h
 ·rename_i hc;rw [if_pos hc];have e:=vb (n:=Lt.JO s) (mQ _)
  rw [hc.2] at e;unfold Lt.iw at e;rw [if_pos hc] at e;simp only [Prod.mk.injEq,and_true] at e;refine ⟨⟨_,by rw [<- hc.2]; rfl⟩,by rw [<- kl]; exact e.symm,?_⟩;rw [<- wa]; exact hc.2
 ·cases h
theorem Lj {s:List UInt8}:Lt.inR (Lt.iw s).1:=by
 unfold Lt.iw;split
 ·exact mQ _
 ·unfold Lt.inR; omega
theorem Vh {n:Int}:Lt.aJ ⟨5,[],n⟩=true ↔ 0<=n/\n<=999:=by
 unfold Lt.aJ; simp
theorem Qy (s:List UInt8):Lt.cm s=if Lt.Name s=true then (⟨1,s,0⟩,true) else if (Lt.aY s).2=true then (⟨2,[],(Lt.aY s).1⟩,true) else if (Lt.iw s).2=true then (⟨3,[],(Lt.iw s).1⟩,true)
  else if s=[110,117,108,108] then (⟨4,[],0⟩,true) else if s.getD 0 0=35/\(Lt.aY (s.drop 1)).2=true/\0<=(Lt.aY (s.drop 1)).1/\(Lt.aY (s.drop 1)).1<=999 then (⟨5,[],(Lt.aY (s.drop 1)).1⟩,true) else (⟨0,[],0⟩,false):=by
 unfold Lt.cm;rw [VZ];have t2:Lt.lR s ⟨2,[],(Lt.aY s).1⟩=(Lt.aY s).2:=by
  rw [afI,cV,DG];constructor
  ·intro ⟨_,e⟩;have:=ji (n:=(Lt.aY s).1) qe
   rw [e] at this;rw [this]
  ·intro h;exact ⟨rfl,jZ h⟩
 have t3:Lt.lR s ⟨3,[],(Lt.iw s).1⟩=(Lt.iw s).2:=by
  rw [afI,cV];constructor
  ·intro ⟨hr,e⟩;have hp:Lt.Plain (Lt.iw s).1=(Lt.iw s).1:=by unfold Lt.aJ at hr; simpa using hr
   rw [EE hp,<- wa] at e;have:=vb (n:=(Lt.iw s).1) Lj
   rw [e] at this;rw [this]
  ·intro h;obtain ⟨_,hp,e⟩:=wX h;exact ⟨by unfold Lt.aJ; simp [hp],by rw [EE hp]; exact e⟩
 have t4:Lt.lR s ⟨4,[],0⟩=decide (s=[110,117,108,108]):=by
  rw [afI,cV,Un,decide_eq_true_eq];exact ⟨fun h=>h.2.symm,fun h=>⟨rfl,h.symm⟩⟩
 have t5:Lt.lR s ⟨5,[],(Lt.aY (s.drop 1)).1⟩=decide (s.getD 0 0=35/\(Lt.aY (s.drop 1)).2=true/\0<=(Lt.aY (s.drop 1)).1/\(Lt.aY (s.drop 1)).1<=999):=by
  rw [afI,cV,decide_eq_true_eq];constructor
  ·intro ⟨hr,e⟩;have hb:0<=(Lt.aY (s.drop 1)).1/\(Lt.aY (s.drop 1)).1<=999:=Vh.1 hr
   rw [KT hb.1 hb.2] at e;have e1:s.drop 1=Lt.ak (Lt.aY (s.drop 1)).1:=(congrArg (List.drop 1) e).symm
   have:=ji (n:=(Lt.aY (s.drop 1)).1) qe
   rw [<- e1] at this;exact ⟨(congrArg (fun s=>List.getD s 0 0) e).symm,by rw [this],hb⟩
  ·intro ⟨h1,h2,h3,h4⟩;refine ⟨Vh.2 ⟨h3,h4⟩,?_⟩;rw [KT h3 h4,jZ h2];cases s with
   | nil=>simp at h1
   | cons a r=>
    have h1:a=35:=h1
    rw [h1]; rfl
 rw [t2,t3,t4,t5];simp only [decide_eq_true_eq]
theorem JV (s:List UInt8) (KK:Lt.Arg×Bool->Prop) (h:KK (Lt.nU s)):wk s KK:=by
 unfold wk;unfold Lt.nU at h;rw [Qy] at h;have ed:(s.drop 1).take (s.length - 1)=s.drop 1:=aeA (by rw [adT]; omega)
 have hnum:(Lt.aY s).2=true->∃ a r,s=a::r/\(a=45\/(48<=a.toNat/\a.toNat<=57))/\∀ c∈r,c=45\/(48<=c.toNat/\c.toNat<=57):=by
  intro hn;obtain ⟨h1,h2⟩:=RL hn;cases s with
  | nil=>exact absurd rfl h1
  | cons a r=>exact ⟨a,r,rfl,h2 a (by simp),fun c hc=>h2 c (by simp [hc])⟩
 rw [ed];unfold Lt.eH;simp only [BU];refine ifk (fun c1=>?_) (fun c1=>ifk (fun c2=>?_) (fun c2=>ifk (fun c3=>?_) (fun c3=>?_)))
 ·have c1:s=[]:=by simpa using c1
  subst c1;exact kk h (by decide +kernel)
 ·have c2:s=[110,117,108,108]:=by simpa using c2
  subst c2;exact kk h (by decide +kernel)
 ·rw [if_pos c3] at h; exact h
 have c1:s≠[]:=by simpa using c1
 have c2:¬ s=[110,117,108,108]:=by simpa using c2
 rw [if_neg c3,if_neg c2] at h;refine ⟨⟨by decide,aeY.2 c1⟩,ifk (fun c4=>⟨by decide,⟨by have:=aeY.2 c1; omega,adH _⟩,?_⟩) (fun c4=>?_)⟩
 ·have c4:s.getD 0 0=35:=by simpa using c4
  have n1:¬ (Lt.aY s).2=true:=by
   intro hn;obtain ⟨a,r,rfl,ha,_⟩:=hnum hn;have c4:a=35:=c4
   subst c4;rcases ha with ha | ha
   ·exact absurd ha (by decide)
   ·exact absurd ha.1 (by decide)
  have n2:¬ (Lt.iw s).2=true:=by
   intro hn;obtain ⟨⟨r,rfl⟩,_⟩:=wX hn;exact absurd c4 (by show ¬ (48:UInt8)=35; decide)
  rw [if_neg n1,if_neg n2] at h;simp only [al,bL,jval,bor];generalize Lt.aY (s.drop 1)=x at h ⊢;obtain ⟨n,ok⟩:=x;by_cases hc:(!ok||(decide (n < 0)||decide (999<n)))=true
  ·rw [if_pos hc];rw [if_neg] at h
   ·exact h
   ·intro ⟨_,h2,h3,h4⟩;simp only at h2 h3 h4
    simp [h2] at hc;omega
  ·rw [if_neg hc];rw [if_pos] at h
   ·exact h
   ·simp only [ad4,aeJ,decide_eq_true_eq,not_or,adP] at hc;exact ⟨c4,hc.1,by simp only; omega,by simp only; omega⟩
 ·have c4:¬ s.getD 0 0=35:=by simpa using c4
  refine kk h ?_;unfold Lt.iz;have n5:¬ (s.getD 0 0=35/\(Lt.aY (s.drop 1)).2=true/\0<=(Lt.aY (s.drop 1)).1/\(Lt.aY (s.drop 1)).1<=999):=fun hh=>c4 hh.1
  by_cases n1:(Lt.aY s).2=true
  ·have n2:¬ (Lt.iw s).2=true:=by
    intro hn;obtain ⟨⟨r,e⟩,_⟩:=wX hn;obtain ⟨a,r',e2,_,hall⟩:=hnum n1;rw [e] at e2;have:(102:UInt8)∈r':=by
     simp only [List.cons.injEq] at e2;rw [<- e2.2]; simp
    rcases hall _ this with hh | hh
    ·exact absurd hh (by decide)
    ·exact absurd hh.2 (by decide)
   rw [if_pos n1,if_neg n2,if_pos n1]
  ·rw [if_neg n1,if_neg n5,if_neg n1]
end Go.Am
end
