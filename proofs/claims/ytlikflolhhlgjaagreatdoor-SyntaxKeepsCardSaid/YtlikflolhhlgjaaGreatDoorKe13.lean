/-
  Part 13: AmS6 · AmS7 · AmS8 · AmS9 · AmR1 · AmN10 · AmN11 · AmR2 · AmR3 · AmY1 · AmY2 · AmY3 · AmY4 · AmY5 · AmY6 · AmY7 · AmR4 · AmR5 · AmY8 · AmR6 · AmY9 · AmY10.
-/
import Derived.Test.YtlikflolhhlgjaaGreatDoorKe12
set_option linter.unusedSimpArgs false
set_option linter.unusedVariables false
set_option linter.unusedSectionVars false
set_option linter.unnecessarySimpa false
section
namespace Go.Am
open Go
theorem nG (r:Lt.Read) {l:List (List UInt8)} {t:Lt.Term} (h:Lt.dl l=some t):Lt.ld r l=(0,⟨⟨r.P.SSA,r.P.Classes,r.P.Globals,r.P.Externs,r.P.Funcs.set (r.P.Funcs.length - 1) ⟨r.curF.Name,r.curF.Result,r.curF.Params,r.curF.Vars,r.curF.Blocks.set (r.curF.Blocks.length - 1) ⟨r.curB.Name,r.curB.Phis,r.curB.Code,t⟩⟩⟩,9,r.Long⟩):=by
 unfold Lt.ld; rw [h]; rfl
theorem fP (r:Lt.Read) {l:List (List UInt8)} (h:Lt.dl l=none):Lt.ld r l=(3,⟨r.P,9,r.Long⟩):=by
 unfold Lt.ld; rw [h]
theorem D7 (r:Lt.Read) (l:List (List UInt8)) (hp:Lt.dj r l) (KK:((Bool×Int)×Lt.Read)->Prop) (h:KK (Lt.bf r l)):sQ r l KK:=by
 obtain ⟨hi,hl,hr⟩:=hp;have hr:l.length<=1099511627776:=hr
 have h0:0<l.length:=WK.2 hl
 obtain ⟨hw,⟨hc1,hc2,hc3⟩,_⟩:=id hi;unfold sQ; dsimp only;unfold Lt.bf at h;refine ⟨⟨by decide,h0⟩,?_⟩;simp only [ac,jval];refine ifk (fun hc=>?_) (fun hc=>?_)
 ·rw [if_pos (by grind)] at h;simp only [Xf];refine ifk (fun hc2=>?_) (fun hc2=>?_)
  ·rw [if_pos (by unfold Lt.Read.ins; grind)] at h;exact h
  rw [if_neg (by unfold Lt.Read.ins; grind)] at h;have hw5:5<=r.Where:=by grind
  have hw8:r.Where<=8:=by grind
  obtain ⟨hf,_,_,_,hb6⟩:=cw hi (by omega);obtain ⟨hbn,hph,hcd,_⟩:=eV hi (by omega);have hf8:r.P.Funcs.length<=5000:=by omega
  have hb5:r.curF.Blocks.length<=5000:=by omega
  have hc5:r.curB.Code.length<=5000:=by omega
  have ef:r.P.Funcs.getD (r.P.Funcs.length - 1) default=r.curF:=rfl
  have eb:r.curF.Blocks.getD (r.curF.Blocks.length - 1) default=r.curB:=rfl
  have ei:r.curB.Code.getD (r.curB.Code.length - 1) default=r.curI:=rfl
  simp only [aK hf hf8,bv hf,bu hf,Int.toNat_natCast,ef,aK hbn hb5,bv hbn,bu hbn,eb,true_and,aR,eI];refine fun _ _=>⟨⟨by decide,h0⟩,?_⟩
  refine ifk (fun hc3=>?_) (fun hc3=>?_)
  ·rw [if_pos (by simpa using hc3)] at h;refine ⟨⟨by show l.length<=1099511627776; exact hr,by decide,by decide⟩,?_⟩;simp only [ac,aj,aq,aV,ay,jval,bor,band,bnand,bimp,and_self,fv,lk,lD,aR,eI,WE,V9,if_false,dM];refine ⟨fun hw7 hok=>?_,fun hw7 hok=>?_,fun hb=>?_,ifk (fun hb=>kk h ?_) (fun hb=>ifk (fun hb2=>kk h ?_) (fun hb2=>?_))⟩
   ·have:=dk (l:=l) (f:=4) (objs:=true) (by simpa using hok) (by decide)
    exact ⟨by decide,by omega⟩
   ·have:=dk (l:=l) (f:=4) (objs:=true) (by simpa using hok) (by decide)
    exact ⟨by decide,by omega⟩
   ·have:=dk (l:=l) (f:=4) (objs:=true) (by
     simp only [Wq,WH,not_or] at hb;simpa using hb.2.1) (by decide)
    exact ⟨by decide,by omega⟩
   ·have c1:(decide (r.Where=7)&&(Lt.al l 4 true).2&&Lt.az (Lt.w1 l)&&Lt.az (Lt.w2 l)&&((Lt.aD (Lt.w3 l)).2&&decide (0<=(Lt.aD (Lt.w3 l)).1)&&decide ((Lt.aD (Lt.w3 l)).1<=1024)))=false:=by
     clear h; grind
    unfold Lt.sAt; rw [if_pos c1]
   ·have c1:(decide (r.Where=7)&&(Lt.al l 4 true).2&&Lt.az (Lt.w1 l)&&Lt.az (Lt.w2 l)&&((Lt.aD (Lt.w3 l)).2&&decide (0<=(Lt.aD (Lt.w3 l)).1)&&decide ((Lt.aD (Lt.w3 l)).1<=1024)))=false:=by
     clear h; grind
    unfold Lt.sAt; rw [if_pos c1]
   have c1:(decide (r.Where=7)&&(Lt.al l 4 true).2&&Lt.az (Lt.w1 l)&&Lt.az (Lt.w2 l)&&((Lt.aD (Lt.w3 l)).2&&decide (0<=(Lt.aD (Lt.w3 l)).1)&&decide ((Lt.aD (Lt.w3 l)).1<=1024)))=true:=by
    clear h; grind
   have hw7:r.Where=7:=by simp only [V7,decide_eq_true_eq] at c1; exact c1.1.1.1.1
   have hok:(Lt.al l 4 true).2=true:=by simp only [V7,decide_eq_true_eq] at c1; exact c1.1.1.1.2
   have h4l:=dk (l:=l) (f:=4) (objs:=true) hok (by decide)
   obtain ⟨hcn,hfr,hob⟩:=nq hi (by omega) (by omega);simp only [aK hcn hc5,bv hcn,bu hcn,Int.toNat_natCast,ei,true_and,jJ (l:=l) (by omega),oV (l:=l) (by omega),implies_true,Wf,eB (show r.curI.Frames.length<=5000 by omega) (show 64<=200 by omega)];refine fun _ _=>kk h ?_
   unfold Lt.sAt;rw [if_neg (by rw [c1]; simp)];unfold Lt.Read.instr Lt.Read.block Lt.Read.func Lt.last;simp only [ef,eb,ei];by_cases hb3:16 < (Lt.al l 4 true).1.length\/16<=r.curI.Frames.length
   ·rw [if_pos hb3,if_pos (by simp only [Wq,decide_eq_true_eq]; omega)]
   ·rw [if_neg hb3,if_neg (by simp only [Wq,decide_eq_true_eq]; omega)]
  rw [if_neg (by simpa using hc3)] at h;refine ifk (fun hc4=>?_) (fun hc4=>?_)
  ·rw [if_pos (by simpa using hc4)] at h;simp only [ac,aj,aq,aV,ay,jval,bor,band,bnand,bimp,and_self,fv,lk,lD,aR,eI,WE,V9,if_false,dM];have ed:(l.drop 2).take (l.length - 2)=l.drop 2:=Wu (by rw [Wi]; omega)
   refine ⟨fun _ hl2 _=>?_,fun _=>by decide,fun hb=>?_,fun hb=>?_,ifk (fun hb=>kk h ?_) (fun hb=>ifk (fun hb2=>kk h ?_) (fun hb2=>?_))⟩
   ·exact ⟨by decide,by simp at hl2; omega⟩
   ·simp at hb; exact ⟨by omega,Wb _⟩
   ·rw [ed]; show (l.drop 2).length<=1099511627776; rw [Wi]; omega
   ·have c1:(decide (7<=r.Where)&&decide (2<=l.length)&&decide (l.length<=10)&&Lt.az (Lt.w1 l)&&(Lt.aT (l.drop 2) true).2)=false:=by
     clear h; grind
    unfold Lt.l8; rw [if_pos c1]
   ·have c1:(decide (7<=r.Where)&&decide (2<=l.length)&&decide (l.length<=10)&&Lt.az (Lt.w1 l)&&(Lt.aT (l.drop 2) true).2)=false:=by
     clear h; rw [ed] at hb2; grind
    unfold Lt.l8; rw [if_pos c1]
   rw [ed] at hb2 ⊢;have c1:(decide (7<=r.Where)&&decide (2<=l.length)&&decide (l.length<=10)&&Lt.az (Lt.w1 l)&&(Lt.aT (l.drop 2) true).2)=true:=by
    clear h; grind
   have hl2:2<=l.length:=by simp only [V7,decide_eq_true_eq] at c1; exact c1.1.1.1.2
   have hw7:7<=r.Where:=by simp only [V7,decide_eq_true_eq] at c1; exact c1.1.1.1.1
   obtain ⟨hcn,hfr,hob⟩:=nq hi (by omega) (by omega);simp only [aK hcn hc5,bv hcn,bu hcn,Int.toNat_natCast,ei,true_and,jJ (l:=l) (by omega),implies_true,Wf,eB (show r.curI.Objs.length<=5000 by omega) (show 40<=200 by omega)];refine fun _ _=>kk h ?_
   unfold Lt.l8;rw [if_neg (by rw [c1]; simp)];unfold Lt.Read.instr Lt.Read.block Lt.Read.func Lt.last Lt.bN;simp only [ef,eb,ei];by_cases hb3:99<=r.curI.Objs.length
   ·rw [if_pos hb3,if_pos (by omega)]
   ·rw [if_neg hb3,if_neg (by omega)]
  rw [if_neg (by simpa using hc4)] at h;have hk:l.getD 0 default=[106,117,109,112]\/l.getD 0 default=[98,114,97,110,99,104]\/l.getD 0 default=[114,101,116]\/l.getD 0 default=[116,114,97,112]:=by grind
  refine fun J17 hJ17=>?_
  have hJ:J17 (true,(Lt.ld r l).1,(Lt.ld r l).2):=hJ17 _ h
  clear hJ17 h hc hc3 hc4;have z0:((0:Int)<=0/\0<l.length)=True:=by simp; omega
  have ic2:decide ((l.length:Int)=2)=decide (l.length=2):=decide_eq_decide.2 (by omega)
  have ic4:decide ((l.length:Int)=4)=decide (l.length=4):=decide_eq_decide.2 (by omega)
  rcases hk with e | e | e | e
  ·simp only [e,show (decide (([106,117,109,112]:List UInt8)=[106,117,109,112]))=true from rfl,show (decide (([106,117,109,112]:List UInt8)=[98,114,97,110,99,104]))=false from rfl,show (decide (([106,117,109,112]:List UInt8)=[114,101,116]))=false from rfl,show (decide (([106,117,109,112]:List UInt8)=[116,114,97,112]))=false from rfl,z0,ac,aj,aq,aV,ay,jval,bor,band,bnand,bimp,and_self,fv,lk,lD,aR,eI,WE,V9,if_false,if_true,true_and,WO,Wv,decide_true,not_false_eq_true,false_implies,true_implies,implies_true,ic2,ic4,forall_const];refine ⟨fun h2=>by simp at h2; exact ⟨by decide,by omega⟩,fun h2=>by simp at h2; exact ⟨by decide,by omega⟩,kk hJ ?_⟩;by_cases c1:(decide (l.length=2)&&Lt.az (l.getD 1 default))=true
   ·rw [if_pos c1,nG r (t:=⟨1,⟨0,[],0⟩,[Lt.w1 l],0⟩) (by unfold Lt.dl; rw [if_pos e,if_pos c1])]
   ·rw [if_neg c1,fP r (by unfold Lt.dl; rw [if_pos e,if_neg c1])]
  ·simp only [e,show (decide (([98,114,97,110,99,104]:List UInt8)=[106,117,109,112]))=false from rfl,show (decide (([98,114,97,110,99,104]:List UInt8)=[98,114,97,110,99,104]))=true from rfl,show (decide (([98,114,97,110,99,104]:List UInt8)=[114,101,116]))=false from rfl,show (decide (([98,114,97,110,99,104]:List UInt8)=[116,114,97,112]))=false from rfl,z0,ac,aj,aq,aV,ay,jval,bor,band,bnand,bimp,and_self,fv,lk,lD,aR,eI,WE,V9,if_false,if_true,true_and,WO,Wv,decide_true,not_false_eq_true,false_implies,true_implies,implies_true,ic2,ic4,forall_const];by_cases h4:l.length=4
   ·have eo:(l.drop 1).take (2 - 1)=[l.getD 1 default]:=vK l (i:=0) (by omega)
    rw [eo,rW];have hone:Lt.bU [l.getD 1 default] false:=by show 1<=1099511627776; omega
    refine ⟨fun _=>⟨by decide,by omega⟩,fun _=>⟨by decide,by omega⟩,fun _=>by decide,fun _=>by decide,fun _=>⟨by decide,by omega⟩,fun _=>hone,fun _ ha=>?_,fun _ _=>⟨by decide,by omega⟩,fun _ _=>⟨by decide,by omega⟩,kk hJ ?_⟩
    ·by_cases ho:Lt.bZ false (l.getD 1 default)=true
     ·rw [if_pos ho]; simp
     ·rw [if_neg ho] at ha; simp at ha
    ·have n1:¬ Lt.w0 l=Lt.gm:=by rw [show Lt.w0 l=_ from e]; decide
     by_cases c1:(decide (l.length=4)&&(Lt.az (l.getD 2 default)&&Lt.az (l.getD 3 default)))=true
     ·rw [if_pos c1];by_cases ho:Lt.bZ false (l.getD 1 default)=true
      ·rw [if_pos ho,if_pos rfl,nG r (t:=⟨2,(Lt.cM (Lt.w1 l)).1,[Lt.w2 l,Lt.w3 l],0⟩) (by unfold Lt.dl; rw [if_neg n1,if_pos e,if_pos (by rw [c1,ho]; rfl)])]; rfl
      ·rw [if_neg ho,if_neg (by simp),fP r (by unfold Lt.dl; rw [if_neg n1,if_pos e,if_neg (by rw [c1]; simpa using ho)])]
     ·rw [if_neg c1,fP r (by unfold Lt.dl; rw [if_neg n1,if_pos e,if_neg (by simp only [V7] at c1 ⊢; exact fun h=>c1 h.1)])]
   ·have n1:¬ Lt.w0 l=Lt.gm:=by rw [show Lt.w0 l=_ from e]; decide
    have f4:decide (l.length=4)=false:=decide_eq_false h4
    simp only [f4,WO,V9,false_implies,true_and,if_false];refine kk hJ ?_;rw [fP r (by unfold Lt.dl; rw [if_neg n1,if_pos e,f4]; rfl)]
  ·simp only [e,show (decide (([114,101,116]:List UInt8)=[106,117,109,112]))=false from rfl,show (decide (([114,101,116]:List UInt8)=[98,114,97,110,99,104]))=false from rfl,show (decide (([114,101,116]:List UInt8)=[114,101,116]))=true from rfl,show (decide (([114,101,116]:List UInt8)=[116,114,97,112]))=false from rfl,z0,ac,aj,aq,aV,ay,jval,bor,band,bnand,bimp,and_self,fv,lk,lD,aR,eI,WE,V9,if_false,if_true,true_and,WO,Wv,decide_true,not_false_eq_true,false_implies,true_implies,implies_true,ic2,ic4,forall_const];have n1:¬ Lt.w0 l=Lt.gm:=by rw [show Lt.w0 l=_ from e]; decide
   have n2:¬ Lt.w0 l=Lt.dD:=by rw [show Lt.w0 l=_ from e]; decide
   by_cases h4:l.length=2
   ·have eo:(l.drop 1).take (l.length - 1)=[l.getD 1 default]:=by rw [h4]; exact vK l (i:=0) (by omega)
    rw [eo,rW];have hone:Lt.bU [l.getD 1 default] false:=by show 1<=1099511627776; omega
    refine ⟨fun _=>by decide,fun _=>⟨by omega,by omega⟩,fun _=>hone,fun _ ha=>?_,kk hJ ?_⟩
    ·by_cases ho:Lt.bZ false (l.getD 1 default)=true
     ·rw [if_pos ho]; simp
     ·rw [if_neg ho] at ha; simp at ha
    ·rw [if_pos (by simpa using h4)];by_cases ho:Lt.bZ false (l.getD 1 default)=true
     ·rw [if_pos ho,if_pos rfl,nG r (t:=⟨3,(Lt.cM (Lt.w1 l)).1,[],0⟩) (by unfold Lt.dl; rw [if_neg n1,if_neg n2,if_pos e,if_pos (by rw [ho,h4]; rfl)])]; rfl
     ·rw [if_neg ho,if_neg (by simp),fP r (by unfold Lt.dl; rw [if_neg n1,if_neg n2,if_pos e,if_neg (by rw [h4]; simpa using ho)])]
   ·have f4:decide (l.length=2)=false:=decide_eq_false h4
    simp only [f4,WO,V9,false_implies,true_and,if_false];refine kk hJ ?_;rw [fP r (by unfold Lt.dl; rw [if_neg n1,if_neg n2,if_pos e,f4]; rfl)]
  ·simp only [e,show (decide (([116,114,97,112]:List UInt8)=[106,117,109,112]))=false from rfl,show (decide (([116,114,97,112]:List UInt8)=[98,114,97,110,99,104]))=false from rfl,show (decide (([116,114,97,112]:List UInt8)=[114,101,116]))=false from rfl,show (decide (([116,114,97,112]:List UInt8)=[116,114,97,112]))=true from rfl,z0,ac,aj,aq,aV,ay,jval,bor,band,bnand,bimp,and_self,fv,lk,lD,aR,eI,WE,V9,if_false,if_true,true_and,WO,Wv,decide_true,not_false_eq_true,false_implies,true_implies,implies_true,ic2,ic4,forall_const];have n1:¬ Lt.w0 l=Lt.gm:=by rw [show Lt.w0 l=_ from e]; decide
   have n2:¬ Lt.w0 l=Lt.dD:=by rw [show Lt.w0 l=_ from e]; decide
   have n3:¬ Lt.w0 l=Lt.tQ:=by rw [show Lt.w0 l=_ from e]; decide
   refine ⟨fun h2=>by simp at h2; exact ⟨by decide,by omega⟩,kk hJ ?_⟩;by_cases c1:(decide (l.length=2)&&(Lt.aD (l.getD 1 default)).2)=true
   ·rw [nG r (t:=⟨4,⟨0,[],0⟩,[],(Lt.aD (Lt.w1 l)).1⟩) (by unfold Lt.dl; rw [if_neg n1,if_neg n2,if_neg n3,if_pos e,if_pos c1])];simp only [V7] at c1;rw [if_pos c1.1,if_pos c1.2]
   ·rw [fP r (by unfold Lt.dl; rw [if_neg n1,if_neg n2,if_neg n3,if_pos e,if_neg c1])];simp only [V7,not_and] at c1;by_cases c2:decide (l.length=2)=true
    ·rw [if_pos c2,if_neg (c1 c2)]
    ·rw [if_neg c2]
 ·rw [if_neg (by grind)] at h;exact h
end Go.Am
end

section
namespace Go.Am
open Go
def qh (r:Lt.Read) (dst:List UInt8) (l:List (List UInt8)):Int×Lt.Read:=
 if r.ins=false then (3,r)
 else match Lt.fM dst l with
 | none=>(3,r)
 | some x=>if 1024<=r.Long then (2,r) else (0,{ r.block (fun b=>{ b with Code:=b.Code++[x] }) with Where:=if x.Op=31\/x.Op=34 then 7 else 6,Long:=r.Long+1 })
theorem GK (r:Lt.Read) (l:List (List UInt8)) (hp:Lt.dj r l) (KK:(Int×Lt.Read)->Prop) (h:KK (Lt.bt r l)):wa r l KK:=by
 obtain ⟨hi,hl,hr⟩:=hp;have hr:l.length<=1099511627776:=hr
 have h0:0<l.length:=WK.2 hl
 obtain ⟨hw,⟨hc1,hc2,hc3⟩,_⟩:=id hi;have e0:Lt.bt r l=if (Lt.sEq l&&!Lt.az (Lt.w0 l))=true then (3,r) else qh r (if Lt.sEq l then Lt.w0 l else []) (if Lt.sEq l then l.drop 2 else l):=rfl
 rw [e0] at h;unfold wa; dsimp only;refine fun J1 hJ1=>?_
 have key:∀ (l':List (List UInt8)) (dst:List UInt8),0<l'.length->l'.length<=1099511627776->KK (qh r dst l')->J1 (l',⟨0,dst,[],[],[],[]⟩):=by
  intro l' dst h0' hr' hk;refine hJ1 _ ?_;clear hJ1 h e0 J1;refine ⟨⟨by decide,h0'⟩,?_⟩;simp only [ac,jval,bor,Xf,if_true,aR];refine ifk (fun hc=>?_) (fun hc=>?_)
  ·refine kk hk ?_;unfold qh;by_cases hin:r.ins=false
   ·rw [if_pos hin]
   ·rw [if_neg hin];have:Lt.fM dst l'=none:=by
     unfold Lt.fM;rw [if_pos];unfold Lt.Read.ins at hin;clear hk; grind
    rw [this]
  have hin:¬ r.ins=false:=by unfold Lt.Read.ins; clear hk; grind
  have hw5:5<=r.Where:=by unfold Lt.Read.ins at hin; simp at hin; omega
  have hw8:r.Where<=8:=by unfold Lt.Read.ins at hin; simp at hin; omega
  have hop:¬ ((Lt.sOp (Lt.w0 l')).2&&((Lt.rOf (Lt.sOp (Lt.w0 l')).1).1.Dst==!decide (dst=[])))=false:=by
   clear hk; grind
  clear hc;unfold qh Lt.fM at hk;rw [if_neg hin,if_neg hop] at hk;have ew:l'.getD 0 default=Lt.w0 l':=rfl
  simp only [ew];generalize Lt.sOp (Lt.w0 l')=O at hk hop ⊢;obtain ⟨op,okop⟩:=O;generalize hfm:(Lt.rOf op).1=fm at hk ⊢;simp only at hk ⊢
  obtain ⟨hf,⟨_,⟨_,hl0,_⟩,_⟩,_,_,hb6⟩:=cw hi (by omega);obtain ⟨hbn,hph,hcd,_⟩:=eV hi (by omega);have hf8:r.P.Funcs.length<=5000:=by omega
  have hb5:r.curF.Blocks.length<=5000:=by omega
  have hc5:r.curB.Code.length<=5000:=by omega
  have ef:r.P.Funcs.getD (r.P.Funcs.length - 1) default=r.curF:=rfl
  have eb:r.curF.Blocks.getD (r.curF.Blocks.length - 1) default=r.curB:=rfl
  have l1:∀ x:Lt.Instr,([x]:List Lt.Instr).length=1:=fun _=>rfl
  simp only [aK hf hf8,bv hf,bu hf,Int.toNat_natCast,ef,aK hbn hb5,bv hbn,bu hbn,eb,true_and,l1,eB hc5 (show 112<=200 by omega),ac];refine fun J7 hJ7=>?_
  have key2:∀ nm rest,rest.length<=1099511627776->KK (match (if ((Lt.aT rest false).2&&!(fm.Named&&!Lt.az nm)&&decide (fm.Least<=((Lt.aT rest false).1.length:Int))&&decide (((Lt.aT rest false).1.length:Int)<=fm.Most))=true then some ⟨op,dst,nm,(Lt.aT rest false).1,[],[]⟩ else none:Option Lt.Instr) with
    | none=>(3,r)
    | some x=>if 1024<=r.Long then (2,r) else (0,{ r.block (fun b=>{ b with Code:=b.Code++[x] }) with Where:=if x.Op=31\/x.Op=34 then 7 else 6,Long:=r.Long+1 }))->J7 (rest,⟨op,dst,nm,[],[],[]⟩):=by
   intro nm rest hrest hk2;refine hJ7 _ ⟨hrest,?_⟩;clear hJ7 hk;refine ifk (fun hc=>kk hk2 ?_) (fun hc=>?_)
   ·rw [if_neg (by clear hk2; grind)]
   rw [if_pos (by clear hk2; grind)] at hk2;refine ifk (fun hl=>kk hk2 ?_) (fun hl=>?_)
   ·show (if 1024<=r.Long then _ else _)=_
    rw [if_pos (by simpa using hl)]
   have hl:¬ 1024<=r.Long:=by simpa using hl
   have wl:IntKind.i64.wrap (r.Long+1)=r.Long+1:=wrap_i64 (by omega) (by omega)
   simp only [wl,and_self,ac,jval,bor];refine fun _ _=>kk hk2 ?_
   show (if 1024<=r.Long then _ else _)=_
   rw [if_neg hl];by_cases h31:op=31\/op=34
   ·have:(decide (op=31)||decide (op=34))=true:=by simpa using h31
    rw [if_pos this];unfold Lt.Read.block Lt.Read.func Lt.last;simp only [ef,eb,if_pos h31]
   ·have:¬ (decide (op=31)||decide (op=34))=true:=by simpa using h31
    rw [if_neg this];unfold Lt.Read.block Lt.Read.func Lt.last;simp only [ef,eb,if_neg h31]
  clear hJ7;unfold Lt.Kg at hk;refine ifk (fun hc=>?_) (fun hc=>?_)
  ·rw [if_pos (by simpa using hc)] at hk;refine fun _=>ifk (fun h3=>?_) (fun h3=>?_)
   ·rw [if_pos (by simp at h3; omega)] at hk; exact hk
   ·have h3:¬ l'.length < 3:=by simp at h3; omega
    rw [if_neg h3] at hk;have ed:(l'.drop 3).take (l'.length - 3)=l'.drop 3:=Wu (by rw [Wi]; omega)
    rw [ed];refine ⟨⟨by decide,by omega⟩,⟨by decide,by omega⟩,⟨by simp,by simp⟩,by decide,⟨by omega,Wb _⟩,⟨?_,?_⟩,?_⟩
    ·simp only [Wi,Wf]; omega
    ·simp only [Wi,Wf]; omega
    ·exact key2 _ _ (by simp only [Wp,Wi,List.singleton_append]; omega) hk
  rw [if_neg (by simpa using hc)] at hk;refine ifk (fun hn=>?_) (fun hn=>?_)
  ·rw [hfm,if_pos hn] at hk;refine fun _=>ifk (fun h3=>?_) (fun h3=>?_)
   ·rw [if_pos (by simp at h3; omega)] at hk; exact hk
   ·have h3:¬ l'.length < 2:=by simp at h3; omega
    rw [if_neg h3] at hk;have ed:(l'.drop 2).take (l'.length - 2)=l'.drop 2:=Wu (by rw [Wi]; omega)
    rw [ed];refine ⟨⟨by decide,by omega⟩,by decide,⟨by omega,Wb _⟩,?_⟩;exact key2 _ _ (by rw [Wi]; omega) hk
  ·rw [hfm,if_neg hn] at hk;have ed:(l'.drop 1).take (l'.length - 1)=l'.drop 1:=Wu (by rw [Wi]; omega)
   rw [ed];refine ⟨by decide,⟨by omega,Wb _⟩,?_⟩;exact key2 _ _ (by rw [Wi]; omega) hk
 have es:((decide (2 < (l.length:Int)))&&(decide ((l.getD 1 default)=[61])))=Lt.sEq l:=by
  unfold Lt.sEq; rw [show decide (2 < (l.length:Int))=decide (2<l.length) from decide_eq_decide.2 (by omega)]
 refine fun J3 hJ3=>?_
 have hE:=hJ3 (Lt.sEq l) ?_
 ·refine fun _=>ifk (fun hc=>⟨⟨by decide,by simp at hc; omega⟩,?_⟩) (fun hc=>?_)
  ·rw [<- es,hc,Wv] at hE; exact hE
  ·rw [<- es,Wn.2 hc,WO] at hE; exact hE
 simp only [aR];by_cases hs:Lt.sEq l=true
 ·rw [if_pos hs];rw [hs] at h;have h2:2<l.length:=by unfold Lt.sEq at hs; simp only [V7,decide_eq_true_eq] at hs; exact hs.1
  refine ⟨⟨by decide,h0⟩,?_⟩;refine ifk (fun hc=>kk h ?_) (fun hc=>⟨⟨by decide,h0⟩,by decide,⟨by omega,Wb _⟩,?_⟩)
  ·rw [if_pos (by rw [Wv]; exact hc)]
  ·rw [if_neg (by rw [Wv]; exact hc)] at h;have ed:(l.drop 2).take (l.length - 2)=l.drop 2:=Wu (by rw [Wi]; omega)
   rw [ed];exact key _ _ (by rw [Wi]; omega) (by rw [Wi]; omega) h
 ·rw [if_neg hs];rw [Wn.2 hs] at h;exact key _ _ h0 hr h
end Go.Am
end

section
namespace Go.Am
open Go
theorem OZ {r:Lt.Read} {l:List (List UInt8)} (h:(Lt.bD r l).1.1=false):Lt.bD r l=((false,0),r):=by
 unfold Lt.bD at h ⊢
 repeat' split at h
 all_goals first | (simp at h; done) | skip
 rename_i h1 h2 h3 h4 h5;rw [if_neg h1,if_neg h2,if_neg h3,if_neg h4,if_neg h5]
theorem PH {r:Lt.Read} {l:List (List UInt8)} (h:(Lt.bH r l).1.1=false):Lt.bH r l=((false,0),r):=by
 unfold Lt.bH at h ⊢
 repeat' split at h
 all_goals first | (simp at h; done) | skip
 rename_i h1 h2 h3 h4;rw [if_neg h1,if_neg h2,if_neg h3,if_neg h4]
theorem MH {r:Lt.Read} {l:List (List UInt8)} (h:(Lt.bf r l).1.1=false):Lt.bf r l=((false,0),r):=by
 unfold Lt.bf at h ⊢;by_cases h1:Lt.w0 l=Lt.kAt\/Lt.w0 l=Lt.Gy\/Lt.w0 l=Lt.gm\/Lt.w0 l=Lt.dD\/Lt.w0 l=Lt.tQ\/Lt.w0 l=Lt.tx
 ·rw [if_pos h1] at h
  repeat' split at h
  all_goals simp at h
 ·rw [if_neg h1]
theorem Gg (r:Lt.Read) (l:List (List UInt8)) (b:Bool) (hp:Lt.wV r l b) (KK:(Int×Lt.Read)->Prop) (h:KK (Lt.aO r l b)):xn r l b KK:=by
 have hp:Lt.dj r l:=hp
 obtain ⟨hi,hl,hr⟩:=id hp;have hr:l.length<=1099511627776:=hr
 have h0:0<l.length:=WK.2 hl
 have es:((decide (2 < (l.length:Int)))&&(decide ((l.getD 1 default)=[61])))=Lt.sEq l:=by
  unfold Lt.sEq; rw [show decide (2 < (l.length:Int))=decide (2<l.length) from decide_eq_decide.2 (by omega)]
 unfold xn; dsimp only;unfold Lt.aO at h;refine fun J3 hJ3=>?_
 have hE:=hJ3 (Lt.sEq l) ?_
 ·refine fun _=>ifk (fun hc=>⟨⟨by decide,by simp at hc; omega⟩,?_⟩) (fun hc=>?_)
  ·rw [<- es,hc,Wv] at hE; exact hE
  ·rw [<- es,Wn.2 hc,WO] at hE; exact hE
 show (if Lt.sEq l=true then _ else _)
 refine ifk (fun hs=>⟨hp,?_⟩) (fun hs=>⟨⟨by decide,h0⟩,?_⟩)
 ·rw [if_pos hs] at h; exact h
 rw [if_neg hs] at h;refine ifk (fun hc=>?_) (fun hc=>⟨hp,?_⟩)
 ·rw [if_pos (by simpa using hc)] at h;simp only [ac,jval,bor];refine kk h ?_;by_cases hb:(!b||!decide ((l.length:Int)=1))=true
  ·rw [if_pos hb,if_pos (by grind)]
  ·rw [if_neg hb,if_neg (by grind)]
 rw [if_neg (by simpa using hc)] at h;by_cases hh:(Lt.bD r l).1.1=true
 ·rw [if_pos hh] at h;simp only [hh,WE,V9,if_false,ac];exact h
 rw [if_neg hh] at h;have hh:=Wn.2 hh
 rw [hh];simp only [OZ hh,Xf,if_true,aj,ac];refine ⟨hp,?_⟩;by_cases hh2:(Lt.bH r l).1.1=true
 ·rw [if_pos hh2] at h;simp only [hh2,WE,V9,if_false,ac];exact h
 rw [if_neg hh2] at h;have hh2:=Wn.2 hh2
 simp only [PH hh2,Xf,if_true,aj,ac];refine ⟨hp,?_⟩;by_cases hh3:(Lt.bf r l).1.1=true
 ·rw [if_pos hh3] at h;simp only [hh3,WE,V9,if_false,ac];exact h
 rw [if_neg hh3] at h;have hh3:=Wn.2 hh3
 simp only [MH hh3,Xf,if_true,aj,ac];exact ⟨hp,h⟩
end Go.Am
end

section
namespace Go.Am
open Go
theorem GF (s:List UInt8) (KK:List Lt.RLine×Int×Int->Prop) (h:KK (Lt.bV s)):xc s KK:=by
 have hb:∀ c d:UInt8,decide ((((c.toNat:Nat):Int))=((d.toNat:Nat):Int))=decide (c=d):=fun c d=>by
  by_cases hc:c=d
  ·subst hc; simp
  ·have:c.toNat≠d.toNat:=fun e=>hc (UInt8.toNat_inj.1 e)
   simp only [hc,decide_false,decide_eq_false_iff_not]; omega
 unfold xc; dsimp only;unfold Lt.bV at h;refine fun hl=>ifk (fun hc=>?_) (fun hc=>?_)
 ·rw [if_pos (by simp at hc; omega)] at h; exact h
 rw [if_neg (by simp at hc; omega)] at h;have hs:s.length<=4194304:=by simp at hc; omega
 clear hc;simp only [hb];refine bJ _ (s.length+1) (fun i x=>(i<=s.length/\∃ k:Lt.Cut,x=(k.out,k.l,k.w,k.n,k.remark,k.bad,(i:Int))/\(k.out.length<=i/\k.l.length<=i/\k.w.length<=i/\1<=k.n/\k.n<=(i:Int)+1)/\KK (Lt.cD (s.drop i) k))\/(i=s.length+1/\∃ a b c d e,∃ o,x=(o,a,b,c,d,e,(i:Int))/\KK (o,0,0))) (fun R i x hi hx hR=>?_) (fun R x hx=>?_) _ (Or.inl ⟨WP _,⟨[],[],[],1,false,false⟩,rfl,⟨Wb _,Wb _,Wb _,by decide,by decide⟩,h⟩)
 ·rcases hx with ⟨hi,k,rfl,⟨k1,k2,k3,k4,k5⟩,hk⟩ | ⟨he,_⟩
  ·simp only [show decide ((i:Int)<=(s.length:Int))=true by simpa using hi,if_true,Int.toNat_natCast];refine fun _=>?_
   have w1:IntKind.i64.wrap ((i:Int)+1)=((i+1:Nat):Int):=aQ (by omega)
   have wn:IntKind.i64.wrap (k.n+1)=k.n+1:=wrap_i64 (by omega) (by omega)
   rw [w1,wn];have hw:∀ KK2:List (List UInt8)->Prop,KK2 k.word.l->aa (α:=List (List UInt8)) (fun J15=>(k.w.length<=4611686018427387904->if (decide (0 < (k.w.length:Int)))=true then ((k.l.length+([k.w]:List (List UInt8)).length<=4611686018427387904/\(k.l.length+([k.w]:List (List UInt8)).length)*16<=140737488355328)/\J15 (k.l++([k.w]:List (List UInt8)))) else (J15 k.l))) KK2:=by
    intro KK2 h J hJ hl;refine ifk (fun hc=>⟨⟨by simp; omega,by simp; omega⟩,hJ _ (kk h ?_)⟩) (fun hc=>hJ _ (kk h ?_))
    ·unfold Lt.Cut.word;rw [if_neg (by intro e; rw [e] at hc; simp at hc)]
    ·unfold Lt.Cut.word;rw [if_pos (by cases hh:k.w with
      | nil=>rfl
      | cons a b=>rw [hh] at hc; simp at hc)]
   refine fun J3 hJ3=>?_
   by_cases hend:i=s.length\/s.getD i 0=10
   ·refine fun J5 hJ5=>?_
    have g:=hJ5 true ?_
    ·refine fun _=>ifk (fun _=>g) (fun hc=>?_)
     have hlt:i<s.length:=by simp at hc; omega
     refine ⟨⟨We i,hlt⟩,?_⟩;have h10:s.getD i 0=10:=by
      rcases hend with h | h
      ·omega
      ·exact h
     rw [show decide (s.getD i 0=10)=true by simpa using h10]; exact g
    ·simp only [WE,V9,if_false,if_true,ac];refine fun J11 hJ11=>hw _ (hJ11 (k.word.l,[],k.bad) ?_)
     have hk2:KK (if k.bad=true then ([],k.n,3) else if i=s.length then (k.line.out,0,0) else Lt.cD (s.drop (i+1)) k.line):=by
      by_cases he:i=s.length
      ·rw [if_pos he];rw [he,Xd] at hk;exact hk
      ·have hlt:i<s.length:=by omega
       have h10:s.getD i 0=10:=by
        rcases hend with h | h
        ·omega
        ·exact h
       rw [if_neg he];rw [Wm hlt] at hk;have ec:s[i]=10:=by rw [List.getD,V8 hlt] at h10; exact h10
       rw [ec,Lt.cD,if_pos rfl] at hk;exact hk
     refine ifk (fun hb=>?_) (fun hb=>?_)
     ·rw [if_pos hb] at hk2; exact hk2
     rw [if_neg hb] at hk2;have hwl:k.word.l.length<=i+1:=by
      unfold Lt.Cut.word; simp only; split
      ·omega
      ·simp only [WA,Wf]; omega
     refine fun J19 hJ19=>?_
     have g2:=hJ19 k.line.out ?_
     ·refine fun _=>ifk (fun hc=>⟨⟨by simp; omega,by simp; omega⟩,kk g2 ?_⟩) (fun hc=>kk g2 ?_)
      ·unfold Lt.Cut.line;rw [if_neg (by intro e; rw [e] at hc; simp at hc)]
      ·unfold Lt.Cut.line;rw [if_pos (by cases hh:k.word.l with
        | nil=>rfl
        | cons a b=>rw [hh] at hc; simp at hc)]
     ·refine hJ3 _ (hR _ ?_);by_cases he:i=s.length
      ·rw [if_pos he] at hk2;exact Or.inr ⟨by omega,_,_,_,_,_,_,rfl,hk2⟩
      ·rw [if_neg he] at hk2;refine Or.inl ⟨by omega,k.line,rfl,⟨?_,WP _,WP _,?_,?_⟩,hk2⟩
       ·unfold Lt.Cut.line; simp only; split
        ·omega
        ·simp only [WA,Wf]; omega
       ·show 1<=k.n+1; omega
       ·show k.n+1<=((i+1:Nat):Int)+1; omega
   ·have hlt:i<s.length:=by omega
    have h10:¬ s.getD i 0=10:=fun h=>hend (Or.inr h)
    have ob:((0:Int)<=(i:Int)/\i<s.length)=True:=by simp [hlt]
    have hk2:KK (Lt.cD (s.drop (i+1)) (k.byte (s.getD i 0))):=by
     have e:s.getD i 0=s[i]:=by rw [List.getD,V8 hlt]; rfl
     rw [Wm hlt,<- e,Lt.cD,if_neg h10] at hk;exact hk
    clear hk;have c33:decide (((s.getD i 0).toNat:Int) < ((UInt8.toNat 33:Nat):Int))=decide ((s.getD i 0).toNat < 33):=decide_eq_decide.2 (by show ((s.getD i 0).toNat:Int) < 33 ↔ _; omega)
    have c126:decide (((UInt8.toNat 126:Nat):Int) < ((s.getD i 0).toNat:Int))=decide (126 < (s.getD i 0).toNat):=decide_eq_decide.2 (by show (126:Int) < ((s.getD i 0).toNat:Int) ↔ _; omega)
    simp only [show decide ((i:Int)=(s.length:Int))=false by simp; omega,V9,if_false,ob,true_and,aq,ac,show decide (s.getD i 0=10)=false by simpa using h10,Xf,if_true,jval,bor,c33,c126];simp only [aq] at hw;refine fun _ J11 hJ11=>?_
    refine ifk (fun hv=>hw _ (hJ11 (k.word.l,[],k.bad) (hJ3 _ (hR _ (Or.inl ?_))))) (fun hv=>⟨⟨by simp; omega,by simp; omega⟩,hJ11 _ (hJ3 _ (hR _ (Or.inl ?_)))⟩)
    ·refine ⟨by omega,k.byte (s.getD i 0),?_,?_,hk2⟩
     ·by_cases h59:s.getD i 0=59
      ·have e9:decide (s.getD i 0=59)=true:=decide_eq_true h59
       unfold Lt.Cut.byte; simp only [if_pos h59,e9,Bool.true_or]; rfl
      ·have e:Lt.Cut.byte k (s.getD i 0)=k.word:=by
        unfold Lt.Cut.byte; rw [if_neg h59,if_pos];have hv2:(s.getD i 0=59\/k.remark=true)\/(s.getD i 0=32\/s.getD i 0=9):=by simpa only [WY,Wq,decide_eq_true_eq] using hv
        simp only [Wq,decide_eq_true_eq]
        grind
       have e9:decide (s.getD i 0=59)=false:=decide_eq_false h59
       simp only [e,e9,WY]; rfl
     ·have hwl:k.word.l.length<=i+1:=by
       unfold Lt.Cut.word; simp only; split
       ·omega
       ·simp only [WA,Wf]; omega
      by_cases h59:s.getD i 0=59
      ·unfold Lt.Cut.byte; rw [if_pos h59];exact ⟨by show k.out.length<=i+1; omega,hwl,WP _,k4,by show k.n<=_; omega⟩
      ·have e:Lt.Cut.byte k (s.getD i 0)=k.word:=by
        unfold Lt.Cut.byte; rw [if_neg h59,if_pos];have hv2:(s.getD i 0=59\/k.remark=true)\/(s.getD i 0=32\/s.getD i 0=9):=by simpa only [WY,Wq,decide_eq_true_eq] using hv
        simp only [Wq,decide_eq_true_eq]
        grind
       rw [e];exact ⟨by show k.out.length<=i+1; omega,hwl,WP _,k4,by show k.n<=_; omega⟩
    ·have hv2:¬ ((s.getD i 0=59\/k.remark=true)\/(s.getD i 0=32\/s.getD i 0=9)):=by simpa only [WY,Wq,decide_eq_true_eq] using hv
     have h59:¬ s.getD i 0=59:=fun e=>hv2 (.inl (.inl e))
     have e:Lt.Cut.byte k (s.getD i 0)={ k with bad:=k.bad||(decide ((s.getD i 0).toNat < 33)||decide (126 < (s.getD i 0).toNat)),w:=k.w++[s.getD i 0] }:=by
      unfold Lt.Cut.byte; rw [if_neg h59,if_neg];simp only [Wq,decide_eq_true_eq]
      grind
     rw [e] at hk2;refine ⟨by omega,_,?_,?_,hk2⟩
     ·have e9:decide (s.getD i 0=59)=false:=decide_eq_false h59
      simp only [e9,WY]
     ·exact ⟨by show k.out.length<=i+1; omega,by show k.l.length<=i+1; omega,by simp only [WA,Wf]; omega,k4,by show k.n<=_; omega⟩
  ·omega
 ·rcases hx with ⟨hi,_⟩ | ⟨_,a,b,c,d,e,o,rfl,hk⟩
  ·omega
  ·simp only [show decide (((s.length+1:Nat):Int)<=(s.length:Int))=false by simp; omega,V9,if_false];exact fun _=>hk
end Go.Am
end

section
namespace Go.Am
open Go
theorem y8 {α:Type} (p:α->Bool) (d:α):∀ l:List α,((List.range l.length).all fun i=>p (l.getD i d))=l.all p
 | []=>rfl
 | a::r=>by
  rw [Wp,List.range_succ_eq_map,Wl,XK];have:=y8 p d r
  simp only [Wl,Function.comp_def,List.getD_cons_zero,List.getD_cons_succ];rw [this]
theorem zD (i:Nat) (c:UInt8):Lt.lj i c=(Lt.letter c||(Lt.fh c&&decide (0<i))):=by
 unfold Lt.lj Lt.letter Lt.Bn Lt.fh;rw [Xi];simp;omega
theorem cg (s:List UInt8):Lt.az s=Lt.Name s:=by
 unfold Lt.az Lt.Name Lt.kept;cases s with
 | nil=>rfl
 | cons a r=>
  rw [Wp,List.range_succ_eq_map,Wl,XK];have e:((List.range r.length).all ((fun i=>Lt.lj i ((a::r).getD i 0)) ∘ Nat.succ))=r.all Lt.iS:=by
   rw [<- y8 Lt.iS 0 r]
   congr 1; funext i
   simp [zD,Lt.iS]
  have e16:decide (((r.length+1:Nat):Int)<=16)=decide (r.length+1<=16):=decide_eq_decide.2 (by omega)
  have e1:decide (1<=((r.length+1:Nat):Int))=true:=by simp; omega
  rw [e,zD,e16,e1];simp only [Wl,List.getD_cons_zero,Lt.iS,Xj,decide_false,Bool.and_false,Xg,reduceCtorEq,Xf,Wv];cases Lt.letter a <;> cases Lt.fh a <;> cases r.all (fun c=>Lt.letter c||Lt.fh c) <;> simp
  all_goals grind
theorem Qb (x:Nat):(9218868437227405312<x % 9223372036854775808) ↔ ((x &&& 9218868437227405312)=9218868437227405312/\(x &&& 4503599627370495)≠0):=by
 have e1:x &&& 4503599627370495=x % 2 ^ 52:=Xo x 52
 have e2:x &&& 9223372036854775807=x % 2 ^ 63:=Xo x 63
 have e3:(x &&& 9218868437227405312) % 2 ^ 52=0:=by
  rw [<- Xo,Nat.and_assoc];have:(9218868437227405312 &&& (2 ^ 52 - 1):Nat)=0:=by decide
  rw [this,Nat.and_zero]
 have e4:x &&& 9223372036854775807=(x &&& 9218868437227405312) ||| (x &&& 4503599627370495):=by
  rw [<- Nat.and_or_distrib_left];have:(9218868437227405312 ||| 4503599627370495:Nat)=9223372036854775807:=by decide
  rw [this]
 obtain ⟨q,hq⟩:∃ q,x &&& 9218868437227405312=2 ^ 52*q:=⟨_,(Nat.mul_div_cancel' (Nat.dvd_of_mod_eq_zero e3)).symm⟩
 have h:=Nat.and_le_right (n:=x) (m:=9218868437227405312)
 rw [hq,e1,<- Nat.two_pow_add_eq_or_of_lt (Xs _ (by decide))] at e4;rw [hq] at h;rw [hq,e1];omega
theorem gu (n:Int):IntKind.u64.wrap n=(((BitVec.ofInt 64 n).toNat:Nat):Int):=by
 rw [BitVec.toNat_ofInt];simp only [IntKind.wrap,IntKind.signed,IntKind.bits];simp;omega
theorem kh (n:Int):Lt.bi n=Lt.Plain n:=by
 unfold Lt.bi Lt.oH Lt.Plain;have b64:IntKind.i64.bits=64:=rfl
 rw [gu,b64,BitVec.toNat_and,BitVec.toNat_and];generalize (BitVec.ofInt 64 n).toNat=x;have c1:(BitVec.ofInt 64 9218868437227405312).toNat=9218868437227405312:=by decide
 have c2:(BitVec.ofInt 64 4503599627370495).toNat=4503599627370495:=by decide
 rw [c1,c2];have h1:=Nat.and_le_right (n:=x) (m:=9218868437227405312)
 have h2:=Nat.and_le_right (n:=x) (m:=4503599627370495)
 have:=Qb x
 rw [dU (by omega) (by omega),dU (by omega) (by omega)];have et:Int.tmod (x:Int) 9223372036854775808=((x % 9223372036854775808:Nat):Int):=rfl
 rw [et];by_cases hc:9218868437227405312<x % 9223372036854775808
 ·have h:=this.1 hc
  have k1:((x &&& 9218868437227405312:Nat):Int)=9218868437227405312:=by omega
  have k2:¬ ((x &&& 4503599627370495:Nat):Int)=0:=by omega
  rw [if_pos (by simp; omega),if_pos (by rw [decide_eq_true k1,decide_eq_false k2]; rfl)]
 ·have h:¬ (((x &&& 9218868437227405312:Nat):Int)=9218868437227405312/\¬ ((x &&& 4503599627370495:Nat):Int)=0):=fun h=>hc (this.2 ⟨by omega,by omega⟩)
  rw [if_neg (by simp; omega),if_neg (by simpa using h)]
def O9:List UInt8:=[48,49,50,51,52,53,54,55,56,57,97,98,99,100,101,102]
def jN (k:Nat):UInt8:=O9.getD (k % 16) 0
theorem Ce (k:Nat):Lt.Oa (k:Int)=jN k:=by
 unfold Lt.Oa jN;have e:Int.tmod (k:Int) 16=((k % 16:Nat):Int):=rfl
 rw [e];have h:k % 16 < 16:=Xs _ (by decide)
 generalize k % 16=j at h;have:∀ j:Fin 16,UInt8.ofNat (IntKind.u8.wrap ((IntKind.u8.wrap ((j.1:Nat):Int))+(if IntKind.u8.wrap ((j.1:Nat):Int) < 10 then 48 else 87))).toNat=O9.getD j.1 0:=by decide
 exact this ⟨j,h⟩
theorem Ci:∀ (k m:Nat) (l:List UInt8),m < 18446744073709551616->Lt.g9 k (m:Int) l=((List.range k).map fun i=>jN (m / 16 ^ (k - 1-i)))++l
 | 0,m,l,_=>rfl
 | k+1,m,l,h=>by
  rw [Lt.g9,show Int.tdiv (m:Int) 16=((m / 16:Nat):Int) from rfl,bL (by omega),Ci k (m / 16) _ (by omega),Ce,List.range_succ,Xb];have e:(List.range k).map (fun i=>jN (m / 16 / 16 ^ (k - 1-i)))=(List.range k).map (fun i=>jN (m / 16 ^ (k+1 - 1-i))):=by
   refine Ws (fun i hi=>?_);have hi:i<k:=List.mem_range.1 hi
   rw [Nat.div_div_eq_div_mul,show k+1 - 1-i=(k - 1-i)+1 by omega,Nat.pow_succ,Nat.mul_comm 16]
  rw [e];simp
theorem NQ (u:Int) (s:Nat) (hs:s<=60):Lt.Qe u (s:Int)=jN ((BitVec.ofInt 64 u).toNat / 2 ^ s):=by
 unfold Lt.Qe;have b64:IntKind.u64.bits=64:=rfl
 rw [gu u,bL (n:=s) (by omega),b64,Int.toNat_natCast,Nat.min_eq_left (by omega)];have hx:=(BitVec.ofInt 64 u).isLt
 generalize (BitVec.ofInt 64 u).toNat=x at hx ⊢;have e:Int.fdiv (x:Int) (2 ^ s)=((x / 2 ^ s:Nat):Int):=by
  rw [show ((2:Int) ^ s)=((2 ^ s:Nat):Int) by simp,Int.fdiv_eq_ediv_of_nonneg _ (We _)]; rfl
 have hlt:x / 2 ^ s < 18446744073709551616:=Nat.lt_of_le_of_lt (Nat.div_le_self _ _) hx
 have c15:(BitVec.ofInt 64 15).toNat=15:=by decide
 have e2:(BitVec.ofInt 64 ((x / 2 ^ s:Nat):Int)).toNat=x / 2 ^ s:=by
  generalize x / 2 ^ s=y at hlt;rw [BitVec.toNat_ofInt]; omega
 rw [e,BitVec.toNat_and,c15,e2];have e3:(x / 2 ^ s &&& 15:Nat)=x / 2 ^ s % 16:=Xo _ 4
 rw [e3,bL (by omega),Int.toNat_natCast];rfl
theorem Bt (n:Int):Lt.jR n=Lt.oZ n:=by
 unfold Lt.jR Lt.oZ;rw [kh,gu,Ci 16 _ _ (BitVec.isLt _),XC]
 congr 1
 refine Ws (fun i hi=>?_);have hi:i < 16:=List.mem_range.1 hi
 have e:(60:Int) - 4*(i:Int)=((60 - 4*i:Nat):Int):=by omega
 rw [e,NQ _ _ (by omega)];rw [show 60 - 4*i=4*(16 - 1-i) by omega,Nat.pow_mul]
theorem vD (a:Lt.Arg):Lt.fX a=Lt.bj a:=by
 unfold Lt.fX Lt.bj;rw [cg,kh];by_cases h1:a.Kind=1
 ·rw [if_pos h1,if_pos h1]
 rw [if_neg h1,if_neg h1];by_cases h2:a.Kind=2
 ·simp [h2]
 by_cases h3:a.Kind=3
 ·simp [h3]
 by_cases h4:a.Kind=4
 ·simp [h4]
 by_cases h5:a.Kind=5
 ·simp [h5,Bool.and_assoc]
 have:(((decide (a.Kind < 1))||(decide (5<a.Kind)))||(!decide (a.S=[])))=true:=by simp; omega
 rw [if_pos this,if_neg h2,if_neg h3,if_neg h4,if_neg h5]
theorem Ks (a:Lt.Arg):Lt.mJ a=Lt.cG a:=by
 unfold Lt.mJ Lt.cG Lt.pU;rw [vD,Bt];by_cases h:Lt.bj a=true
 ·rw [if_pos h,if_pos h];rcases uf h with h | h | h | h | h
  ·simp [h.1]
  ·simp [h.1]
  ·simp [h.1]
  ·simp [h.1]
  ·simp [h.1]
 ·rw [if_neg h,if_neg h]
theorem I1 (op:Int):(Lt.rOf op).2=(Lt.Of op).2/\(Lt.rOf op).1.Word=(Lt.Of op).1.Word/\(Lt.rOf op).1.Dst=(Lt.Of op).1.Dst/\(Lt.rOf op).1.Named=(Lt.Of op).1.Named/\(Lt.rOf op).1.Least=(Lt.Of op).1.Least/\(Lt.rOf op).1.Most=(Lt.Of op).1.Most:=by
 by_cases h:1<=op/\op<=34
 ·obtain ⟨k,rfl⟩:=XI (show 0<=op by omega);have hk:k < 35:=by omega
  have:∀ k:Fin 35,1<=k.1->(Lt.rOf (k.1:Int)).2=(Lt.Of (k.1:Int)).2/\(Lt.rOf (k.1:Int)).1.Word=(Lt.Of (k.1:Int)).1.Word/\(Lt.rOf (k.1:Int)).1.Dst=(Lt.Of (k.1:Int)).1.Dst/\(Lt.rOf (k.1:Int)).1.Named=(Lt.Of (k.1:Int)).1.Named/\(Lt.rOf (k.1:Int)).1.Least=(Lt.Of (k.1:Int)).1.Least/\(Lt.rOf (k.1:Int)).1.Most=(Lt.Of (k.1:Int)).1.Most:=by decide +kernel
  exact this ⟨k,hk⟩ (by show 1<=k; omega)
 ·unfold Lt.rOf Lt.Of;rw [if_pos (by omega)]
  repeat rw [if_neg (by omega)]
  exact ⟨rfl,rfl,rfl,rfl,rfl,rfl⟩
end Go.Am
end

section
namespace Go.Am
open Go
def short (s:List UInt8):Prop:=s.length<=140737488355328
def lu (v:Lt.Var):Prop:=short v.Name/\short v.Type_
def cM (a:Lt.Arg):Prop:=short a.S
def U5 (b:Lt.Bind):Prop:=short b.Name/\cM b.A
def Ui (f:Lt.Frame):Prop:=short f.Func/\short f.Block/\∀ b∈f.Vars,U5 b
def l8 (o:Lt.Virt):Prop:=short o.Class/\∀ a∈o.Vals,cM a
def fM (x:Lt.Instr):Prop:=short x.Dst/\short x.Name/\(∀ a∈x.Args,cM a)/\(∀ f∈x.Frames,Ui f)/\∀ o∈x.Objs,l8 o
def sIn (b:Lt.In):Prop:=short b.Block/\cM b.A
def l5 (x:Lt.Phi):Prop:=short x.Dst/\∀ i∈x.Ins,sIn i
def dS (b:Lt.Block):Prop:=short b.Name/\cM b.End.A/\(∀ t∈b.End.To,short t)/\(∀ x∈b.Phis,l5 x)/\∀ i∈b.Code,fM i
def iN (f:Lt.Func):Prop:=short f.Name/\short f.Result/\(∀ v∈f.Params,lu v)/\(∀ v∈f.Vars,lu v)/\∀ b∈f.Blocks,dS b
def eP (c:Lt.Class):Prop:=short c.Name/\∀ v∈c.Fields,lu v
end Go.Am
end

section
namespace Go.Am
open Go
theorem xL:∀ (k:Nat) (x:Int) (l:List UInt8),(Lt.g9 k x l).length=k+l.length
 | 0,_,_=>by simp [Lt.g9]
 | k+1,x,l=>by rw [Lt.g9,xL k]; simp; omega
theorem U3 (n:Nat):(gw.getD n default).length<=10:=by
 have h:∀ w∈gw,w.length<=10:=by decide
 rw [List.getD];cases hn:gw[n]? with
 | none=>simp; exact WP _
 | some w=>
  simp only [Option.getD_some];exact h w (WC hn)
end Go.Am
end

section
namespace Go.Am
open Go
theorem pf:∀ (n:Nat),∀ c∈Lt.digs n,48<=c.toNat/\c.toNat<=57:=by
 intro n;induction n using Nat.strongRecOn with
 | _ n ih=>
  have hd:∀ k:Nat,k < 10->(UInt8.ofNat (48+k)).toNat=48+k:=fun k hk=>by simp; omega
  by_cases h:n < 10
  ·rw [da h];intro c hc;rw [WJ.1 hc,hd n h]; omega
  ·rw [iY h];intro c hc;rcases WT.1 hc with hc | hc
   ·exact ih (n / 10) (by omega) c hc
   ·rw [WJ.1 hc,hd _ (Xs _ (by decide))];have:=Xs n (show 10 > 0 by decide); omega
theorem Bx (n:Nat):Lt.digs n≠[]:=by
 by_cases h:n < 10
 ·rw [da h]; simp
 ·rw [iY h]; simp
theorem Ky {m:Nat} {c:UInt8} (h1:48<=c.toNat) (h2:c.toNat<=57) (h3:10*m+(c.toNat - 48) < 18446744073709551616):Lt.gq (m:Int) c=((10*m+(c.toNat - 48):Nat):Int):=by
 unfold Lt.gq;simp only [IntKind.wrap,IntKind.signed,IntKind.bits];simp;omega
theorem LA:∀ (n:Nat),n < 18446744073709551616->(Lt.digs n).foldl Lt.gq 0=(n:Int):=by
 intro n;induction n using Nat.strongRecOn with
 | _ n ih=>
  intro hn;have hd:∀ k:Nat,k < 10->(UInt8.ofNat (48+k)).toNat=48+k:=fun k hk=>by simp; omega
  by_cases h:n < 10
  ·rw [da h];show Lt.gq ((0:Nat):Int) _=_
   rw [Ky (by rw [hd n h]; omega) (by rw [hd n h]; omega) (by rw [hd n h]; omega),hd n h]; omega
  ·rw [iY h,fL,ih (n / 10) (by omega) (by omega)];have:=Xs n (show 10 > 0 by decide)
   rw [Ky (by rw [hd _ this]; omega) (by rw [hd _ this]; omega) (by rw [hd _ this]; omega),hd _ this]; omega
theorem Qx {n:Int} (h:Lt.inR n):Lt.D9 (Lt.aS n)=n:=by
 have hl:=pz h
 unfold Lt.inR at h;have hne:=Bx n.natAbs
 have hdd:=pf n.natAbs
 have hf:=LA n.natAbs (by omega)
 unfold Lt.D9 Lt.Al Lt.pJ;rw [Wu (show (Lt.aS n).length<=30 by omega)];by_cases hn:n < 0
 ·have e:Lt.aS n=45::Lt.digs n.natAbs:=by unfold Lt.aS; rw [if_pos hn]; rfl
  rw [e];simp only [List.getD_cons_zero,if_true,List.drop_succ_cons,List.drop_zero];rw [hf];simp only [IntKind.wrap,IntKind.signed,IntKind.bits];simp;omega
 ·have e:Lt.aS n=Lt.digs n.natAbs:=by unfold Lt.aS; rw [if_neg hn]; rfl
  rw [e];have h45:¬ (Lt.digs n.natAbs).getD 0 0=45:=by
   intro e;cases hh:Lt.digs n.natAbs with
   | nil=>exact hne hh
   | cons a r=>
    rw [hh] at e hdd;have:=hdd a (by simp)
    have e:a=45:=e
    subst e;simp at this
  rw [if_neg h45,if_neg h45,hf];simp only [IntKind.wrap,IntKind.signed,IntKind.bits];simp;omega
theorem xy {n:Int} (h:Lt.inR n):Lt.aD (Lt.aS n)=(n,true):=by
 unfold Lt.aD;rw [Qx h,if_pos (show Lt.pU n=Lt.aS n from rfl)]
theorem sa {s:List UInt8} (h:(Lt.aD s).2=true):Lt.aS (Lt.aD s).1=s:=by
 unfold Lt.aD at h ⊢;split at h
 ·rename_i hc; rw [if_pos hc]; exact hc
 ·cases h
theorem CE (n:Int):∀ c∈Lt.aS n,c=45\/(48<=c.toNat/\c.toNat<=57):=by
 intro c hc;unfold Lt.aS at hc;rcases WT.1 hc with hc | hc
 ·split at hc
  ·exact .inl (WJ.1 hc)
  ·cases hc
 ·exact .inr (pf _ c hc)
theorem zc (n:Int):Lt.aS n≠[]:=by
 unfold Lt.aS;have:=Bx n.natAbs
 simp [this]
theorem Oq (k:Nat):(if 97<=(IntKind.u64.wrap (((jN k).toNat:Nat):Int)) then IntKind.u64.wrap ((IntKind.u64.wrap (((jN k).toNat:Nat):Int)) - 87) else IntKind.u64.wrap ((IntKind.u64.wrap (((jN k).toNat:Nat):Int)) - 48))=((k % 16:Nat):Int):=by
 unfold jN;have h:k % 16 < 16:=Xs _ (by decide)
 generalize k % 16=j at h;have:∀ j:Fin 16,(if 97<=(IntKind.u64.wrap (((O9.getD j.1 0).toNat:Nat):Int)) then IntKind.u64.wrap ((IntKind.u64.wrap (((O9.getD j.1 0).toNat:Nat):Int)) - 87) else IntKind.u64.wrap ((IntKind.u64.wrap (((O9.getD j.1 0).toNat:Nat):Int)) - 48))=((j.1:Nat):Int):=by decide
 exact this ⟨j,h⟩
theorem RT {u k:Nat} (h:16*u+15 < 18446744073709551616):Lt.wO (u:Int) (jN k)=((16*u+k % 16:Nat):Int):=by
 unfold Lt.wO;rw [Oq];have e:Int.tmod ((k % 16:Nat):Int) 16=((k % 16:Nat):Int):=by
  rw [show Int.tmod ((k % 16:Nat):Int) 16=((k % 16 % 16:Nat):Int) from rfl,Nat.mod_mod]
 rw [e];have h16:=Xs k (show 16 > 0 by decide)
 rw [show ((u:Nat):Int)*16=((16*u:Nat):Int) by omega,bL (by omega),show ((16*u:Nat):Int)+((k % 16:Nat):Int)=((16*u+k % 16:Nat):Int) by omega,bL (by omega)]
theorem nf:∀ (k m:Nat) (l:List UInt8),m < 18446744073709551616->k<=16->(Lt.g9 k (m:Int) l).foldl Lt.wO 0=l.foldl Lt.wO ((m % 16 ^ k:Nat):Int)
 | 0,m,l,_,_=>by simp [Lt.g9,Nat.mod_one]
 | k+1,m,l,h,hk=>by
  rw [Lt.g9,show Int.tdiv (m:Int) 16=((m / 16:Nat):Int) from rfl,bL (by omega),nf k (m / 16) _ (by omega) (by omega),Ce,Xr];have hp:16 ^ k<=16 ^ 15:=Nat.pow_le_pow_right (by decide) (by omega)
  have hm:=Xs (m / 16) (show 16 ^ k > 0 from Nat.pow_pos (by decide))
  have h15:(16:Nat) ^ 15=1152921504606846976:=by decide
  rw [RT (by omega)]
  congr 2
  rw [Nat.pow_succ,Nat.mul_comm (16 ^ k) 16,Nat.mod_mul];omega
theorem zB {n:Int} (h:Lt.inR n):Lt.inR (Lt.bi n):=by
 unfold Lt.bi Lt.inR at *;split <;> omega
theorem NK {n:Int} (h:Lt.inR n):Lt.yZ (Lt.jR n)=Lt.bi n:=by
 have hp:=zB h
 unfold Lt.inR at hp;unfold Lt.yZ Lt.jR;have hx:IntKind.u64.wrap (Lt.bi n)=(((IntKind.u64.wrap (Lt.bi n)).toNat:Nat):Int):=by
  rw [gu]; rfl
 have hlt:(IntKind.u64.wrap (Lt.bi n)).toNat < 18446744073709551616:=by
  rw [gu]; exact BitVec.isLt _
 have hl:=xL 16 (IntKind.u64.wrap (Lt.bi n)) []
 have ed:([48,102]++Lt.g9 16 (IntKind.u64.wrap (Lt.bi n)) []).drop 2=Lt.g9 16 (IntKind.u64.wrap (Lt.bi n)) []:=rfl
 rw [ed,Wu (by rw [hl]; simp),hx,nf 16 _ _ hlt (by omega)];simp only [List.foldl_nil];have h16:(16:Nat) ^ 16=18446744073709551616:=by decide
 rw [h16,Xn hlt,<- hx];simp only [IntKind.wrap,IntKind.signed,IntKind.bits];simp;omega
theorem Ps (n:Int):(Lt.jR n).length=18:=by rw [Bt]; exact IG n
theorem Gx (n:Int):Lt.jR (Lt.bi n)=Lt.jR n:=by
 unfold Lt.jR;have:Lt.bi (Lt.bi n)=Lt.bi n:=by
  unfold Lt.bi;by_cases h:Lt.oH n=true
  ·rw [if_pos h]; simp
  ·rw [if_neg h,if_neg h]
 rw [this]
theorem uQ {n:Int} (h:Lt.inR n):Lt.eD (Lt.jR n)=(Lt.bi n,true):=by
 unfold Lt.eD;rw [NK h,if_pos ⟨Ps n,Gx n⟩]
theorem fu (s:List UInt8) (a:Lt.Arg):Lt.qO s a=true ↔ Lt.bj a=true/\Lt.cG a=s:=by
 unfold Lt.qO;rw [vD,Ks]; simp
theorem Vd {n:Int}:Lt.cG ⟨2,[],n⟩=Lt.aS n:=by simp [Lt.cG,Lt.bj]
theorem S9 {n:Int} (h:Lt.Plain n=n):Lt.cG ⟨3,[],n⟩=Lt.oZ n:=by simp [Lt.cG,Lt.bj,h]
theorem Va:Lt.cG ⟨4,[],0⟩=[110,117,108,108]:=by decide
theorem SZ {n:Int} (h0:0<=n) (h1:n<=999):Lt.cG ⟨5,[],n⟩=35::Lt.aS n:=by simp [Lt.cG,Lt.bj,h0,h1]
theorem Vz {s:List UInt8} (h:Lt.Name s=true):Lt.cG ⟨1,s,0⟩=s:=by simp [Lt.cG,Lt.bj,h]
theorem VZ (s:List UInt8):Lt.qO s ⟨1,s,0⟩=Lt.Name s:=by
 unfold Lt.qO;rw [vD,Ks];by_cases h:Lt.Name s=true
 ·rw [Vz h]; simp [Lt.bj,h]
 ·simp [Lt.bj,h]
theorem rP {s:List UInt8} (h:(Lt.cM s).2=true):Lt.bj (Lt.cM s).1=true/\Lt.cG (Lt.cM s).1=s:=by
 unfold Lt.cM at h ⊢;split at h
 ·rename_i hc; rw [if_pos hc]; exact (fu _ _).1 hc
 rename_i n1; rw [if_neg n1];split at h
 ·rename_i hc; rw [if_pos hc]; exact (fu _ _).1 hc
 rename_i n2; rw [if_neg n2];split at h
 ·rename_i hc; rw [if_pos hc]; exact (fu _ _).1 hc
 rename_i n3; rw [if_neg n3];split at h
 ·rename_i hc; rw [if_pos hc]; exact (fu _ _).1 hc
 rename_i n4; rw [if_neg n4];split at h
 ·rename_i hc; rw [if_pos hc]; exact (fu _ _).1 hc
 ·cases h
theorem k9 {objs:Bool} {s:List UInt8} (h:Lt.bZ objs s=true):Lt.dQ objs (Lt.cM s).1=true:=by
 unfold Lt.bZ at h;simp only [V7] at h;unfold Lt.dQ;rw [(rP h.1).1];simpa using h.2
theorem vm {objs:Bool} {l:List (List UInt8)} (h:(Lt.aT l objs).2=true):Lt.mT (Lt.aT l objs).1 objs=true/\(Lt.aT l objs).1.length=l.length/\Lt.puts (Lt.aT l objs).1=l:=by
 unfold Lt.aT at h ⊢;split at h
 ·rename_i hc;rw [if_pos hc];rw [Wj] at hc;refine ⟨?_,by simp,?_⟩
  ·unfold Lt.mT;rw [Wj];intro a ha;obtain ⟨w,hw,rfl⟩:=WW.1 ha;exact k9 (hc w hw)
  ·unfold Lt.puts;rw [Wo];have:∀ w∈l,(Lt.cG ∘ (fun w=>(Lt.cM w).1)) w=id w:=fun w hw=>by
    have:=hc w hw
    unfold Lt.bZ at this;simp only [V7] at this;exact (rP this.1).2
   rw [Ws this,List.map_id]
 ·cases h
theorem tc {objs:Bool}:∀ {l:List (List UInt8)} {x:List Lt.Bind},Lt.bk objs l=some x->(∀ b∈x,Lt.Name b.Name=true/\Lt.dQ objs b.A=true)/\(x.flatMap fun b=>[b.Name,Lt.cG b.A])=l
 | [],x,h=>by
  have:x=[]:=by simpa [Lt.bk] using h.symm
  subst this; simp
 | [_],x,h=>by simp [Lt.bk] at h
 | a::b::r,x,h=>by
  rw [Lt.bk] at h;split at h
  ·rename_i hc;rw [V7,cg] at hc;cases hr:Lt.bk objs r with
   | none=>simp [hr] at h
   | some y=>
    obtain ⟨k1,k2⟩:=tc hr;simp [hr] at h;subst h;refine ⟨?_,?_⟩
    ·intro z hz;rcases Wk.1 hz with rfl | hz
     ·exact ⟨hc.1,k9 hc.2⟩
     ·exact k1 z hz
    ·rw [Xm,k2];have:=hc.2
     unfold Lt.bZ at this;simp only [V7] at this;rw [(rP this.1).2]; rfl
  ·simp at h
theorem D6 (w:List UInt8):∀ (l:List (List UInt8)) (n m:Int),Lt.Cf w l n=(m,true)->∃ i:Nat,i<l.length/\m=n+(i:Int)/\l.getD i []=w
 | [],n,m,h=>by simp [Lt.Cf] at h
 | x::r,n,m,h=>by
  rw [Lt.Cf] at h;split at h
  ·rename_i hx;exact ⟨0,by simp,by simp at h; omega,by simpa using hx⟩
  ·obtain ⟨i,h1,h2,h3⟩:=D6 w r _ _ h;exact ⟨i+1,by simp; omega,by omega,by simpa using h3⟩
theorem PT {w:List UInt8} (h:(Lt.sOp w).2=true):(1<=(Lt.sOp w).1/\(Lt.sOp w).1<=34)/\(Lt.Of (Lt.sOp w).1).1.Word=w/\(Lt.Of (Lt.sOp w).1).2=true:=by
 have e:Lt.sOp w=((Lt.sOp w).1,true):=by rw [<- h]
 obtain ⟨i,h1,h2,h3⟩:=D6 w (gw.drop 1) 1 (Lt.sOp w).1 e;have hi:i < 34:=h1
 have ho:=I1 (Lt.sOp w).1
 have hr1:(Lt.rOf (Lt.sOp w).1).1.Word=gw.getD (Lt.sOp w).1.toNat default:=by
  unfold Lt.rOf; rw [if_neg (by omega)]
 have hr2:(Lt.rOf (Lt.sOp w).1).2=true:=by
  unfold Lt.rOf; rw [if_neg (by omega)]
 refine ⟨by omega,?_,?_⟩
 ·rw [<- ho.2.1,hr1,h2,<- h3,show (1+(i:Int)).toNat=1+i by omega,List.getD,List.getD,Wt]; rfl
 ·rw [<- ho.1,hr2]
end Go.Am
end

section
namespace Go.Am
open Go
end Go.Am
end

section
namespace Go.Am
open Go
theorem iQ {β:Type} (c:Bool) (x:β) (n:Int) (K:β->Prop) (KP:Value->Prop):exQ (if c=true then .ok x else .error (Lt.flt n)) K KP=if c=true then K x else KP (Lt.flt n):=by
 cases c <;> rfl
theorem LN (w:List UInt8) (KK:List UInt8->Prop) (KP:Value->Prop) (h:exQ (Lt.bP w) KK KP):Cg w KK KP:=by
 unfold Cg;unfold Lt.bP at h;rw [iQ] at h;cases hn:Lt.Name w <;> simpa [hn] using h
theorem MI (w:List UInt8) (KK:List UInt8->Prop) (KP:Value->Prop) (h:exQ (Lt.fa w) KK KP):BQ w KK KP:=by
 unfold BQ;unfold Lt.fa at h;rw [iQ] at h;simp only [ac,aV,ay,WE,V9,if_false];unfold Lt.iI at h;rw [cg] at h;cases hn:Lt.Name w <;> by_cases h1:w=[105,110,116] <;> by_cases h2:w=[102,108,111,97,116] <;> simpa [hn,h1,h2] using h
theorem N3 (l:List Int) (n:Int) (KK:Bool->Prop) (h:KK (Lt.fw l n)):IQ l n KK:=by
 unfold IQ;refine fun hl=>vn l hl (fun (_:Unit) i=>i) (fun t _=>t.contains n) KK _ (fun R _ i hi ih h=>?_) (fun R _ h=>?_) () h
 ·simp only [fj hi,if_true,Int.toNat_natCast];refine ⟨⟨We i,hi⟩,?_⟩;by_cases hc:l.getD i default=n
  ·rw [if_pos (by simpa using hc)];rw [Xp,hc] at h;simpa using h
  ·rw [if_neg (by simpa using hc)];refine ih () ?_;rw [Xp,show (n==l.getD i default)=false from beq_eq_false_iff_ne.2 (fun e=>hc e.symm),WY] at h;exact h
 ·simp only [gF,V9,if_false]; exact h
theorem Dg (w:List UInt8) (a b:Int) (KK:Int->Prop) (KP:Value->Prop) (h:exQ (Lt.kW w a b) KK KP):rY w a b KK KP:=by
 unfold rY;unfold Lt.kW at h;rw [iQ] at h;dsimp +instances only [Lt.dc]
 cases h1:(Lt.aD w).2 <;> by_cases h2:a<=(Lt.aD w).1 <;> by_cases h3:(Lt.aD w).1<=b <;> simpa [h1,h2,h3,ac,ay] using h
theorem N9 (w:List UInt8) (o:Bool) (KK:Lt.Arg->Prop) (KP:Value->Prop) (h:exQ (Lt.tX w o) KK KP):Gi w o KK KP:=by
 unfold Gi;unfold Lt.tX at h;rw [iQ] at h;unfold Lt.bZ at h;dsimp +instances only [Lt.kS]
 cases h1:(Lt.cM w).2 <;> cases o <;> by_cases h2:(Lt.cM w).1.Kind=5 <;> simpa [h1,h2,ac,ay] using h
theorem xP (s:List UInt8) (KK:Lt.Arg×Bool->Prop) (h:KK (Lt.fV s)):lK s KK:=by
 unfold lK;unfold Lt.fV at h;simp only [Lt.sT,Lt.dc]
 grind
end Go.Am
end

section
namespace Go.Am
open Go
section
variable {r:Lt.Reader} {w:Int} (K:Unit->Lt.Reader->Prop) (KP:Value->Lt.Reader->Prop)
theorem dY (c:Prop) [Decidable c] (x y:Int×Lt.Read):exP (Lt.fi r (if c then x else y) w) K KP=if c then exP (Lt.fi r x w) K KP else exP (Lt.fi r y w) K KP:=by split <;> rfl
theorem jY (x:Lt.Read):exP (Lt.fi r (3,x) w) K KP=KP (Lt.flt 3) r:=rfl
theorem Lg (x:Lt.Read):exP (Lt.fi r (2,x) w) K KP=KP (Lt.flt 2) r:=rfl
theorem F7 (x:Lt.Read):exP (Lt.fi r (0,x) w) K KP=K () ⟨x.P,r.at_,w,r.first,x.Long⟩:=rfl
theorem oW (c:Prop) [Decidable c] (x:Lt.Read):exP (Lt.fi r (if c then 2 else 0,x) w) K KP=if c then KP (Lt.flt 2) r else K () ⟨x.P,r.at_,w,r.first,x.Long⟩:=by split <;> rfl
end
theorem wH {r:Lt.Reader} (hw:0<=r.where_/\r.where_<=7):Lt.fw [0,1] r.where_=r.abs.out:=by
 unfold Lt.fw Lt.Read.out Lt.Reader.abs;dsimp only;by_cases h0:r.where_=0
 ·rw [if_pos h0]; by_cases hl:0<=r.long <;> simp [h0,hl]
 ·rw [if_neg h0];by_cases h1:r.where_=1
  ·simp [h1]
  ·rw [if_neg h1];have a:¬ r.where_+1<=2:=by omega
   have b:¬ r.where_+1=9:=by omega
   simp [a,b,h0,h1]
theorem cV (w:List UInt8) (K:List UInt8->Prop) (KP:Value->Prop):exQ (Lt.bP w) K KP=if Lt.az w=true then K w else KP (Lt.flt 3):=by
 unfold Lt.bP; rw [iQ,cg]
theorem lU (r:Lt.Reader):r.abs.P=r.p:=rfl
theorem VG (r:Lt.Reader):r.abs.Long=r.long:=rfl
theorem Jn (r:Lt.Reader) (l:List (List UInt8)) (hp:Lt.ap r l) (KK:Unit×Lt.Reader->Prop) (KP:Value->Lt.Reader->Prop) (h:exP (Lt.xx r l) (fun z x=>KK (z,x)) KP):vQ r l KK KP:=by
 obtain ⟨⟨hi,hw,_,_⟩,hne,hr⟩:=hp;unfold vQ;unfold Lt.xx at h;unfold Lt.eP at h;simp only [dY,jY,Lg,F7] at h;simp only [wH hw,cV,show l.getD 1 default=Lt.w1 l from rfl];generalize Lt.az (Lt.w1 l)=nm at h ⊢;generalize r.abs.out=o at h ⊢;cases o with
 | false=>simpa using h
 | true=>
  refine ifk (fun hc=>by simp at hc) (fun _=>fun _=>?_);by_cases h2:l.length=2
  ·refine ifk (fun hc=>by simp [h2] at hc) (fun _=>⟨⟨by decide,by omega⟩,trivial,?_⟩);cases nm with
   | false=>simpa using h
   | true=>
    rw [if_neg (by simp [h2])] at h;simp only [if_true,ac,aj,and_self];refine fun _=>ifk (fun hc=>?_) (fun hc=>?_)
    ·rw [if_pos (show 8<=r.abs.P.Classes.length by rw [lU]; simp only [decide_eq_true_eq] at hc; omega)] at h; exact h
    ·rw [if_neg (show ¬ 8<=r.abs.P.Classes.length by rw [lU]; simp only [decide_eq_true_eq] at hc; omega)] at h;have h8:r.p.Classes.length < 8:=by simp only [decide_eq_true_eq] at hc; omega
     rw [Wf];exact ⟨⟨by omega,by omega⟩,h⟩
  ·rw [if_pos (by simp [h2])] at h;exact ifk (fun _=>h) (fun hc=>by simp at hc; omega)
theorem mH (w:List UInt8) (K:List UInt8->Prop) (KP:Value->Prop):exQ (Lt.fa w) K KP=if Lt.iI w=true then K w else KP (Lt.flt 3):=by
 unfold Lt.fa; rw [iQ]
theorem Fm (r:Lt.Reader) (l:List (List UInt8)) (hp:Lt.ap r l) (KK:Unit×Lt.Reader->Prop) (KP:Value->Lt.Reader->Prop) (h:exP (Lt.p6 r l) (fun z x=>KK (z,x)) KP):sn r l KK KP:=by
 obtain ⟨⟨hi,hw,_,_⟩,hne,hr⟩:=hp;have h8:=hi.1
 unfold sn;unfold Lt.p6 Lt.dB Lt.bM at h;simp only [dY,jY,oW] at h;dsimp only;simp only [wH hw,cV,mH,show l.getD 1 default=Lt.w1 l from rfl,show l.getD 2 default=Lt.w2 l from rfl,show l.getD 1 []=Lt.w1 l from rfl,show l.getD 2 []=Lt.w2 l from rfl,ac,aj,aq,aV,ay,and_self,true_and] at h ⊢;generalize Lt.az (Lt.w1 l)=nm at h ⊢;generalize Lt.iI (Lt.w2 l)=kd at h ⊢;generalize r.abs.out=o at h ⊢;cases o with
 | false=>simpa using h
 | true=>
  refine ifk (fun hc=>by simp at hc) (fun _=>fun _=>?_);by_cases h3:l.length=3
  ·refine ifk (fun hc=>by simp [h3] at hc) (fun _=>⟨⟨by decide,by omega⟩,⟨by decide,by omega⟩,?_⟩);cases nm with
   | false=>simpa using h
   | true=>
    cases kd with
    | false=>simpa [h3] using h
    | true=>
     rw [if_neg (by simp [h3])] at h;simp only [if_true];refine fun _=>ifk (fun hc=>?_) (fun hc=>?_)
     ·rw [if_pos (show 8<=r.abs.P.Globals.length by rw [lU]; simp only [decide_eq_true_eq] at hc; omega)] at h; exact h
     ·rw [if_neg (show ¬ 8<=r.abs.P.Globals.length by rw [lU]; simp only [decide_eq_true_eq] at hc; omega)] at h;have h9:r.p.Globals.length < 8:=by simp only [decide_eq_true_eq] at hc; omega
      rw [Wf];exact ⟨⟨by omega,by omega⟩,h⟩
  ·rw [if_pos (by simp [h3])] at h;exact ifk (fun _=>h) (fun hc=>by simp at hc; omega)
theorem yl (r:Lt.Reader) (l:List (List UInt8)) (hp:Lt.ap r l) (KK:Unit×Lt.Reader->Prop) (KP:Value->Lt.Reader->Prop) (h:exP (Lt.km r l) (fun z x=>KK (z,x)) KP):m6 r l KK KP:=by
 obtain ⟨⟨hi,hw,_,_⟩,hne,hr⟩:=hp;have h8:=hi.1
 unfold m6;unfold Lt.km Lt.iN Lt.bM at h;simp only [dY,jY,oW] at h;dsimp only;simp only [wH hw,cV,mH,show l.getD 1 default=Lt.w1 l from rfl,show l.getD 2 default=Lt.w2 l from rfl,show l.getD 1 []=Lt.w1 l from rfl,show l.getD 2 []=Lt.w2 l from rfl,ac,aj,aq,aV,ay,and_self,true_and] at h ⊢;generalize Lt.az (Lt.w1 l)=nm at h ⊢;generalize Lt.iI (Lt.w2 l)=kd at h ⊢;generalize r.abs.out=o at h ⊢;cases o with
 | false=>simpa using h
 | true=>
  refine ifk (fun hc=>by simp at hc) (fun _=>fun _=>?_);by_cases h3:l.length=3
  ·refine ifk (fun hc=>by simp [h3] at hc) (fun _=>⟨⟨by decide,by omega⟩,⟨by decide,by omega⟩,?_⟩);cases nm with
   | false=>simpa using h
   | true=>
    cases kd with
    | false=>simpa [h3] using h
    | true=>
     rw [if_neg (by simp [h3])] at h;simp only [if_true];refine fun _=>ifk (fun hc=>?_) (fun hc=>?_)
     ·rw [if_pos (show 8<=r.abs.P.Funcs.length by rw [lU]; simp only [decide_eq_true_eq] at hc; omega)] at h; exact h
     ·rw [if_neg (show ¬ 8<=r.abs.P.Funcs.length by rw [lU]; simp only [decide_eq_true_eq] at hc; omega)] at h;have h9:r.p.Funcs.length < 8:=by simp only [decide_eq_true_eq] at hc; omega
      rw [Wf];exact ⟨⟨by omega,by omega⟩,h⟩
  ·rw [if_pos (by simp [h3])] at h;exact ifk (fun _=>h) (fun hc=>by simp at hc; omega)
theorem wG (w:List UInt8) (a b:Int) (K:Int->Prop) (KP:Value->Prop):exQ (Lt.kW w a b) K KP=if ((Lt.aD w).2&&decide (a<=(Lt.aD w).1)&&decide ((Lt.aD w).1<=b))=true then K (Lt.aD w).1 else KP (Lt.flt 3):=by
 unfold Lt.kW; rw [iQ,Bool.and_assoc]
theorem Eu (r:Lt.Reader) (l:List (List UInt8)) (hp:Lt.ap r l) (KK:Unit×Lt.Reader->Prop) (KP:Value->Lt.Reader->Prop) (h:exP (Lt.q7 r l) (fun z x=>KK (z,x)) KP):sm r l KK KP:=by
 obtain ⟨⟨hi,hw,_,_⟩,hne,hr⟩:=hp;unfold sm;unfold Lt.q7 Lt.dg at h;simp only [dY,jY,oW] at h;dsimp only;simp only [wH hw,cV,wG,show l.getD 1 default=Lt.w1 l from rfl,show l.getD 2 default=Lt.w2 l from rfl,ac,aj,aq,aV,ay,and_self,true_and] at h ⊢;generalize Lt.az (Lt.w1 l)=nm at h ⊢;generalize ((Lt.aD (Lt.w2 l)).2&&decide (0<=(Lt.aD (Lt.w2 l)).1)&&decide ((Lt.aD (Lt.w2 l)).1<=8))=kd at h ⊢;generalize r.abs.out=o at h ⊢;cases o with
 | false=>simpa using h
 | true=>
  refine ifk (fun hc=>by simp at hc) (fun _=>fun _=>?_);by_cases h3:l.length=3
  ·refine ifk (fun hc=>by simp [h3] at hc) (fun _=>⟨⟨by decide,by omega⟩,⟨by decide,by omega⟩,?_⟩);cases nm with
   | false=>simpa using h
   | true=>
    cases kd with
    | false=>simpa [h3] using h
    | true=>
     rw [if_neg (by simp [h3])] at h;simp only [if_true];refine fun _=>ifk (fun hc=>?_) (fun hc=>?_)
     ·rw [if_pos (show 8<=r.abs.P.Externs.length by rw [lU]; simp only [decide_eq_true_eq] at hc; omega)] at h; exact h
     ·rw [if_neg (show ¬ 8<=r.abs.P.Externs.length by rw [lU]; simp only [decide_eq_true_eq] at hc; omega)] at h;have h9:r.p.Externs.length < 8:=by simp only [decide_eq_true_eq] at hc; omega
      rw [Wf];exact ⟨⟨by omega,by omega⟩,h⟩
  ·rw [if_pos (by simp [h3])] at h;exact ifk (fun _=>h) (fun hc=>by simp at hc; omega)
theorem P6 (r:Lt.Reader) (l:List (List UInt8)) (hp:Lt.ap r l) (KK:Unit×Lt.Reader->Prop) (KP:Value->Lt.Reader->Prop) (h:exP (Lt.Qn r l) (fun z x=>KK (z,x)) KP):GN r l KK KP:=by
 unfold GN;unfold Lt.Qn at h;simp only [dY,jY,F7] at h;simp only [ac,aj,aq,aV,ay];generalize r.first=f at h ⊢;cases f with
 | false=>simpa using h
 | true=>
  by_cases h1:l.length=1
  ·simpa [h1,VG] using h
  ·rw [if_pos (by simp [h1])] at h;rw [if_pos rfl];exact ifk (fun _=>h) (fun hc=>by simp at hc; omega)
end Go.Am
end

section
namespace Go.Am
open Go
theorem wB {r:Lt.Reader} (hw:0<=r.where_/\r.where_<=7) {n:Int} (h2:2<=n) (h7:n<=7):Lt.fw [n] r.where_=decide (r.abs.Where=n+1):=by
 unfold Lt.fw Lt.Reader.abs;dsimp only;rw [Xi];simp only [Xp,XN,Xg,beq_iff_eq,decide_eq_true_eq];by_cases h0:r.where_=0
 ·rw [if_pos h0]; split <;> omega
 ·rw [if_neg h0]; split <;> omega
theorem Iz (r:Lt.Reader) (l:List (List UInt8)) (hp:Lt.ap r l) (KK:Unit×Lt.Reader->Prop) (KP:Value->Lt.Reader->Prop) (h:exP (Lt.vO r l) (fun z x=>KK (z,x)) KP):xh r l KK KP:=by
 obtain ⟨⟨hi,hw,_,_⟩,hne,hr⟩:=hp;unfold xh;unfold Lt.vO Lt.eQ Lt.bM at h;simp only [dY,jY,oW] at h;dsimp only;simp only [wB hw (n:=2) (by decide) (by decide),cV,mH,show l.getD 1 default=Lt.w1 l from rfl,show l.getD 2 default=Lt.w2 l from rfl,show l.getD 1 []=Lt.w1 l from rfl,show l.getD 2 []=Lt.w2 l from rfl,ac,aj,aq,aV,ay,and_self,true_and] at h ⊢;generalize Lt.az (Lt.w1 l)=nm at h ⊢;generalize Lt.iI (Lt.w2 l)=kd at h ⊢;by_cases hwh:r.abs.Where=3
 ·obtain ⟨hf,_,hp6,_⟩:=cw hi (by omega);have hf:r.p.Funcs≠[]:=hf
  have hf8:r.p.Funcs.length<=5000:=by have:r.p.Funcs.length<=8:=hi.2.1.2.2; omega
  have hp6:(r.p.Funcs.getD (r.p.Funcs.length - 1) default).Params.length<=6:=hp6
  simp only [aK hf hf8,bu hf,bv hf,Int.toNat_natCast,true_and,and_self];refine ifk (fun hc=>by simp [hwh] at hc) (fun _=>fun _=>?_);by_cases h3:l.length=3
  ·refine ifk (fun hc=>by simp [h3] at hc) (fun _=>⟨⟨by decide,by omega⟩,⟨by decide,by omega⟩,?_⟩);cases nm with
   | false=>simpa [hwh] using h
   | true=>
    cases kd with
    | false=>simpa [h3,hwh] using h
    | true=>
     rw [if_neg (by simp [h3,hwh])] at h;simp only [if_true];refine fun _=>fun _=>ifk (fun hc=>?_) (fun hc=>?_)
     ·rw [if_pos (show 6<=r.abs.curF.Params.length from (show 6<=(r.p.Funcs.getD (r.p.Funcs.length - 1) default).Params.length by simp only [decide_eq_true_eq] at hc; omega))] at h; exact h
     ·rw [if_neg (show ¬ 6<=r.abs.curF.Params.length from (show ¬ 6<=(r.p.Funcs.getD (r.p.Funcs.length - 1) default).Params.length by simp only [decide_eq_true_eq] at hc; omega))] at h;rw [Wf];exact ⟨⟨by omega,by omega⟩,h⟩
  ·rw [if_pos (by simp [h3])] at h;exact ifk (fun _=>h) (fun hc=>by simp at hc; omega)
 ·rw [if_pos (by simp [hwh])] at h;exact ifk (fun _=>h) (fun hc=>by simp [hwh] at hc)
theorem Uu {r:Lt.Reader} (hw:0<=r.where_/\r.where_<=7):Lt.fw [2,3] r.where_=(decide (r.abs.Where=3)||decide (r.abs.Where=4)):=by
 have a:=wB hw (n:=2) (by decide) (by decide)
 have b:=wB hw (n:=3) (by decide) (by decide)
 unfold Lt.fw at a b ⊢;rw [show decide (r.abs.Where=3)=decide (r.abs.Where=2+1) from rfl,show decide (r.abs.Where=4)=decide (r.abs.Where=3+1) from rfl,<- a,<- b];simp only [Xp,XN,Xg]
theorem Vo {r:Lt.Reader} (hw:0<=r.where_/\r.where_<=7):Lt.fw [1] r.where_=decide (r.abs.Where=1):=by
 unfold Lt.fw Lt.Reader.abs;dsimp only;rw [Xi];simp only [Xp,XN,Xg,beq_iff_eq,decide_eq_true_eq];by_cases h0:r.where_=0
 ·rw [if_pos h0]; split <;> omega
 ·rw [if_neg h0]; split <;> omega
theorem IP (r:Lt.Reader) (l:List (List UInt8)) (hp:Lt.ap r l) (KK:Unit×Lt.Reader->Prop) (KP:Value->Lt.Reader->Prop) (h:exP (Lt.vG r l) (fun z x=>KK (z,x)) KP):xA r l KK KP:=by
 obtain ⟨⟨hi,hw,_,_⟩,hne,hr⟩:=hp;unfold xA;unfold Lt.vG Lt.fD Lt.bM at h;simp only [dY,jY,Lg,F7] at h;dsimp only;simp only [Vo hw,cV,mH,show l.getD 1 default=Lt.w1 l from rfl,show l.getD 2 default=Lt.w2 l from rfl,show l.getD 1 []=Lt.w1 l from rfl,show l.getD 2 []=Lt.w2 l from rfl,ac,aj,aq,aV,ay,and_self,true_and] at h ⊢;generalize Lt.az (Lt.w1 l)=nm at h ⊢;generalize Lt.iI (Lt.w2 l)=kd at h ⊢;by_cases hwh:r.abs.Where=1
 ·have hf:r.abs.P.Classes≠[]:=hi.2.2.2.1 hwh
  have hf:r.p.Classes≠[]:=hf
  have hf8:r.p.Classes.length<=5000:=by have:r.p.Classes.length<=8:=hi.2.1.1; omega
  simp only [aK hf hf8,bu hf,bv hf,Int.toNat_natCast,true_and,and_self];refine ifk (fun hc=>by simp [hwh] at hc) (fun _=>fun _=>?_);by_cases h3:l.length=3
  ·refine ifk (fun hc=>by simp [h3] at hc) (fun _=>⟨⟨by decide,by omega⟩,⟨by decide,by omega⟩,?_⟩);cases nm with
   | false=>simpa [hwh] using h
   | true=>
    cases kd with
    | false=>simpa [h3,hwh] using h
    | true=>
     rw [if_neg (by simp [h3,hwh])] at h;simp only [if_true];refine fun _=>fun _=>ifk (fun hc=>?_) (fun hc=>?_)
     ·rw [if_pos (show 8<=(r.abs.P.Classes.getD (r.abs.P.Classes.length - 1) default).Fields.length from (show 8<=(r.p.Classes.getD (r.p.Classes.length - 1) default).Fields.length by simp only [decide_eq_true_eq] at hc; omega))] at h; exact h
     ·rw [if_neg (show ¬ 8<=(r.abs.P.Classes.getD (r.abs.P.Classes.length - 1) default).Fields.length from (show ¬ 8<=(r.p.Classes.getD (r.p.Classes.length - 1) default).Fields.length by simp only [decide_eq_true_eq] at hc; omega))] at h;have h9:(r.p.Classes.getD (r.p.Classes.length - 1) default).Fields.length < 8:=by simp only [decide_eq_true_eq] at hc; omega
      rw [Wf];exact ⟨⟨by omega,by omega⟩,h⟩
  ·rw [if_pos (by simp [h3])] at h;exact ifk (fun _=>h) (fun hc=>by simp at hc; omega)
 ·rw [if_pos (by simp [hwh])] at h;exact ifk (fun _=>h) (fun hc=>by simp [hwh] at hc)
theorem yB (r:Lt.Reader) (l:List (List UInt8)) (hp:Lt.ap r l) (KK:Unit×Lt.Reader->Prop) (KP:Value->Lt.Reader->Prop) (h:exP (Lt.jZ r l) (fun z x=>KK (z,x)) KP):mi r l KK KP:=by
 obtain ⟨⟨hi,hw,_,_⟩,hne,hr⟩:=hp;unfold mi;unfold Lt.jZ Lt.lu Lt.bM at h;simp only [dY,jY,oW] at h;dsimp only;simp only [Uu hw,cV,mH,show l.getD 1 default=Lt.w1 l from rfl,show l.getD 2 default=Lt.w2 l from rfl,show l.getD 1 []=Lt.w1 l from rfl,show l.getD 2 []=Lt.w2 l from rfl,ac,aj,aq,aV,ay,and_self,true_and] at h ⊢;generalize Lt.az (Lt.w1 l)=nm at h ⊢;generalize Lt.iI (Lt.w2 l)=kd at h ⊢;by_cases hwh:(r.abs.Where=3\/r.abs.Where=4)
 ·have hb:(decide (r.abs.Where=3)||decide (r.abs.Where=4))=true:=by simpa using hwh
  obtain ⟨hf,_,_,hp6,_⟩:=cw hi (by omega);have hf:r.p.Funcs≠[]:=hf
  have hf8:r.p.Funcs.length<=5000:=by have:r.p.Funcs.length<=8:=hi.2.1.2.2; omega
  have hp6:(r.p.Funcs.getD (r.p.Funcs.length - 1) default).Vars.length<=1024:=hp6
  simp only [aK hf hf8,bu hf,bv hf,Int.toNat_natCast,true_and,and_self];refine ifk (fun hc=>by rw [hb] at hc; simp at hc) (fun _=>fun _=>?_);by_cases h3:l.length=3
  ·refine ifk (fun hc=>by simp [h3] at hc) (fun _=>⟨⟨by decide,by omega⟩,⟨by decide,by omega⟩,?_⟩);cases nm with
   | false=>simpa [hb] using h
   | true=>
    cases kd with
    | false=>simpa [h3,hb] using h
    | true=>
     rw [if_neg (by simp [h3,hb])] at h;simp only [if_true];refine fun _=>fun _=>ifk (fun hc=>?_) (fun hc=>?_)
     ·rw [if_pos (show 1024<=r.abs.curF.Vars.length from (show 1024<=(r.p.Funcs.getD (r.p.Funcs.length - 1) default).Vars.length by simp only [decide_eq_true_eq] at hc; omega))] at h; exact h
     ·rw [if_neg (show ¬ 1024<=r.abs.curF.Vars.length from (show ¬ 1024<=(r.p.Funcs.getD (r.p.Funcs.length - 1) default).Vars.length by simp only [decide_eq_true_eq] at hc; omega))] at h;rw [Wf];exact ⟨⟨by omega,by omega⟩,h⟩
  ·rw [if_pos (by simp [h3])] at h;exact ifk (fun _=>h) (fun hc=>by simp at hc; omega)
 ·have hb:(decide (r.abs.Where=3)||decide (r.abs.Where=4))=false:=by simpa using hwh
  rw [if_pos (by simp [hb])] at h;exact ifk (fun _=>h) (fun hc=>by rw [hb] at hc; simp at hc)
end Go.Am
end

section
namespace Go.Am
open Go
theorem I7 {P2 P3 P0 PL n:Bool} {KPv:Prop} {B:Unit->Prop} (hb:(P2||P3||(P0&&PL))=true) (hn:n=true) (h:B ()) :
  aa (fun J1:Unit->Prop=>if P2=true then (if (!true)=true then KPv else J1 ()) else (if P3=true then (if (!true)=true then KPv else J1 ()) else (if P0=true then (if PL=true then (if (!n)=true then KPv else J1 ()) else (if (!false)=true then KPv else J1 ())) else (if (!false)=true then KPv else J1 ())))) B:=by
 intro J hJ;have:=hJ () h
 cases P2 <;> cases P3 <;> cases P0 <;> cases PL <;> simp_all
theorem GV (r:Lt.Reader) (l:List (List UInt8)) (hp:Lt.ap r l) (KK:Unit×Lt.Reader->Prop) (KP:Value->Lt.Reader->Prop) (h:exP (Lt.xG r l) (fun z x=>KK (z,x)) KP):xS r l KK KP:=by
 obtain ⟨⟨hi,hw,_,_⟩,hne,hr⟩:=hp;unfold xS;unfold Lt.xG Lt.dS at h;simp only [dY,jY,oW] at h;dsimp only;simp only [cV,show l.getD 1 default=Lt.w1 l from rfl] at h ⊢;generalize Lt.az (Lt.w1 l)=nm at h ⊢;have hcase:(decide (r.abs.Where=3)||decide (r.abs.Where=4)||decide (r.abs.Where=9))=(decide (r.where_=2)||decide (r.where_=3)||(decide (r.where_=0)&&decide (0<=r.long))):=by
  unfold Lt.Reader.abs;dsimp only;rw [Xi];simp only [Wq,V7,decide_eq_true_eq];by_cases h0:r.where_=0
  ·rw [if_pos h0]; split <;> omega
  ·rw [if_neg h0]; split <;> omega
 by_cases hB:(decide (r.abs.Where=3)||decide (r.abs.Where=4)||decide (r.abs.Where=9))=true
 ·have hwh:r.abs.Where=3\/r.abs.Where=4\/r.abs.Where=9:=by simpa [or_assoc] using hB
  obtain ⟨hf,_,_,_,hp6⟩:=cw hi (by omega);have hf:r.p.Funcs≠[]:=hf
  have hf8:r.p.Funcs.length<=5000:=by have:r.p.Funcs.length<=8:=hi.2.1.2.2; omega
  have hp6:(r.p.Funcs.getD (r.p.Funcs.length - 1) default).Blocks.length<=256:=hp6
  have hpos:0<r.p.Funcs.length:=WK.2 hf
  simp only [hB,Wv] at h;rw [hcase] at hB;simp only [aK hf hf8,bu hf,bv hf,Int.toNat_natCast,true_and,and_self];refine I7 hB (by simp; omega) (fun _=>?_);by_cases h2:l.length=2
  ·refine ifk (fun hc=>by simp [h2] at hc) (fun _=>⟨⟨by decide,by omega⟩,?_⟩);cases nm with
   | false=>simpa using h
   | true=>
    rw [if_neg (by simp [h2])] at h;simp only [if_true,ac,aj,and_self];refine fun _=>fun _=>ifk (fun hc=>?_) (fun hc=>?_)
    ·rw [if_pos (show 256<=r.abs.curF.Blocks.length from (show 256<=(r.p.Funcs.getD (r.p.Funcs.length - 1) default).Blocks.length by simp only [decide_eq_true_eq] at hc; omega))] at h; exact h
    ·rw [if_neg (show ¬ 256<=r.abs.curF.Blocks.length from (show ¬ 256<=(r.p.Funcs.getD (r.p.Funcs.length - 1) default).Blocks.length by simp only [decide_eq_true_eq] at hc; omega))] at h;rw [Wf];exact ⟨⟨by omega,by omega⟩,h⟩
  ·rw [if_pos (by simp [h2])] at h;exact ifk (fun _=>h) (fun hc=>by simp at hc; omega)
 ·have hB:(decide (r.abs.Where=3)||decide (r.abs.Where=4)||decide (r.abs.Where=9))=false:=by simpa using hB
  rw [hB] at h;rw [hcase] at hB;simp only [Xq,Xx,decide_eq_false_iff_not] at hB;obtain ⟨⟨b2,b3⟩,b0⟩:=hB;have h':KP (Lt.flt 3) r:=by simpa using h
  simp only [b2,b3,decide_false,V9,if_false];rcases b0 with b0 | b0
  ·simpa [b0,ay] using h'
  ·simp only [aV,ay,b0,decide_false,V9,if_false,Xf,if_true];split <;> exact h'
end Go.Am
end

section
namespace Go.Am
open Go
theorem R6:∀ k:Fin 35,1<=k.1->(Lt.Of (k.1:Int)).1.Word=gw.getD k.1 default:=by decide +kernel
theorem Ru (w:List UInt8) (KK:Int×Bool->Prop) (h:KK (Lt.yOp w)):NZ w KK:=by
 unfold NZ;unfold Lt.yOp Lt.sOp at h;have hg:gw.length=35:=rfl
 have key:∀ k i,1<=i->i+k=35->KK (Lt.Cf w (gw.drop i) (i:Int))->lR (fun (R1:Int->Prop) v2=>if (decide (v2<=34))=true then (if (decide (((Lt.Of v2).1).Word=w))=true then (KK (v2,true)) else (R1 (IntKind.i64.wrap (v2+1)))) else (KK (0,false))) (k+1) (i:Int):=by
  intro k;induction k with
  | zero=>
   intro i h1 hi h;have e:i=35:=by omega
   subst e;exact h
  | succ k ih=>
   intro i h1 hi h;have hlt:i<gw.length:=by omega
   rw [Wm hlt] at h;have e:gw.getD i default=gw[i]:=by rw [List.getD,V8 hlt]; rfl
   rw [<- e] at h;show (if (decide ((i:Int)<=34))=true then _ else _)
   rw [if_pos (by simp; omega)];simp only [Lt.Cf] at h;have hw:=R6 ⟨i,by omega⟩ h1
   refine ifk (fun hc=>?_) (fun hc=>?_)
   ·rw [if_pos (by rw [<- hw]; simpa using hc)] at h; exact h
   ·rw [if_neg (by rw [<- hw]; simpa using hc)] at h;rw [aQ (by omega)];exact ih (i+1) (by omega) (by omega) (by simpa using h)
 exact ⟨35,key 34 1 (Wb 1) rfl h⟩
theorem Mz (l:List (List UInt8)) (objs:Bool) (hp:Lt.bU l objs) (KK:List Lt.Arg->Prop) (KP:Value->Prop) (h:exQ (Lt.mV l objs) KK KP):A3 l objs KK KP:=by
 have hp:l.length<=1099511627776:=hp
 unfold A3;unfold Lt.mV Lt.aT at h;rw [iQ] at h;refine fun hl=>bJ _ l.length (fun i x=>x=((l.take i).map (fun w=>(Lt.cM w).1),(i:Int))/\(l.take i).all (Lt.bZ objs)=true) (fun R i x hi hx ih=>?_) (fun R x hx=>?_) _ ⟨rfl,rfl⟩
 ·obtain ⟨rfl,ha⟩:=hx;dsimp only;rw [if_pos (fj hi)];simp only [Int.toNat_natCast];refine ⟨⟨We i,hi⟩,trivial,?_⟩;unfold Lt.tX;rw [iQ];refine ifk (fun hc=>?_) (fun hc=>?_)
  ·refine ⟨?_,ih _ ⟨?_,?_⟩⟩
   ·rw [Wc,Xc,Wf]; omega
   ·rw [dZ l hi,Xb,aQ (by omega)]; rfl
   ·rw [dZ l hi,WU,ha,Wl,hc]; rfl
  ·have:l.all (Lt.bZ objs)=false:=by
    rw [Wn];intro hall;exact hc (Wj.1 hall _ (iH l hi))
   simpa [this] using h
 ·obtain ⟨rfl,ha⟩:=hx;rw [XQ] at ha;dsimp only;rw [if_neg (by simp),XQ];simpa [ha] using h
end Go.Am
end

section
namespace Go.Am
open Go
theorem uN (w:List UInt8) (o:Bool) (K:Lt.Arg->Prop) (KP:Value->Prop):exQ (Lt.tX w o) K KP=if Lt.bZ o w=true then K (Lt.cM w).1 else KP (Lt.flt 3):=by
 unfold Lt.tX; rw [iQ]
theorem FY (l:List (List UInt8)) (o:Bool) (K:List Lt.Arg->Prop) (KP:Value->Prop):exQ (Lt.mV l o) K KP=if (Lt.aT l o).2=true then K (Lt.aT l o).1 else KP (Lt.flt 3):=by
 unfold Lt.mV; rw [iQ]
theorem Pb {r:Lt.Reader} (hw:0<=r.where_/\r.where_<=7):Lt.fw [4,5,6,7] r.where_=r.abs.ins:=by
 unfold Lt.fw Lt.Reader.abs Lt.Read.ins;dsimp only;rw [Xi];simp only [Xp,XN,Xg,Wq,V7,beq_iff_eq,decide_eq_true_eq];by_cases h0:r.where_=0
 ·rw [if_pos h0]; split <;> omega
 ·rw [if_neg h0]; split <;> omega
theorem TX {r:Lt.Reader} (hw:0<=r.where_/\r.where_<=7):Lt.fw [6,7] r.where_=(decide (7<=r.abs.Where)&&r.abs.ins):=by
 unfold Lt.fw Lt.Reader.abs Lt.Read.ins;dsimp only;rw [Xi];simp only [Xp,XN,Xg,Wq,V7,beq_iff_eq,decide_eq_true_eq];by_cases h0:r.where_=0
 ·rw [if_pos h0]; split <;> omega
 ·rw [if_neg h0]; split <;> omega
theorem Pg (n:Nat):decide (Int.tmod (n:Int) 2=0)=decide (n % 2=0):=by
 rw [show Int.tmod (n:Int) 2=((n % 2:Nat):Int) by rw [Int.tmod_eq_emod_of_nonneg (by omega)]; rfl];exact decide_eq_decide.2 (by omega)
theorem Ib {σ:Type} (l:List (List UInt8)) (objs:Bool) (st:List Lt.Bind->σ) (body:(Int×σ->Prop)->Int×σ->Prop) (E:Prop) (fin:List Lt.Bind->Prop)
  (hs:∀ R i acc,i+1<l.length->acc.length<=i->(if Lt.az (l.getD i default)=true then (if Lt.bZ objs (l.getD (i+1) default)=true then R (((i+2:Nat):Int),st (acc++[⟨l.getD i default,(Lt.cM (l.getD (i+1) default)).1⟩])) else E) else E)->body R ((i:Int),st acc))
  (he:∀ R acc,acc.length<=l.length->fin acc->body R ((l.length:Int),st acc)) :
  ∀ n i acc,l.length=i+2*n->acc.length<=i->(match Lt.bk objs (l.drop i) with | some x=>fin (acc++x) | none=>E)->lR body (n+1) ((i:Int),st acc):=by
 intro n;induction n with
 | zero=>
  intro i acc hi ha h;have e:i=l.length:=by omega
  subst e;rw [Xd] at h;exact he _ acc ha (by simpa [Lt.bk] using h)
 | succ n ih=>
  intro i acc hi ha h;have h3:i+1<l.length:=by omega
  have h4:i<l.length:=by omega
  have hd:l.drop i=l.getD i default::l.getD (i+1) default::l.drop (i+2):=by
   rw [Wm h4,Wm h3];rw [List.getD,List.getD,V8 h4,V8 h3]; rfl
  rw [hd,Lt.bk] at h;refine hs _ i acc h3 ha ?_;refine ifk (fun c1=>ifk (fun c2=>?_) (fun c2=>?_)) (fun c1=>?_)
  ·rw [if_pos (by rw [c1,c2]; rfl)] at h;refine ih (i+2) _ (by omega) (by simp only [WA,Wf]; omega) ?_;cases hp:Lt.bk objs (l.drop (i+2)) with
   | none=>rw [hp] at h; exact h
   | some x=>rw [hp] at h; simpa using h
  ·rw [if_neg (by rw [Wn.2 c2]; simp)] at h; exact h
  ·rw [if_neg (by rw [Wn.2 c1]; simp)] at h; exact h
theorem Nj {l:List (List UInt8)} {f:Nat} {objs:Bool} (hf:f<=l.length) {E:Prop} {fin:List Lt.Bind->Prop}
  (h1:(Lt.al l (f:Int) objs).2=false->E) (h2:(Lt.al l (f:Int) objs).2=true->fin (Lt.al l (f:Int) objs).1) :
  match Lt.bk objs (l.drop f) with | some x=>fin ([]++x) | none=>E:=by
 unfold Lt.al at h1 h2;rw [if_neg (by omega),Int.toNat_natCast] at h1 h2;cases hp:Lt.bk objs (l.drop f) with
 | none=>rw [hp] at h1; exact h1 rfl
 | some x=>rw [hp] at h2; exact h2 rfl
theorem Ah {σ:Type} (l:List (List UInt8)) (f:Nat) (objs:Bool) (st:List Lt.Bind->σ) (body:(Int×σ->Prop)->Int×σ->Prop) (E:Prop) (fin:List Lt.Bind->Prop)
  (hs:∀ R i acc,i+1<l.length->acc.length<=i->(if Lt.az (l.getD i default)=true then (if Lt.bZ objs (l.getD (i+1) default)=true then R (((i+2:Nat):Int),st (acc++[⟨l.getD i default,(Lt.cM (l.getD (i+1) default)).1⟩])) else E) else E)->body R ((i:Int),st acc))
  (he:∀ R acc,acc.length<=l.length->fin acc->body R ((l.length:Int),st acc)) (n:Nat) (hn:l.length=f+2*n)
  (h1:(Lt.al l (f:Int) objs).2=false->E) (h2:(Lt.al l (f:Int) objs).2=true->fin (Lt.al l (f:Int) objs).1):ba body ((f:Int),st []):=
 ⟨_,Ib l objs st body E fin hs he n f [] hn (WP _) (Nj (by omega) h1 h2)⟩
theorem NL (r:Lt.Reader) (l:List (List UInt8)) (hp:Lt.ap r l) (KK:Unit×Lt.Reader->Prop) (KP:Value->Lt.Reader->Prop) (h:exP (Lt.NB r l) (fun z x=>KK (z,x)) KP):Jg r l KK KP:=by
 obtain ⟨⟨hi,hw,hlg,_⟩,hne,hr⟩:=hp;have hr:l.length<=1099511627776:=hr
 unfold Jg;unfold Lt.NB Lt.l5 at h;simp only [dY,jY,Lg,F7] at h;dsimp only;simp only [wB hw (n:=4) (by decide) (by decide),cV,uN,Pg,ac,aj,aq,aV,ay,and_self,true_and];by_cases hwh:r.abs.Where=5
 ·obtain ⟨hf,_,_,_,hb6⟩:=cw hi (by omega);obtain ⟨hbn,hph,_⟩:=eV hi (by omega);have hf:r.p.Funcs≠[]:=hf
  have hf8:r.p.Funcs.length<=5000:=by have:r.p.Funcs.length<=8:=hi.2.1.2.2; omega
  have hb5:r.abs.curF.Blocks.length<=5000:=by omega
  have ef:r.p.Funcs.getD (r.p.Funcs.length - 1) default=r.abs.curF:=rfl
  have eb:r.abs.curF.Blocks.getD (r.abs.curF.Blocks.length - 1) default=r.abs.curB:=rfl
  have wl:IntKind.i64.wrap (r.long+1)=r.long+1:=wrap_i64 (by omega) (by omega)
  simp only [aK hf hf8,bu hf,bv hf,Int.toNat_natCast,ef,aK hbn hb5,bv hbn,bu hbn,eb,true_and,and_self,Wf,eB (show r.abs.curB.Phis.length<=5000 by omega) (show 40<=200 by omega),wl,show l.getD 1 default=Lt.w1 l from rfl];refine ifk (fun hc=>by simp [hwh] at hc) (fun _=>fun _=>?_);by_cases h4:4<=l.length/\l.length % 2=0
  ·obtain ⟨n,hn⟩:∃ n,l.length=2+2*(n+1):=⟨l.length / 2 - 2,by omega⟩
   rw [if_pos (by simp; omega)];refine ⟨by decide,ifk (fun hc=>by simp at hc; omega) (fun _=>⟨⟨by decide,by omega⟩,?_⟩)⟩;cases hnm:Lt.az (Lt.w1 l) with
   | false=>rw [if_pos (by rw [hnm]; simp)] at h; simpa using h
   | true=>
    rw [if_pos rfl];refine Ah l 2 false (fun acc=>(⟨Lt.w1 l,acc.map fun x=>⟨x.Name,x.A⟩⟩:Lt.Phi)) _ (KP (Lt.flt 3) r) (fun x=>if 256<x.length\/1024<=r.long then KP (Lt.flt 2) r else KK ((),⟨(r.abs.block (fun b=>{ b with Phis:=b.Phis++[⟨Lt.w1 l,x.map fun x=>⟨x.Name,x.A⟩⟩] })).P,r.at_,4,r.first,r.long+1⟩)) (fun R i acc h1 ha hR=>?_) (fun R acc ha hR=>?_) (n+1) hn (fun hc=>?_) (fun hc=>?_)
    ·simp only [fj (show i<l.length by omega),if_true,Int.toNat_natCast,show IntKind.i64.wrap ((i:Int)+1)=((i+1:Nat):Int) from aQ (by omega),show IntKind.i64.wrap ((i:Int)+2)=((i+2:Nat):Int) by rw [wrap_i64 (by omega) (by omega)]; rfl];refine fun _=>⟨⟨We i,by omega⟩,⟨We _,h1⟩,?_⟩
     refine ifk (fun c1=>?_) (fun c1=>?_)
     ·rw [if_pos c1] at hR;refine ifk (fun c2=>?_) (fun c2=>?_)
      ·rw [if_pos c2] at hR;refine ⟨⟨by rw [Wc]; omega,by rw [Wc]; omega⟩,kk hR ?_⟩;rw [Xb]; rfl
      ·rw [if_neg c2] at hR; exact hR
     ·rw [if_neg c1] at hR; exact hR
    ·simp only [gF,V9,if_false];refine fun _ _=>?_
     rw [Wc,wrap_i64 (by omega) (by omega)];refine ifk (fun c1=>?_) (fun c1=>ifk (fun c2=>?_) (fun c2=>fun _ _=>?_))
     ·rw [if_pos (by simp at c1; omega)] at hR; exact hR
     ·rw [if_pos (by simp at c2; omega)] at hR; exact hR
     ·rw [if_neg (by simp at c1 c2; omega)] at hR;have e4:r.where_=4:=by
       have:=wB hw (n:=4) (by decide) (by decide)
       rw [hwh] at this;simpa [Lt.fw] using this
      rw [e4];exact hR
    ·rw [if_pos (by rw [show Lt.al l 2 false=Lt.al l ((2:Nat):Int) false from rfl,hc]; simp)] at h;exact h
    ·have hlen:=dk (l:=l) (f:=2) (objs:=false) hc (by decide)
     rw [if_neg (by rw [show (Lt.al l 2 false).2=true from hc,hnm,hwh,decide_eq_false (show ¬ (Lt.al l 2 false).1.length=0 by omega)]; simp)] at h;exact h
  ·have h3:KP (Lt.flt 3) r:=by
    rw [if_pos ?_] at h
    ·exact h
    ·by_cases hok:(Lt.al l 2 false).2=true
     ·have hlen:=dk (l:=l) (f:=2) (objs:=false) hok (by decide)
      rw [decide_eq_true (show (Lt.al l 2 false).1.length=0 by omega)]; simp
     ·rw [Wn.2 hok]; simp
   refine ifk (fun c1=>⟨by decide,ifk (fun _=>h3) (fun c2=>?_)⟩) (fun _=>ifk (fun _=>h3) (fun hc=>by simp at hc));simp at c1 c2;omega
 ·rw [if_pos (by simp [hwh])] at h;exact ifk (fun _=>h) (fun hc=>by simp [hwh] at hc)
theorem G2 (r:Lt.Reader) (l:List (List UInt8)) (hp:Lt.ap r l) (KK:Unit×Lt.Reader->Prop) (KP:Value->Lt.Reader->Prop) (h:exP (Lt.wj r l) (fun z x=>KK (z,x)) KP):xi r l KK KP:=by
 obtain ⟨⟨hi,hw,hlg,_⟩,hne,hr⟩:=hp;have hr:l.length<=1099511627776:=hr
 unfold xi;unfold Lt.wj Lt.sAt at h;simp only [dY,jY,Lg,F7] at h;dsimp only;simp only [wB hw (n:=6) (by decide) (by decide),cV,uN,wG,Pg,ac,aj,aq,aV,ay,and_self,true_and];by_cases hwh:r.abs.Where=7
 ·obtain ⟨hf,_,_,_,hb6⟩:=cw hi (by omega);obtain ⟨hbn,hph,hcd,_⟩:=eV hi (by omega);obtain ⟨hcn,hfr,_⟩:=nq hi (by omega) (by omega);have hf:r.p.Funcs≠[]:=hf
  have hf8:r.p.Funcs.length<=5000:=by have:r.p.Funcs.length<=8:=hi.2.1.2.2; omega
  have hb5:r.abs.curF.Blocks.length<=5000:=by omega
  have hc5:r.abs.curB.Code.length<=5000:=by omega
  have ef:r.p.Funcs.getD (r.p.Funcs.length - 1) default=r.abs.curF:=rfl
  have eb:r.abs.curF.Blocks.getD (r.abs.curF.Blocks.length - 1) default=r.abs.curB:=rfl
  have ei:r.abs.curB.Code.getD (r.abs.curB.Code.length - 1) default=r.abs.curI:=rfl
  simp only [aK hf hf8,bu hf,bv hf,Int.toNat_natCast,ef,aK hbn hb5,bv hbn,bu hbn,eb,aK hcn hc5,bv hcn,bu hcn,ei,true_and,and_self,Wf,eB (show r.abs.curI.Frames.length<=5000 by omega) (show 64<=200 by omega),show l.getD 1 default=Lt.w1 l from rfl,show l.getD 2 default=Lt.w2 l from rfl,show l.getD 3 default=Lt.w3 l from rfl];refine ifk (fun hc=>by simp [hwh] at hc) (fun _=>fun _=>?_);by_cases h4:4<=l.length/\l.length % 2=0
  ·obtain ⟨n,hn⟩:∃ n,l.length=4+2*n:=⟨l.length / 2 - 2,by omega⟩
   rw [if_pos (by simp; omega)];refine ⟨by decide,ifk (fun hc=>by simp at hc; omega) (fun _=>⟨⟨by decide,by omega⟩,⟨by decide,by omega⟩,⟨by decide,by omega⟩,?_⟩)⟩;cases hn1:Lt.az (Lt.w1 l) with
   | false=>rw [if_pos (by rw [hn1]; simp)] at h; simpa using h
   | true=>
   cases hn2:Lt.az (Lt.w2 l) with
   | false=>rw [if_pos (by rw [hn2]; simp)] at h; simpa using h
   | true=>
   cases hn3:((Lt.aD (Lt.w3 l)).2&&decide (0<=(Lt.aD (Lt.w3 l)).1)&&decide ((Lt.aD (Lt.w3 l)).1<=1024)) with
   | false=>rw [if_pos (by rw [hn3]; simp)] at h; simpa using h
   | true=>
    rw [if_pos rfl,if_pos rfl,if_pos rfl];refine Ah l 4 true (fun acc=>(⟨Lt.w1 l,Lt.w2 l,(Lt.aD (Lt.w3 l)).1,acc⟩:Lt.Frame)) _ (KP (Lt.flt 3) r) (fun x=>if 16<x.length\/16<=r.abs.curI.Frames.length then KP (Lt.flt 2) r else KK ((),⟨(r.abs.instr (fun y=>{ y with Frames:=y.Frames++[⟨Lt.w1 l,Lt.w2 l,(Lt.aD (Lt.w3 l)).1,x⟩] })).P,r.at_,6,r.first,r.long⟩)) (fun R i acc h1 ha hR=>?_) (fun R acc ha hR=>?_) n hn (fun hc=>?_) (fun hc=>?_)
    ·simp only [fj (show i<l.length by omega),if_true,Int.toNat_natCast,show IntKind.i64.wrap ((i:Int)+1)=((i+1:Nat):Int) from aQ (by omega),show IntKind.i64.wrap ((i:Int)+2)=((i+2:Nat):Int) by rw [wrap_i64 (by omega) (by omega)]; rfl];refine fun _=>⟨⟨We i,by omega⟩,⟨We _,h1⟩,?_⟩
     refine ifk (fun c1=>?_) (fun c1=>?_)
     ·rw [if_pos c1] at hR;refine ifk (fun c2=>?_) (fun c2=>?_)
      ·rw [if_pos c2] at hR;exact ⟨⟨by omega,by omega⟩,hR⟩
      ·rw [if_neg c2] at hR; exact hR
     ·rw [if_neg c1] at hR; exact hR
    ·simp only [gF,V9,if_false];refine fun _ _=>?_
     rw [wrap_i64 (by omega) (by omega)];refine ifk (fun c1=>?_) (fun c1=>fun _ _ _ _=>ifk (fun c2=>?_) (fun c2=>?_))
     ·rw [if_pos (by simp at c1; omega)] at hR; exact hR
     ·rw [if_pos (by simp at c2; omega)] at hR; exact hR
     ·rw [if_neg (by simp at c1 c2; omega)] at hR;have e4:r.where_=6:=by
       have:=wB hw (n:=6) (by decide) (by decide)
       rw [hwh] at this;simpa [Lt.fw] using this
      rw [e4];exact hR
    ·rw [if_pos (by rw [show Lt.al l 4 true=Lt.al l ((4:Nat):Int) true from rfl,hc]; simp)] at h;exact h
    ·rw [if_neg (by rw [show (Lt.al l 4 true).2=true from hc,hn1,hn2,hn3,hwh]; simp)] at h;exact h
  ·have h3:KP (Lt.flt 3) r:=by
    rw [if_pos ?_] at h
    ·exact h
    ·by_cases hok:(Lt.al l 4 true).2=true
     ·have hlen:=dk (l:=l) (f:=4) (objs:=true) hok (by decide)
      omega
     ·rw [Wn.2 hok]; simp
   refine ifk (fun c1=>⟨by decide,ifk (fun _=>h3) (fun c2=>?_)⟩) (fun _=>ifk (fun _=>h3) (fun hc=>by simp at hc));simp at c1 c2;omega
 ·rw [if_pos (by simp [hwh])] at h;exact ifk (fun _=>h) (fun hc=>by simp [hwh] at hc)
theorem CB (r:Lt.Reader) (l:List (List UInt8)) (hp:Lt.ap r l) (KK:Unit×Lt.Reader->Prop) (KP:Value->Lt.Reader->Prop) (h:exP (Lt.lF r l) (fun z x=>KK (z,x)) KP):sL r l KK KP:=by
 obtain ⟨⟨hi,hw,hlg,_⟩,hne,hr⟩:=hp;have hr:l.length<=1099511627776:=hr
 unfold sL;unfold Lt.lF Lt.l8 at h;simp only [dY,jY,oW] at h;dsimp only;simp only [TX hw,cV,FY,ac,aj,aq,aV,ay,and_self,true_and];by_cases hwh:7<=r.abs.Where/\r.abs.Where<=8
 ·obtain ⟨hf,_,_,_,hb6⟩:=cw hi (by omega);obtain ⟨hbn,hph,hcd,_⟩:=eV hi (by omega);obtain ⟨hcn,_,hob⟩:=nq hi (by omega) (by omega);have hf:r.p.Funcs≠[]:=hf
  have hf8:r.p.Funcs.length<=5000:=by have:r.p.Funcs.length<=8:=hi.2.1.2.2; omega
  have hb5:r.abs.curF.Blocks.length<=5000:=by omega
  have hc5:r.abs.curB.Code.length<=5000:=by omega
  have ef:r.p.Funcs.getD (r.p.Funcs.length - 1) default=r.abs.curF:=rfl
  have eb:r.abs.curF.Blocks.getD (r.abs.curF.Blocks.length - 1) default=r.abs.curB:=rfl
  have ei:r.abs.curB.Code.getD (r.abs.curB.Code.length - 1) default=r.abs.curI:=rfl
  have hin:r.abs.ins=true:=by unfold Lt.Read.ins; simp; omega
  have ed:(l.drop 2).take (l.length - 2)=l.drop 2:=Wu (by rw [Wi]; omega)
  simp only [aK hf hf8,bu hf,bv hf,Int.toNat_natCast,ef,aK hbn hb5,bv hbn,bu hbn,eb,aK hcn hc5,bv hcn,bu hcn,ei,ed,true_and,and_self,Wf,eB (show r.abs.curI.Objs.length<=5000 by omega) (show 40<=200 by omega),show l.getD 1 default=Lt.w1 l from rfl];refine ifk (fun hc=>by rw [hin] at hc; simp at hc; omega) (fun _=>fun _=>?_);rw [if_neg (by rw [hin]; simp),decide_eq_true hwh.1] at h;simp only [Wv] at h;by_cases h2:2<=l.length
  ·rw [if_pos (by simp; omega)];by_cases h10:l.length<=10
   ·refine ifk (fun hc=>by simp at hc; omega) (fun _=>⟨⟨by decide,by omega⟩,by decide,⟨h2,Wb _⟩,?_⟩);rw [decide_eq_true h2,decide_eq_true h10] at h;simp only [Wv] at h;cases hn1:Lt.az (Lt.w1 l) with
    | false=>rw [if_pos (by rw [hn1]; simp)] at h; simpa using h
    | true=>
     rw [if_pos rfl];refine ⟨by show (l.drop 2).length<=1099511627776; rw [Wi]; omega,?_⟩;cases hn2:(Lt.aT (l.drop 2) true).2 with
     | false=>rw [if_pos (by rw [hn2]; simp)] at h; simpa using h
     | true=>
      rw [if_pos rfl];rw [if_neg (by rw [hn1,hn2]; simp)] at h;refine fun _ _ _ _=>ifk (fun c=>?_) (fun c=>?_)
      ·rw [if_pos (by simp at c; omega)] at h; exact h
      ·rw [if_neg (by simp at c; omega)] at h; exact h
   ·refine ifk (fun _=>?_) (fun hc=>by simp at hc; omega);rw [if_pos (by rw [decide_eq_false h10]; simp)] at h; exact h
  ·rw [if_neg (by simp; omega),if_pos (by decide)];rw [if_pos (by rw [decide_eq_false h2]; simp)] at h; exact h
 ·have hc:(decide (7<=r.abs.Where)&&r.abs.ins)=false:=by unfold Lt.Read.ins; simp; omega
  have h3:KP (Lt.flt 3) r:=by
   by_cases hin:r.abs.ins=false
   ·rw [if_pos hin] at h; exact h
   ·rw [if_neg hin] at h;rw [if_pos ?_] at h
    ·exact h
    ·have:decide (7<=r.abs.Where)=false:=by
      cases hh:r.abs.ins <;> simp_all
     rw [this]; rfl
  rw [hc];exact ifk (fun _=>h3) (fun hc=>by simp at hc)
end Go.Am
end

section
namespace Go.Am
open Go
theorem OA {α:Type} {r:Lt.Reader} {w:Int} (K:Unit->Lt.Reader->Prop) (KP:Value->Lt.Reader->Prop) (o:Option α) (X:α->Lt.Read) (Y:Lt.Read) :
  exP (Lt.fi r (match o with | some t=>(0,X t) | none=>(3,Y)) w) K KP=match o with | some t=>K () ⟨(X t).P,r.at_,w,r.first,(X t).Long⟩ | none=>KP (Lt.flt 3) r:=by cases o <;> rfl
theorem N4 (r:Lt.Reader) (l:List (List UInt8)) (hp:Lt.ap r l) (KK:Unit×Lt.Reader->Prop) (KP:Value->Lt.Reader->Prop) (h:exP (Lt.yr r l) (fun z x=>KK (z,x)) KP):Ir r l KK KP:=by
 obtain ⟨⟨hi,hw,hlg,_⟩,hne,hr⟩:=hp;have hr:l.length<=1099511627776:=hr
 have h0:0<l.length:=WK.2 hne
 unfold Ir;unfold Lt.yr at h;simp only [dY,jY,OA] at h;dsimp only;dsimp +instances only [Lt.dc]
 simp only [Pb hw,cV,uN,ac,aj,aq,aV,ay,and_self,true_and];cases hin:r.abs.ins with
 | false=>rw [if_pos hin] at h; exact h
 | true=>
 rw [if_neg (by rw [hin]; simp)] at h;have hwh:5<=r.abs.Where/\r.abs.Where<=8:=by unfold Lt.Read.ins at hin; simpa using hin
 obtain ⟨hf,_,_,_,hb6⟩:=cw hi (by omega);obtain ⟨hbn,hph,hcd,_⟩:=eV hi (by omega);have hf:r.p.Funcs≠[]:=hf
 have hf8:r.p.Funcs.length<=5000:=by have:r.p.Funcs.length<=8:=hi.2.1.2.2; omega
 have hb5:r.abs.curF.Blocks.length<=5000:=by omega
 have ef:r.p.Funcs.getD (r.p.Funcs.length - 1) default=r.abs.curF:=rfl
 have eb:r.abs.curF.Blocks.getD (r.abs.curF.Blocks.length - 1) default=r.abs.curB:=rfl
 simp only [aK hf hf8,bu hf,bv hf,Int.toNat_natCast,ef,aK hbn hb5,bv hbn,bu hbn,eb,true_and,and_self,implies_true,forall_const,show l.getD 0 default=Lt.w0 l from rfl,show l.getD 1 default=Lt.w1 l from rfl,show l.getD 2 default=Lt.w2 l from rfl,show l.getD 3 default=Lt.w3 l from rfl];refine ifk (fun hc=>by simp at hc) (fun _=>⟨⟨by decide,h0⟩,?_⟩);refine ifk (fun e1=>?_) (fun e1=>ifk (fun e2=>?_) (fun e2=>ifk (fun e3=>?_) (fun e3=>?_)))
 ·have e1:Lt.w0 l=Lt.gm:=by simpa using e1
  have hT:Lt.mZ l=if (decide (l.length=2)&&Lt.az (Lt.w1 l))=true then some ⟨1,⟨0,[],0⟩,[Lt.w1 l],0⟩ else none:=by
   unfold Lt.mZ Lt.dl; rw [if_pos (Or.inl e1),if_pos e1]
  rw [hT] at h;refine fun _=>ifk (fun c=>?_) (fun c=>?_)
  ·rw [if_neg (by simp at c; simp; omega)] at h; exact h
  ·have h2:l.length=2:=by simp at c; omega
   refine ⟨⟨by decide,by omega⟩,ifk (fun c1=>?_) (fun c1=>?_)⟩
   ·rw [if_pos (by rw [c1]; simpa using h2)] at h; exact fun _ _=>h
   ·rw [if_neg (by rw [Wn.2 c1]; simp)] at h; exact h
 ·have n1:¬ Lt.w0 l=Lt.gm:=by simpa using e1
  have e2:Lt.w0 l=Lt.dD:=by simpa using e2
  have hT:Lt.mZ l=if (decide (l.length=4)&&(Lt.az (Lt.w2 l)&&Lt.az (Lt.w3 l))&&Lt.bZ false (Lt.w1 l))=true then some ⟨2,(Lt.cM (Lt.w1 l)).1,[Lt.w2 l,Lt.w3 l],0⟩ else none:=by
   unfold Lt.mZ Lt.dl; rw [if_pos (Or.inr (Or.inl e2)),if_neg n1,if_pos e2]
  rw [hT] at h;refine fun _=>ifk (fun c=>?_) (fun c=>?_)
  ·rw [if_neg (by simp at c; simp; omega)] at h; exact h
  ·have h2:l.length=4:=by simp at c; omega
   refine ⟨⟨by decide,by omega⟩,⟨by decide,by omega⟩,⟨by decide,by omega⟩,ifk (fun c1=>ifk (fun c2=>ifk (fun c3=>?_) (fun c3=>?_)) (fun c2=>?_)) (fun c1=>?_)⟩
   ·rw [if_pos (by rw [c1,c2,c3]; simpa using h2)] at h; exact fun _ _=>h
   ·rw [if_neg (by rw [Wn.2 c3]; simp)] at h; exact h
   ·rw [if_neg (by rw [Wn.2 c2]; simp)] at h; exact h
   ·rw [if_neg (by rw [Wn.2 c1]; simp)] at h; exact h
 ·have n1:¬ Lt.w0 l=Lt.gm:=by simpa using e1
  have n2:¬ Lt.w0 l=Lt.dD:=by simpa using e2
  have e3:Lt.w0 l=Lt.tQ:=by simpa using e3
  have hT:Lt.mZ l=if (decide (l.length=2)&&Lt.bZ false (Lt.w1 l))=true then some ⟨3,(Lt.cM (Lt.w1 l)).1,[],0⟩ else none:=by
   unfold Lt.mZ Lt.dl; rw [if_pos (Or.inr (Or.inr e3)),if_neg n1,if_neg n2,if_pos e3]
  rw [hT] at h;refine fun _=>ifk (fun c=>?_) (fun c=>?_)
  ·rw [if_neg (by simp at c; simp; omega)] at h; exact h
  ·have h2:l.length=2:=by simp at c; omega
   refine ⟨⟨by decide,by omega⟩,ifk (fun c1=>?_) (fun c1=>?_)⟩
   ·rw [if_pos (by rw [c1]; simpa using h2)] at h; exact fun _ _=>h
   ·rw [if_neg (by rw [Wn.2 c1]; simp)] at h; exact h
 ·have n1:¬ Lt.w0 l=Lt.gm:=by simpa using e1
  have n2:¬ Lt.w0 l=Lt.dD:=by simpa using e2
  have n3:¬ Lt.w0 l=Lt.tQ:=by simpa using e3
  have hT:Lt.mZ l=if (decide (l.length=2)&&(Lt.aD (Lt.w1 l)).2)=true then some ⟨4,⟨0,[],0⟩,[],(Lt.aD (Lt.w1 l)).1⟩ else none:=by
   unfold Lt.mZ; rw [if_neg (fun hh=>hh.elim n1 (fun hh=>hh.elim n2 n3))]
  rw [hT] at h;refine fun _=>ifk (fun c=>?_) (fun c=>?_)
  ·rw [if_neg (by simp at c; simp; omega)] at h; exact h
  ·have h2:l.length=2:=by simp at c; omega
   refine ⟨⟨by decide,by omega⟩,ifk (fun c1=>?_) (fun c1=>?_)⟩
   ·have c1:(Lt.aD (Lt.w1 l)).2=false:=by simpa using c1
    rw [if_neg (by rw [c1]; simp)] at h; exact h
   ·have c1:(Lt.aD (Lt.w1 l)).2=true:=by simpa using c1
    rw [if_pos (by rw [c1]; simpa using h2)] at h; exact fun _ _=>h
theorem I8 (w:List UInt8) (l:List (List UInt8)) (o:Bool):Lt.aT (w::l) o=if Lt.bZ o w=true then (if (Lt.aT l o).2=true then ((Lt.cM w).1::(Lt.aT l o).1,true) else ([],false)) else ([],false):=by
 unfold Lt.aT;cases h1:Lt.bZ o w <;> cases h2:l.all (Lt.bZ o) <;> simp [h1,h2]
theorem Nd (r:Lt.Reader) (l:List (List UInt8)) (hp:Lt.ap r l) (KK:Unit×Lt.Reader->Prop) (KP:Value->Lt.Reader->Prop) (h:exP (Lt.qM r l) (fun z x=>KK (z,x)) KP):A2 r l KK KP:=by
 obtain ⟨⟨hi,hw,hlg,_⟩,hne,hr⟩:=hp;have hr:l.length<=1099511627776:=hr
 have h0:0<l.length:=WK.2 hne
 have e0:Lt.bt r.abs l=if (Lt.sEq l&&!Lt.az (Lt.w0 l))=true then (3,r.abs) else qh r.abs (if Lt.sEq l then Lt.w0 l else []) (if Lt.sEq l then l.drop 2 else l):=rfl
 unfold A2;unfold Lt.qM at h;rw [e0] at h;dsimp only;simp only [Pb hw,cV,uN,FY];cases hin:r.abs.ins with
 | false=>
  have h3:KP (Lt.flt 3) r:=by
   unfold qh at h;rw [if_pos hin] at h;split at h <;> exact h
  exact h3
 | true=>
 have hwh:5<=r.abs.Where/\r.abs.Where<=8:=by unfold Lt.Read.ins at hin; simpa using hin
 obtain ⟨hf,_,_,_,hb6⟩:=cw hi (by omega);obtain ⟨hbn,hph,hcd,_⟩:=eV hi (by omega);have hf:r.p.Funcs≠[]:=hf
 have hf8:r.p.Funcs.length<=5000:=by have:r.p.Funcs.length<=8:=hi.2.1.2.2; omega
 have hb5:r.abs.curF.Blocks.length<=5000:=by omega
 have hc5:r.abs.curB.Code.length<=5000:=by omega
 have ef:r.p.Funcs.getD (r.p.Funcs.length - 1) default=r.abs.curF:=rfl
 have eb:r.abs.curF.Blocks.getD (r.abs.curF.Blocks.length - 1) default=r.abs.curB:=rfl
 have l1:∀ x:Lt.Instr,([x]:List Lt.Instr).length=1:=fun _=>rfl
 have wl:IntKind.i64.wrap (r.long+1)=r.long+1:=wrap_i64 (by omega) (by omega)
 simp only [aK hf hf8,bu hf,bv hf,Int.toNat_natCast,ef,aK hbn hb5,bv hbn,bu hbn,eb,l1,eB hc5 (show 112<=200 by omega),wl,true_and,and_self,show l.getD 0 default=Lt.w0 l from rfl,show l.getD 1 default=Lt.w1 l from rfl];refine ifk (fun hc=>by simp at hc) (fun _=>?_);refine fun J1 hJ1=>?_
 have key:∀ (l':List (List UInt8)) (dst:List UInt8),0<l'.length->l'.length<=1099511627776->exP (Lt.fi r (qh r.abs dst l') ((qh r.abs dst l').2.Where - 1)) (fun z x=>KK (z,x)) KP->J1 (l',⟨0,dst,[],[],[],[]⟩):=by
  intro l' dst h0' hr' hk;refine hJ1 _ ?_;clear hJ1 h e0 J1;have hk:match Lt.fM dst l' with
    | none=>KP (Lt.flt 3) r
    | some x=>if 1024<=r.long then KP (Lt.flt 2) r else KK ((),⟨(r.abs.block (fun b=>{ b with Code:=b.Code++[x] })).P,r.at_,(if x.Op=31\/x.Op=34 then 7 else 6) - 1,r.first,r.long+1⟩):=by
   unfold qh at hk;rw [if_neg (by rw [hin]; simp)] at hk;cases hs:Lt.fM dst l' with
   | none=>rw [hs] at hk; exact hk
   | some x=>
    rw [hs] at hk;simp only [show r.abs.Long=r.long from rfl] at hk ⊢;by_cases hl:1024<=r.long
    ·rw [if_pos hl] at hk ⊢; exact hk
    ·rw [if_neg hl] at hk ⊢; exact hk
  unfold Lt.fM Lt.Kg at hk;have ew:l'.getD 0 default=Lt.w0 l':=rfl
  refine ⟨⟨by decide,h0'⟩,?_⟩;unfold Lt.yOp;simp only [ew];obtain ⟨_,_,e3,e4,e5,e6⟩:=I1 (Lt.sOp (Lt.w0 l')).1;simp only [<- e3,<- e4,<- e5,<- e6];have h26:(Lt.sOp (Lt.w0 l')).1=26\/(Lt.sOp (Lt.w0 l')).1=27->(Lt.rOf (Lt.sOp (Lt.w0 l')).1).1.Named=true:=by
   rintro (e | e) <;> rw [e] <;> rfl
  generalize Lt.sOp (Lt.w0 l')=O at hk h26 ⊢;obtain ⟨op,okop⟩:=O;simp only at hk h26 ⊢
  generalize (Lt.rOf op).1=fm at hk h26 ⊢;cases hok:okop with
  | false=>rw [hok] at hk; exact hk
  | true=>
  rw [hok] at hk;refine ifk (fun hc=>by simp at hc) (fun _=>?_);refine ifk (fun hc=>?_) (fun hc=>?_)
  ·rw [if_pos (by clear hk; simpa using hc)] at hk; exact hk
  rw [if_neg (by clear hk; simpa using hc)] at hk;have ed:(l'.drop 1).take (l'.length - 1)=l'.drop 1:=Wu (by rw [Wi]; omega)
  rw [ed];refine ⟨by decide,⟨by omega,Wb _⟩,fun J6 hJ6=>?_⟩;have key2:∀ nm gs,(if (decide (fm.Least<=(gs.length:Int))&&decide ((gs.length:Int)<=fm.Most))=true then (if 1024<=r.long then KP (Lt.flt 2) r else KK ((),⟨(r.abs.block (fun b=>{ b with Code:=b.Code++[(⟨op,dst,nm,gs,[],[]⟩:Lt.Instr)] })).P,r.at_,(if op=31\/op=34 then 7 else 6) - 1,r.first,r.long+1⟩)) else KP (Lt.flt 3) r)->J6 ⟨op,dst,nm,gs,[],[]⟩:=by
   intro nm gs hk2;refine hJ6 _ ?_;clear hJ6 hk J6;refine fun J18 hJ18=>fun _=>?_
   have hok:(decide (fm.Least<=(gs.length:Int))&&decide ((gs.length:Int)<=fm.Most))=true->J18 ():=by
    intro hb;rw [if_pos hb] at hk2;refine hJ18 () ?_;refine ifk (fun hl=>?_) (fun hl=>?_)
    ·rw [if_pos (by simpa using hl)] at hk2; exact hk2
    rw [if_neg (by simpa using hl)] at hk2;simp only [implies_true,forall_const,ac,jval,bor];refine fun _ _=>?_
    by_cases h31:op=31\/op=34
    ·rw [if_pos (by simpa using h31)];rw [if_pos h31] at hk2;exact hk2
    ·rw [if_neg (by simpa using h31)];rw [if_neg h31] at hk2;exact hk2
   refine ifk (fun c1=>ifk (fun c2=>?_) (fun c2=>?_)) (fun c1=>?_)
   ·rw [if_neg (by rw [c1]; simpa using c2)] at hk2; exact hk2
   ·exact hok (by rw [c1]; simpa using c2)
   ·rw [if_neg (by rw [Wn.2 c1]; simp)] at hk2; exact hk2
  clear hJ6;refine fun J8 hJ8=>?_
  have g8:=hJ8 (decide (op=26)||decide (op=27)) ?_
  ·cases h26:decide (op=26) with
   | true=>rw [h26] at g8; exact g8
   | false=>rw [h26] at g8; exact g8
  clear hJ8 J8;refine ifk (fun c=>?_) (fun c=>?_)
  ·have c:op=26\/op=27:=by simpa using c
   have hnm:=h26 c
   rw [if_pos c] at hk;refine fun _=>ifk (fun c3=>?_) (fun c3=>?_)
   ·rw [if_pos (by rw [Wi] at c3; simp at c3; omega)] at hk; exact hk
   have h3:3<=l'.length:=by rw [Wi] at c3; simp at c3; omega
   rw [if_neg (by omega)] at hk;simp only [hnm,Wv,I8,Bool.not_not] at hk;have ew2:(l'.drop 1).getD 1 default=Lt.w2 l':=by rw [List.getD,Wt]; rfl
   have ew1:((l'.drop 1).drop 0).take (1 - 0)=[Lt.w1 l']:=by
    rw [List.drop_zero,Wm (show 1<l'.length by omega)];unfold Lt.w1;rw [List.getD,V8 (show 1<l'.length by omega)]; rfl
   have ed3:((l'.drop 1).drop 2).take ((l'.drop 1).length - 2)=l'.drop 3:=by rw [List.drop_drop,Wu (by simp only [Wi]; omega)]
   rw [ew2,ew1,ed3];refine ⟨⟨by decide,by rw [Wi]; omega⟩,?_⟩;have hE:∀ {P:Prop},(Lt.az (Lt.w2 l')=false->KP (Lt.flt 3) r)/\(Lt.az (Lt.w2 l')=true->P)->(if Lt.az (Lt.w2 l')=true then P else KP (Lt.flt 3) r):=by
    intro P ⟨a,b⟩;refine ifk b (fun hc=>a (Wn.2 hc))
   refine hE ⟨fun hn=>?_,fun hn=>?_⟩
   ·rw [hn] at hk; simpa using hk
   rw [hn] at hk;refine ⟨by decide,⟨by decide,by rw [Wi]; omega⟩,by decide,⟨by rw [Wi]; omega,Wb _⟩,fun _=>?_⟩;refine bJ _ 1 (fun i x=>(i=0/\x=(([]:List Lt.Arg),(0:Int)))\/(i=1/\x=([(Lt.cM (Lt.w1 l')).1],(1:Int))/\Lt.bZ false (Lt.w1 l')=true)) (fun R i x hi hx hR=>?_) (fun R x hx=>?_) _ (Or.inl ⟨rfl,rfl⟩)
   ·rcases hx with ⟨rfl,rfl⟩ | ⟨h1,_⟩
    ·show (if decide ((0:Int) < (([Lt.w1 l']:List (List UInt8)).length:Int))=true then _ else _)
     rw [if_pos (by simp)];refine ⟨⟨Int.le_refl _,Nat.one_pos⟩,?_⟩;show (if Lt.bZ false (Lt.w1 l')=true then _ else _)
     refine ifk (fun ca=>?_) (fun ca=>?_)
     ·exact ⟨⟨by show 0+1<=_; decide,by show (0+1)*32<=_; decide⟩,hR _ (Or.inr ⟨rfl,rfl,ca⟩)⟩
     ·rw [if_neg ca] at hk; simpa using hk
    ·omega
   ·rcases hx with ⟨h1,_⟩ | ⟨_,rfl,ca⟩
    ·omega
    ·show (if decide ((1:Int) < (([Lt.w1 l']:List (List UInt8)).length:Int))=true then _ else _)
     rw [if_neg (by simp)];rw [if_pos ca] at hk;refine ⟨by show (l'.drop 3).length<=1099511627776; rw [Wi]; omega,?_⟩;refine ifk (fun ca2=>?_) (fun ca2=>?_)
     ·rw [if_pos ca2] at hk;have hlen:(Lt.aT (l'.drop 3) false).1.length<=1099511627776:=by
       unfold Lt.aT; split
       ·rw [Wc,Wi]; omega
       ·simp
      refine ⟨⟨by rw [Wf]; omega,by rw [Wf]; omega⟩,key2 _ _ ?_⟩;rw [List.singleton_append];simp only [Wv] at hk;refine ifk (fun cc=>?_) (fun cc=>?_)
      ·rw [if_pos cc] at hk; exact hk
      ·rw [if_neg cc] at hk; exact hk
     ·rw [if_neg ca2] at hk; simpa using hk
  ·have c:¬ (op=26\/op=27):=by simpa using c
   rw [if_neg c] at hk;refine ifk (fun hnm=>?_) (fun hnm=>?_)
   ·rw [if_pos hnm] at hk;refine fun _=>ifk (fun c3=>?_) (fun c3=>?_)
    ·rw [if_pos (by rw [Wi] at c3; simp at c3; omega)] at hk; exact hk
    have h3:2<=l'.length:=by rw [Wi] at c3; simp at c3; omega
    rw [if_neg (by omega)] at hk;simp only [hnm,Wv,Bool.not_not] at hk;have ew2:(l'.drop 1).getD 0 default=Lt.w1 l':=by rw [List.getD,Wt]; rfl
    have ed3:((l'.drop 1).drop 1).take ((l'.drop 1).length - 1)=l'.drop 2:=by rw [List.drop_drop,Wu (by simp only [Wi]; omega)]
    rw [ew2,ed3];refine ⟨⟨by decide,by rw [Wi]; omega⟩,?_⟩;refine ifk (fun hn=>?_) (fun hn=>?_)
    ·rw [hn] at hk;refine ⟨by decide,⟨by rw [Wi]; omega,Wb _⟩,by show (l'.drop 2).length<=1099511627776; rw [Wi]; omega,?_⟩;refine ifk (fun ca2=>key2 _ _ ?_) (fun ca2=>?_)
     ·rw [ca2] at hk;simp only [Wv] at hk;refine ifk (fun cc=>?_) (fun cc=>?_)
      ·rw [if_pos cc] at hk; exact hk
      ·rw [if_neg cc] at hk; exact hk
     ·rw [Wn.2 ca2] at hk; simpa using hk
    ·rw [Wn.2 hn] at hk; simpa using hk
   ·rw [if_neg hnm] at hk;have hnm:fm.Named=false:=Wn.2 hnm
    simp only [hnm,WO,Xf,Xe] at hk;refine ⟨by show (l'.drop 1).length<=1099511627776; rw [Wi]; omega,?_⟩;refine ifk (fun ca2=>key2 _ _ ?_) (fun ca2=>?_)
    ·rw [ca2] at hk;simp only [Wv] at hk;refine ifk (fun cc=>?_) (fun cc=>?_)
     ·rw [if_pos cc] at hk; exact hk
     ·rw [if_neg cc] at hk; exact hk
    ·rw [Wn.2 ca2] at hk; simpa using hk
 have es:((decide (2 < (l.length:Int)))&&(decide (Lt.w1 l=[61])))=Lt.sEq l:=by
  unfold Lt.sEq; rw [show decide (2 < (l.length:Int))=decide (2<l.length) from decide_eq_decide.2 (by omega)]
 refine fun J3 hJ3=>?_
 have hE:=hJ3 (Lt.sEq l) ?_
 ·refine fun _=>ifk (fun hc=>⟨⟨by decide,by simp at hc; omega⟩,?_⟩) (fun hc=>?_)
  ·rw [<- es,hc,Wv] at hE; exact hE
  ·rw [<- es,Wn.2 hc,WO] at hE; exact hE
 show (if Lt.sEq l=true then _ else _)
 by_cases hs:Lt.sEq l=true
 ·rw [if_pos hs];rw [hs] at h;have h2:2<l.length:=by unfold Lt.sEq at hs; simp only [V7,decide_eq_true_eq] at hs; exact hs.1
  refine ⟨⟨by decide,h0⟩,?_⟩;refine ifk (fun hc=>⟨by decide,⟨by omega,Wb _⟩,?_⟩) (fun hc=>?_)
  ·rw [hc] at h;have ed:(l.drop 2).take (l.length - 2)=l.drop 2:=Wu (by rw [Wi]; omega)
   rw [ed];exact key _ _ (by rw [Wi]; omega) (by rw [Wi]; omega) h
  ·rw [Wn.2 hc] at h;exact h
 ·rw [if_neg hs];rw [Wn.2 hs] at h;exact key _ _ h0 hr h
end Go.Am
end

section
namespace Go.Am
open Go
theorem ff {r:Lt.Read}:¬ ((false,(0:Int)),r).1.1=true:=fun h=>by simp at h
theorem SX (w:List UInt8):Lt.iI w=Lt.kind w:=by
 unfold Lt.iI Lt.kind;rw [cg,Bool.or_assoc]
theorem nv {α:Type} [Inhabited α] (l:List α) (x:α) (f:α->α):Lt.last (l++[x]) f=l++[f x]:=by
 unfold Lt.last;rw [ez,QA]
def stF (p:Lt.Program) (fs:List Lt.Func) (f:Lt.Func) (w n:Int):Lt.Read:=⟨{ p with Funcs:=fs++[f] },w,n⟩
def stB (p:Lt.Program) (fs:List Lt.Func) (f:Lt.Func) (bs:List Lt.Block) (b:Lt.Block) (w n:Int):Lt.Read:=stF p fs { f with Blocks:=bs++[b] } w n
def stI (p:Lt.Program) (fs:List Lt.Func) (f:Lt.Func) (bs:List Lt.Block) (b:Lt.Block) (cs:List Lt.Instr) (x:Lt.Instr) (w n:Int):Lt.Read:=stB p fs f bs { b with Code:=cs++[x] } w n
section
variable (p:Lt.Program) (fs:List Lt.Func) (f:Lt.Func) (bs:List Lt.Block) (b:Lt.Block) (cs:List Lt.Instr) (x:Lt.Instr) (w n:Int)
theorem uG (g:Lt.Func->Lt.Func):(stF p fs f w n).func g=stF p fs (g f) w n:=by
 unfold Lt.Read.func stF;rw [nv]
theorem qU (g:Lt.Block->Lt.Block):(stB p fs f bs b w n).block g=stB p fs f bs (g b) w n:=by
 unfold Lt.Read.block stB;rw [uG];simp only [nv]
theorem EK (g:Lt.Instr->Lt.Instr):(stI p fs f bs b cs x w n).instr g=stI p fs f bs b cs (g x) w n:=by
 unfold Lt.Read.instr stI;rw [qU];simp only [nv]
theorem uJ:(stF p fs f w n).curF=f:=by unfold Lt.Read.curF stF; exact ez _ _
theorem Sr:(stB p fs f bs b w n).curB=b:=by
 unfold Lt.Read.curB stB; rw [uJ]; exact ez _ _
theorem Ld:(stI p fs f bs b cs x w n).curI=x:=by
 unfold Lt.Read.curI stI; rw [Sr]; exact ez _ _
end
end Go.Am
end

section
namespace Go.Am
open Go
theorem la (bs:List Lt.Block) (b:Lt.Block):longs (bs++[b])=longs bs+(b.Phis.length+b.Code.length):=by simp [longs]
theorem zU:∀ (l:List Lt.Block) (n:Nat),n+longs l<=1024->(∀ b∈l,Lt.block b=true)->Lt.blocks l n=true
 | [],_,_,_=>rfl
 | b::r,n,h,hb=>by
  have e:longs (b::r)=(b.Phis.length+b.Code.length)+longs r:=by simp [longs]
  rw [e] at h;rw [Lt.blocks,hb b (by simp),zU r _ (by omega) (fun x hx=>hb x (by simp [hx]))];simp; omega
def Ud (f:Lt.Func):Prop:=Lt.Name f.Name=true/\Lt.kind f.Result=true/\Lt.typed f.Params 6=true/\Lt.typed f.Vars 1024=true
structure Open (f:Lt.Func) (bs:List Lt.Block) (b:Lt.Block) (w n:Int):Prop where
 hd:Ud f
 len:bs.length+1<=256
 long:n=((longs bs+(b.Phis.length+b.Code.length):Nat):Int)
 most:n<=1024
 bl:bs.all Lt.block=true
 nm:Lt.Name b.Name=true
 ph:b.Phis.all Lt.phi=true
 cd:b.Code.all Lt.instr=true
 fin:w=9->Lt.jE b.End=true
 ins:6<=w->w<=8->∃ cs c,b.Code=cs++[c]/\(7<=w->c.Op=31\/c.Op=34)
theorem Jz {f:Lt.Func} {bs:List Lt.Block} {b:Lt.Block} {w n:Int} (hw:5<=w) (h:Open f bs b w n):Lt.mj { f with Blocks:=bs++[b] } w n:=by
 have hl:=h.long
 have hm:=h.most
 refine ⟨h.hd,⟨by simpa using h.len,by omega,hm⟩,fun _=>by omega,fun _=>⟨bs,b,rfl,h.bl,?_,⟨h.nm,h.ph,h.cd⟩,h.fin,h.ins⟩⟩;have:=la bs b
 unfold longs at this;rw [hl];unfold longs;rw [this]
theorem rV {f:Lt.Func} {w n:Int} (hw:5<=w) (h:Lt.mj f w n):∃ bs b,f.Blocks=bs++[b]/\Open f bs b w n:=by
 obtain ⟨h1,⟨h2,h3,h4⟩,_,h5⟩:=h;obtain ⟨bs,b,e,hb,hn,⟨k1,k2,k3⟩,hf,hi⟩:=h5 hw;refine ⟨bs,b,e,⟨h1,by rw [e] at h2; simpa using h2,?_,h4,hb,k1,k2,k3,hf,hi⟩⟩;rw [hn,e];have:=la bs b
 unfold longs at this ⊢;rw [this]
theorem Ev {f:Lt.Func} {n:Int} (h:Lt.mj f 9 n):Lt.cm f=true:=by
 obtain ⟨bs,b,e,o⟩:=rV (by omega) h;obtain ⟨h1,h2,h3,h4⟩:=o.hd;have hl:=o.long
 have hm:=o.most
 have hn:=o.len
 unfold Lt.cm;have hb:∀ x∈f.Blocks,Lt.block x=true:=by
  rw [e];intro x hx;rcases WT.1 hx with hx | hx
  ·exact Wj.1 o.bl x hx
  ·rw [WJ.1 hx];unfold Lt.block;rw [o.nm,o.fin rfl,o.ph,o.cd]; rfl
 have hbl:Lt.blocks f.Blocks 0=true:=by
  refine zU _ _ ?_ hb;rw [e,la]; omega
 have hne:decide (f.Blocks=[])=false:=by rw [e]; simp
 have hle:decide (f.Blocks.length<=256)=true:=by rw [e]; simp; omega
 rw [h1,h2,h3,h4,hbl,hne,hle]; rfl
theorem uz {r:Lt.Read} (h:Lt.Inv r) (ho:r.out=true):r.P.Funcs.all Lt.cm=true:=by
 obtain ⟨_,_,_,_,h2,h3⟩:=h;have ho:r.Where<=2\/r.Where=9:=by simpa [Lt.Read.out] using ho
 rcases ho with ho | ho
 ·exact h2 ho
 ·obtain ⟨fs,f,e,hf,hp⟩:=h3 (by omega);rw [ho] at hp;rw [e,WU,hf];simp [Ev hp]
theorem A5 {p:Lt.Program} {fs:List Lt.Func} {f f':Lt.Func} {w w' n n':Int} (h:Lt.Inv (stF p fs f w n)) (hw:3<=w) (h1:3<=w') (h2:w'<=9) (hp:Lt.mj f' w' n'):Lt.Inv (stF p fs f' w' n'):=by
 obtain ⟨_,⟨a1,a2,a3⟩,⟨a4,a5,a6⟩,_,_,a7⟩:=h;obtain ⟨fs0,f0,e,hf,_⟩:=a7 hw;have e:fs++[f]=fs0++[f0]:=e
 obtain ⟨e1,_⟩:=List.append_inj' e rfl;subst e1;have a3:(fs++[f]).length<=8:=a3
 refine ⟨⟨by show 0<=w'; omega,h2⟩,⟨a1,a2,by show (fs++[f']).length<=8; simpa using a3⟩,⟨a4,a5,a6⟩,fun h=>?_,fun h=>?_,fun _=>⟨fs,f',rfl,hf,hp⟩⟩
 ·have:w'=1:=h
  omega
 ·have:w'<=2:=h
  omega
theorem qE {r:Lt.Read} (h:Lt.Inv r) (hw:3<=r.Where):∃ p fs f,r=stF p fs f r.Where r.Long/\Lt.mj f r.Where r.Long:=by
 obtain ⟨_,_,_,_,_,a7⟩:=h;obtain ⟨fs,f,e,_,hp⟩:=a7 hw;refine ⟨r.P,fs,f,?_,hp⟩;unfold stF;rw [<- e]
theorem kv {r:Lt.Read} (h:Lt.Inv r) (hw:5<=r.Where):∃ p fs f bs b,r=stB p fs f bs b r.Where r.Long/\Open f bs b r.Where r.Long:=by
 obtain ⟨p,fs,f,e,hp⟩:=qE h (by omega);obtain ⟨bs,b,e2,o⟩:=rV hw hp;refine ⟨p,fs,f,bs,b,?_,o⟩;unfold stB;rw [<- e2]; exact e
theorem pL {p:Lt.Program} {fs:List Lt.Func} {f:Lt.Func} {bs bs':List Lt.Block} {b b':Lt.Block} {w w' n n':Int} (h:Lt.Inv (stB p fs f bs b w n)) (hw:5<=w) (h1:5<=w') (h2:w'<=9) (o:Open f bs' b' w' n'):Lt.Inv (stB p fs f bs' b' w' n'):=
 A5 h (by omega) (by omega) h2 (Jz h1 o)
theorem kJ {l:List Lt.Var} {v:Lt.Var} {k:Nat} (h:Lt.typed l k=true) (hl:l.length<k) (h1:Lt.Name v.Name=true) (h2:Lt.kind v.Type_=true):Lt.typed (l++[v]) k=true:=by
 unfold Lt.typed at h ⊢;simp only [V7] at h;rw [WU,h.2];simp [h1,h2]; omega
theorem iW {l:List (List UInt8)} (h:Lt.bM l=true):Lt.Name (Lt.w1 l)=true/\Lt.kind (Lt.w2 l)=true:=by
 unfold Lt.bM at h;rw [cg,SX] at h;simp only [V7] at h;exact h.2
theorem Sj {α:Type} {l:List α} (h:l≠[]):∃ i x,l=i++[x]:=⟨l.dropLast,l.getLast h,(List.dropLast_concat_getLast h).symm⟩
theorem w6 {s:Bool} {cs:List Lt.Class} {gs:List Lt.Var} {es:List Lt.Extern} {fs:List Lt.Func} {w n:Int} (h0:0<=w) (h9:w<=9) (a1:cs.length<=8) (a2:es.length<=8) (a3:fs.length<=8) (a4:Lt.typed gs 8=true) (a5:cs.all Lt.iD=true) (a6:es.all Lt.mF=true)
  (a7:w=1->cs≠[]) (a8:w<=2->fs.all Lt.cm=true) (a9:3<=w->∃ fs0 f,fs=fs0++[f]/\fs0.all Lt.cm=true/\Lt.mj f w n):Lt.Inv ⟨⟨s,cs,gs,es,fs⟩,w,n⟩:=⟨⟨h0,h9⟩,⟨a1,a2,a3⟩,⟨a4,a5,a6⟩,a7,a8,a9⟩
theorem Mf {r:Lt.Read} {l:List (List UInt8)} (h:Lt.Inv r) (hz:(Lt.eP r l).1=0):Lt.Inv (Lt.eP r l).2:=by
 unfold Lt.eP at hz ⊢;split at hz
 ·cases hz
 rename_i c1; rw [if_neg c1];split at hz
 ·cases hz
 rename_i c2; rw [if_neg c2];simp only [Wy,V7,cg] at c1;have hf:=uz h c1.1.1
 obtain ⟨_,⟨a1,a2,a3⟩,⟨a4,a5,a6⟩,_⟩:=h;refine w6 (by decide) (by decide) (by simp; omega) a2 a3 a4 ?_ a6 (fun _=>by simp) (fun _=>hf) (fun h=>absurd h (by decide));rw [WU,a5];simp only [Wl,Xh,Xe,Wv];unfold Lt.iD;rw [c1.2]; rfl
theorem Nk {r:Lt.Read} {l:List (List UInt8)} (h:Lt.Inv r) (hz:(Lt.fD r l).1=0):Lt.Inv (Lt.fD r l).2:=by
 unfold Lt.fD at hz ⊢;split at hz
 ·cases hz
 rename_i c1; rw [if_neg c1];split at hz
 ·cases hz
 rename_i c2; rw [if_neg c2];simp only [Wy,V7,decide_eq_true_eq] at c1;obtain ⟨c1,ct⟩:=c1;obtain ⟨t1,t2⟩:=iW ct;obtain ⟨a0,⟨a1,a2,a3⟩,⟨a4,a5,a6⟩,a7,a8,a9⟩:=h;obtain ⟨i,c,e⟩:=Sj (a7 c1);rw [e,ez] at c2;rw [e] at a5 a1;rw [WU] at a5;simp only [V7,Wl,Xh,and_true] at a5;obtain ⟨p1,p2⟩:=a5;unfold Lt.iD at p2;simp only [V7] at p2;have key:Lt.last r.P.Classes (fun c=>{ c with Fields:=c.Fields++[⟨Lt.w1 l,Lt.w2 l⟩] })=i++[{ c with Fields:=c.Fields++[⟨Lt.w1 l,Lt.w2 l⟩] }]:=by rw [e,nv]
 show Lt.Inv ⟨⟨r.P.SSA,Lt.last r.P.Classes (fun c=>{ c with Fields:=c.Fields++[⟨Lt.w1 l,Lt.w2 l⟩] }),r.P.Globals,r.P.Externs,r.P.Funcs⟩,r.Where,r.Long⟩
 rw [key];refine w6 a0.1 a0.2 (by simpa using a1) a2 a3 a4 ?_ a6 (fun _=>by simp) a8 (fun h=>by omega)
 ·rw [WU,p1];simp only [Wl,Xh,Xe,Wv];unfold Lt.iD;have:=kJ (k:=8) (v:=⟨Lt.w1 l,Lt.w2 l⟩) p2.2 (by omega) t1 t2
  rw [p2.1]; simpa using this
theorem ly {n k:Nat} (h:(if k<=n then (2:Int) else 0)=0):n<k:=by
 split at h
 ·cases h
 ·omega
theorem I9 {r:Lt.Read} {l:List (List UInt8)} (h:Lt.Inv r) (hz:(Lt.dB r l).1=0):Lt.Inv (Lt.dB r l).2:=by
 unfold Lt.dB at hz ⊢;split at hz
 ·cases hz
 rename_i c1; rw [if_neg c1];have c2:=ly hz
 simp only [Wy,V7] at c1;obtain ⟨t1,t2⟩:=iW c1.2;have hf:=uz h c1.1
 obtain ⟨_,⟨a1,a2,a3⟩,⟨a4,a5,a6⟩,_⟩:=h;exact w6 (w:=2) (by decide) (by decide) a1 a2 a3 (kJ (k:=8) a4 c2 t1 t2) a5 a6 (fun h=>absurd h (by decide)) (fun _=>hf) (fun h=>absurd h (by decide))
theorem Jq {r:Lt.Read} {l:List (List UInt8)} (h:Lt.Inv r) (hz:(Lt.dg r l).1=0):Lt.Inv (Lt.dg r l).2:=by
 unfold Lt.dg at hz ⊢;split at hz
 ·cases hz
 rename_i c1; rw [if_neg c1];have c2:=ly hz
 simp only [Wy,V7,cg] at c1;have hf:=uz h c1.1.1.1
 obtain ⟨_,⟨a1,a2,a3⟩,⟨a4,a5,a6⟩,_⟩:=h;refine w6 (w:=2) (by decide) (by decide) a1 (by simp; omega) a3 a4 a5 ?_ (fun h=>absurd h (by decide)) (fun _=>hf) (fun h=>absurd h (by decide));rw [WU,a6];simp only [Wl,Xh,Xe,Wv];unfold Lt.mF;rw [c1.1.2,c1.2.1.2,c1.2.2]; rfl
theorem Qq {r:Lt.Read} {l:List (List UInt8)} (h:Lt.Inv r) (hz:(Lt.iN r l).1=0):Lt.Inv (Lt.iN r l).2:=by
 unfold Lt.iN at hz ⊢;split at hz
 ·cases hz
 rename_i c1; rw [if_neg c1];have c2:=ly hz
 simp only [Wy,V7] at c1;obtain ⟨t1,t2⟩:=iW c1.2;have hf:=uz h c1.1
 obtain ⟨_,⟨a1,a2,a3⟩,⟨a4,a5,a6⟩,_⟩:=h;exact w6 (w:=3) (n:=0) (by decide) (by decide) a1 a2 (by simp; omega) a4 a5 a6 (fun h=>absurd h (by decide)) (fun h=>absurd h (by decide)) (fun _=>⟨r.P.Funcs,_,rfl,hf,⟨⟨t1,t2,by simp [Lt.typed],by simp [Lt.typed]⟩,⟨by simp,by decide,by decide⟩,fun _=>⟨rfl,rfl⟩,fun h=>absurd h (by decide)⟩⟩)
theorem Mt {r:Lt.Read} {l:List (List UInt8)} (h:Lt.Inv r) (hz:(Lt.eQ r l).1=0):Lt.Inv (Lt.eQ r l).2:=by
 unfold Lt.eQ at hz ⊢;split at hz
 ·cases hz
 rename_i c1; rw [if_neg c1];have c2:=ly hz
 simp only [Wy,V7,decide_eq_true_eq] at c1;obtain ⟨c1,ct⟩:=c1;obtain ⟨t1,t2⟩:=iW ct;obtain ⟨p,fs,f,e,hp⟩:=qE h (by omega);rw [e,uJ] at c2;rw [e] at h;obtain ⟨⟨k1,k2,k3,k4⟩,k5,k6,_⟩:=hp;have key:=A5 (f':={ f with Params:=f.Params++[⟨Lt.w1 l,Lt.w2 l⟩] }) (w':=3) (n':=r.Long) h (by omega) (by omega) (by omega) ⟨⟨k1,k2,kJ (k:=6) k3 c2 t1 t2,k4⟩,k5,fun _=>k6 (by omega),fun h=>absurd h (by decide)⟩
 have e2:r.func (fun f=>{ f with Params:=f.Params++[⟨Lt.w1 l,Lt.w2 l⟩] })=stF p fs { f with Params:=f.Params++[⟨Lt.w1 l,Lt.w2 l⟩] } 3 r.Long:=by
  rw [e,uG,c1]; rfl
 rw [e2]; exact key
theorem RA {r:Lt.Read} {l:List (List UInt8)} (h:Lt.Inv r) (hz:(Lt.lu r l).1=0):Lt.Inv (Lt.lu r l).2:=by
 unfold Lt.lu at hz ⊢;split at hz
 ·cases hz
 rename_i c1; rw [if_neg c1];have c2:=ly hz
 simp only [Wy,V7,decide_eq_true_eq,Wq] at c1;obtain ⟨c1,ct⟩:=c1;obtain ⟨t1,t2⟩:=iW ct;obtain ⟨p,fs,f,e,hp⟩:=qE h (by omega);rw [e,uJ] at c2;rw [e] at h;obtain ⟨⟨k1,k2,k3,k4⟩,k5,k6,_⟩:=hp;have key:=A5 (f':={ f with Vars:=f.Vars++[⟨Lt.w1 l,Lt.w2 l⟩] }) (w':=4) (n':=r.Long) h (by omega) (by omega) (by omega) ⟨⟨k1,k2,k3,kJ (k:=1024) k4 c2 t1 t2⟩,k5,fun _=>k6 (by omega),fun h=>absurd h (by decide)⟩
 have e2:r.func (fun f=>{ f with Vars:=f.Vars++[⟨Lt.w1 l,Lt.w2 l⟩] })=stF p fs { f with Vars:=f.Vars++[⟨Lt.w1 l,Lt.w2 l⟩] } r.Where r.Long:=by
  rw [e,uG]; rfl
 rw [e2]; exact key
theorem MR {r:Lt.Read} {l:List (List UInt8)} (h:Lt.Inv r) (hz:(Lt.dS r l).1=0):Lt.Inv (Lt.dS r l).2:=by
 unfold Lt.dS at hz ⊢;split at hz
 ·cases hz
 rename_i c1; rw [if_neg c1];have c2:=ly hz
 simp only [Wy,V7,decide_eq_true_eq,Wq,cg] at c1;obtain ⟨⟨c1,_⟩,cn⟩:=c1;obtain ⟨p,fs,f,e,hp⟩:=qE h (by omega);rw [e,uJ] at c2;rw [e] at h;have e2:r.func (fun f=>{ f with Blocks:=f.Blocks++[⟨Lt.w1 l,[],[],⟨0,⟨0,[],0⟩,[],0⟩⟩] })=stF p fs { f with Blocks:=f.Blocks++[⟨Lt.w1 l,[],[],⟨0,⟨0,[],0⟩,[],0⟩⟩] } r.Where r.Long:=by
  rw [e,uG]; rfl
 rw [e2];have hall:f.Blocks.all Lt.block=true/\r.Long=((longs f.Blocks:Nat):Int)/\r.Long<=1024:=by
  by_cases h9:r.Where=9
  ·rw [h9] at hp;have hs:=RM (Ev hp)
   obtain ⟨bs,b,eb,o⟩:=rV (by omega) hp;exact ⟨Wj.2 hs.bl,by rw [o.long,eb,la],o.most⟩
  ·obtain ⟨_,_,k6,_⟩:=hp;obtain ⟨k7,k8⟩:=k6 (by omega);rw [k7,k8];exact ⟨rfl,rfl,by decide⟩
 refine A5 h (by omega) (by omega) (by omega) (Jz (by omega) ⟨hp.1,by omega,?_,hall.2.2,hall.1,cn,rfl,rfl,fun h=>absurd h (by decide),fun h=>absurd h (by decide)⟩);show r.Long=_
 rw [hall.2.1]; simp
theorem xg {objs:Bool} {l:List (List UInt8)} {k:Int} (h:(Lt.al l k objs).2=true):(∀ b∈(Lt.al l k objs).1,Lt.Name b.Name=true/\Lt.dQ objs b.A=true)/\((Lt.al l k objs).1.flatMap fun b=>[b.Name,Lt.cG b.A])=l.drop k.toNat:=by
 unfold Lt.al at h ⊢;split at h
 ·cases h
 rename_i hc; rw [if_neg hc];cases hg:Lt.bk objs (l.drop k.toNat) with
 | none=>rw [hg] at h; cases h
 | some x=>exact tc hg
theorem RD {r:Lt.Read} {l:List (List UInt8)} (h:Lt.Inv r) (hz:(Lt.l5 r l).1=0):Lt.Inv (Lt.l5 r l).2:=by
 unfold Lt.l5 at hz ⊢;split at hz
 ·cases hz
 rename_i c1; rw [if_neg c1];split at hz
 ·cases hz
 rename_i c2; rw [if_neg c2];simp only [Wy,V7,decide_eq_true_eq,WH,decide_eq_false_iff_not,cg] at c1;obtain ⟨⟨⟨c1,cp⟩,ce⟩,cn⟩:=c1;obtain ⟨p,fs,f,bs,b,e,o⟩:=kv h (by omega);rw [e] at h;have e2:({ r.block (fun b=>{ b with Phis:=b.Phis++[⟨Lt.w1 l,(Lt.al l 2 false).1.map fun x=>⟨x.Name,x.A⟩⟩] }) with Long:=r.Long+1 }:Lt.Read)=stB p fs f bs { b with Phis:=b.Phis++[⟨Lt.w1 l,(Lt.al l 2 false).1.map fun x=>⟨x.Name,x.A⟩⟩] } 5 (r.Long+1):=by
  have:r.block (fun b=>{ b with Phis:=b.Phis++[⟨Lt.w1 l,(Lt.al l 2 false).1.map fun x=>⟨x.Name,x.A⟩⟩] })=stB p fs f bs { b with Phis:=b.Phis++[⟨Lt.w1 l,(Lt.al l 2 false).1.map fun x=>⟨x.Name,x.A⟩⟩] } r.Where r.Long:=by
   rw [e,qU]; rfl
  rw [this,c1]; rfl
 rw [e2];have hl:=o.long
 refine pL h (by omega) (by omega) (by omega) ⟨o.hd,o.len,?_,by omega,o.bl,o.nm,?_,o.cd,fun h=>absurd h (by decide),fun h=>absurd h (by decide)⟩
 ·simp only [WA,Wp,W0]; omega
 ·rw [WU,o.ph];simp only [Wl,Xh,Xe,Wv];unfold Lt.phi;have hp:=(xg cp).1
  have e1:decide (((Lt.al l 2 false).1.map fun x=>(⟨x.Name,x.A⟩:Lt.In))=[])=false:=by
   simp only [decide_eq_false_iff_not,List.map_eq_nil_iff];intro e; rw [e] at ce; exact ce rfl
  have e3:((Lt.al l 2 false).1.map fun x=>(⟨x.Name,x.A⟩:Lt.In)).all Lt.Ko=true:=by
   rw [XK,Wj];intro x hx;show (Lt.Name x.Name&&Lt.dQ false x.A)=true
   rw [(hp x hx).1,(hp x hx).2]; rfl
  rw [cn,e1,e3];simp; omega
theorem DU {dst:List UInt8} {l:List (List UInt8)} {x:Lt.Instr} (h:Lt.fM dst l=some x) (hd:dst≠[]->Lt.Name dst=true):Lt.instr x=true/\x.Frames=[]/\x.Objs=[]:=by
 unfold Lt.fM at h;split at h
 ·cases h
 rename_i c1;simp only [Wy,V7,beq_iff_eq] at c1;obtain ⟨_,o2,o3⟩:=PT c1.1;obtain ⟨_,e2,e3,e4,e5,e6⟩:=I1 (Lt.sOp (Lt.w0 l)).1;rw [e3] at c1;split at h
 ·cases h
 rename_i nm rest hr;split at h
 ·rename_i c2;simp only [V7,decide_eq_true_eq] at c2;obtain ⟨⟨⟨c2,c3⟩,c4⟩,c5⟩:=c2;rw [e4,cg] at c3;rw [e5] at c4;rw [e6] at c5;simp only [V6] at h;subst h;refine ⟨?_,rfl,rfl⟩;have hsa:=(vm c2).1
  have hN:(Lt.Of (Lt.sOp (Lt.w0 l)).1).1.Named=!decide (nm=[]):=by
   unfold Lt.Kg at hr;cases hn:(Lt.Of (Lt.sOp (Lt.w0 l)).1).1.Named with
   | true=>
    rw [hn] at c3;have:Lt.Name nm=true:=by simpa using c3
    cases nm with
    | nil=>cases this
    | cons a r=>rfl
   | false=>
    split at hr
    ·rename_i hc;have h26:(Lt.Of 26).1.Named=true:=by decide +kernel
     have h27:(Lt.Of 27).1.Named=true:=by decide +kernel
     rcases hc with e | e <;> rw [e] at hn
     ·rw [h26] at hn; cases hn
     ·rw [h27] at hn; cases hn
    ·rw [e4,hn,if_neg (by decide)] at hr;simp only [V6,Prod.mk.injEq] at hr;rw [<- hr.1]; rfl
  unfold Lt.instr;dsimp only;rw [o3,hsa,c1.2,<- hN,decide_eq_true c4,decide_eq_true c5,c3];have h1:(!(!decide (dst=[])&&!Lt.Name dst))=true:=by
   by_cases hc:dst=[]
   ·simp [hc]
   ·simp [hd hc]
  have h2:(if (Lt.sOp (Lt.w0 l)).1≠31/\(Lt.sOp (Lt.w0 l)).1≠34 then decide (([]:List Lt.Frame)=[])&&decide (([]:List Lt.Virt)=[]) else ([]:List Lt.Frame).all Lt.frame&&([]:List Lt.Virt).all Lt.virt)=true:=by
   split <;> rfl
  rw [h1,h2];simp
 ·cases h
theorem C7 {r:Lt.Read} {l:List (List UInt8)} (h:Lt.Inv r) (hz:(Lt.bt r l).1=0):Lt.Inv (Lt.bt r l).2:=by
 unfold Lt.bt at hz ⊢;split at hz
 ·cases hz
 rename_i c0; rw [if_neg c0];split at hz
 ·cases hz
 rename_i c1; rw [if_neg c1];cases hs:Lt.fM (if Lt.sEq l then Lt.w0 l else []) (if Lt.sEq l then l.drop 2 else l) with
 | none=>rw [hs] at hz; cases hz
 | some x=>
  rw [hs] at hz;simp only at hz ⊢
  split at hz
  ·cases hz
  rename_i c2; rw [if_neg c2];have hin:5<=r.Where/\r.Where<=8:=by simpa [Lt.Read.ins] using c1
  obtain ⟨hx,hf,ho⟩:=DU hs (by
   rw [cg] at c0;cases he:Lt.sEq l with
   | true=>rw [he] at c0; intro _; rw [if_pos rfl]; simpa using c0
   | false=>intro h; exact absurd (if_neg (by decide)) h)
  obtain ⟨p,fs,f,bs,b,e,o⟩:=kv h (by omega);rw [e] at h;have e2:({ r.block (fun b=>{ b with Code:=b.Code++[x] }) with Where:=if x.Op=31\/x.Op=34 then 7 else 6,Long:=r.Long+1 }:Lt.Read)=stB p fs f bs { b with Code:=b.Code++[x] } (if x.Op=31\/x.Op=34 then 7 else 6) (r.Long+1):=by
   have:r.block (fun b=>{ b with Code:=b.Code++[x] })=stB p fs f bs { b with Code:=b.Code++[x] } r.Where r.Long:=by
    rw [e,qU]; rfl
   rw [this]; rfl
  rw [e2];have hl:=o.long
  have hw:∀ {k:Int},k=(if x.Op=31\/x.Op=34 then (7:Int) else 6)->5<=k/\k<=8/\(7<=k->x.Op=31\/x.Op=34):=by
   rintro k rfl
   split
   ·rename_i hc; exact ⟨by omega,by omega,fun _=>hc⟩
   ·exact ⟨by omega,by omega,fun h=>by omega⟩
  obtain ⟨w1,w2,w3⟩:=hw rfl;refine pL h (by omega) w1 (by omega) ⟨o.hd,o.len,?_,by omega,o.bl,o.nm,o.ph,?_,fun h=>by omega,fun _ _=>⟨b.Code,x,rfl,w3⟩⟩
  ·simp only [WA,Wp,W0]; omega
  ·rw [WU,o.cd];simp [hx]
theorem vZ {c:Lt.Instr} {fr:List Lt.Frame} {ob:List Lt.Virt} (h:Lt.instr c=true) (ho:c.Op=31\/c.Op=34) (h1:fr.length<=16) (h2:ob.length<=99) (h3:∀ x∈fr,Lt.frame x=true) (h4:∀ x∈ob,Lt.virt x=true):Lt.instr { c with Frames:=fr,Objs:=ob }=true:=by
 unfold Lt.instr at h ⊢;simp only [V7] at h ⊢;obtain ⟨⟨k1,⟨⟨⟨k2,k3⟩,k4⟩,_⟩,_⟩,_⟩:=h;refine ⟨⟨k1,⟨⟨⟨k2,k3⟩,k4⟩,by simpa using h1⟩,by simpa using h2⟩,?_⟩;rw [if_neg (by omega),V7,Wj,Wj];exact ⟨h3,h4⟩
theorem UU {r:Lt.Read} {l:List (List UInt8)} (h:Lt.Inv r) (hz:(Lt.sAt r l).1=0):Lt.Inv (Lt.sAt r l).2:=by
 unfold Lt.sAt at hz ⊢;split at hz
 ·cases hz
 rename_i c1; rw [if_neg c1];split at hz
 ·cases hz
 rename_i c2; rw [if_neg c2];simp only [Wy,V7,decide_eq_true_eq,cg] at c1;obtain ⟨⟨⟨⟨c1,cp⟩,cf⟩,cb⟩,⟨cn,c0⟩,c9⟩:=c1;obtain ⟨p,fs,f,bs,b,e,o⟩:=kv h (by omega);obtain ⟨cs,c,ec,hop⟩:=o.ins (by omega) (by omega);have hop:=hop (by omega)
 have e':r=stI p fs f bs b cs c r.Where r.Long:=by
  unfold stI; rw [<- ec]; exact e
 have hc:=o.cd
 rw [ec,WU] at hc;simp only [V7,Wl,Xh,and_true] at hc;have hio:=DV hc.2
 rw [e',Ld] at c2;rw [e] at h;have e2:r.instr (fun x=>{ x with Frames:=x.Frames++[⟨Lt.w1 l,Lt.w2 l,(Lt.aD (Lt.w3 l)).1,(Lt.al l 4 true).1⟩] })=stI p fs f bs b cs { c with Frames:=c.Frames++[⟨Lt.w1 l,Lt.w2 l,(Lt.aD (Lt.w3 l)).1,(Lt.al l 4 true).1⟩] } r.Where r.Long:=by
  rw [e',EK]; rfl
 rw [e2];have hl:=o.long
 refine pL h (by omega) (by omega) (by omega) ⟨o.hd,o.len,?_,o.most,o.bl,o.nm,o.ph,?_,fun h=>by omega,fun _ _=>⟨cs,_,rfl,fun _=>hop⟩⟩
 ·rw [hl,ec]; simp
 ·rw [WU,hc.1];simp only [Wl,Xh,Xe,Wv];refine vZ (c:=c) (ob:=c.Objs) hc.2 hop (by simp; omega) hio.objs (fun x hx=>?_) hio.ob;rcases WT.1 hx with hx | hx
  ·exact hio.fr x hx
  ·rw [WJ.1 hx];have hp:=(xg cp).1
   unfold Lt.frame;have e3:(Lt.al l 4 true).1.all Lt.AG=true:=by
    rw [Wj];intro x hx;show (Lt.Name x.Name&&Lt.dQ true x.A)=true
    rw [(hp x hx).1,(hp x hx).2]; rfl
   simp only
   rw [cf,cb,e3,decide_eq_true c0,decide_eq_true c9,decide_eq_true (show (Lt.al l 4 true).1.length<=16 by omega)]; rfl
theorem SN {r:Lt.Read} {l:List (List UInt8)} (h:Lt.Inv r) (hi:r.ins=true) (hz:(Lt.l8 r l).1=0):Lt.Inv (Lt.l8 r l).2:=by
 unfold Lt.l8 at hz ⊢;split at hz
 ·cases hz
 rename_i c1; rw [if_neg c1];have c2:=ly hz
 have hin:5<=r.Where/\r.Where<=8:=by simpa [Lt.Read.ins] using hi
 simp only [Wy,V7,decide_eq_true_eq,cg] at c1;obtain ⟨⟨⟨⟨c1,c3⟩,c4⟩,cn⟩,ca⟩:=c1;obtain ⟨p,fs,f,bs,b,e,o⟩:=kv h (by omega);obtain ⟨cs,c,ec,hop⟩:=o.ins (by omega) (by omega);have hop:=hop (by omega)
 have e':r=stI p fs f bs b cs c r.Where r.Long:=by
  unfold stI; rw [<- ec]; exact e
 have hc:=o.cd
 rw [ec,WU] at hc;simp only [V7,Wl,Xh,and_true] at hc;have hio:=DV hc.2
 rw [e',Ld] at c2;rw [e] at h;have e2:({ r.instr (fun x=>{ x with Objs:=x.Objs++[⟨Lt.w1 l,(Lt.aT (l.drop 2) true).1⟩] }) with Where:=8 }:Lt.Read)=stI p fs f bs b cs { c with Objs:=c.Objs++[⟨Lt.w1 l,(Lt.aT (l.drop 2) true).1⟩] } 8 r.Long:=by
  have:r.instr (fun x=>{ x with Objs:=x.Objs++[⟨Lt.w1 l,(Lt.aT (l.drop 2) true).1⟩] })=stI p fs f bs b cs { c with Objs:=c.Objs++[⟨Lt.w1 l,(Lt.aT (l.drop 2) true).1⟩] } r.Where r.Long:=by
   rw [e',EK]; rfl
  rw [this]; rfl
 rw [e2];have hl:=o.long
 refine pL h (by omega) (by omega) (by omega) ⟨o.hd,o.len,?_,o.most,o.bl,o.nm,o.ph,?_,fun h=>by omega,fun _ _=>⟨cs,_,rfl,fun _=>hop⟩⟩
 ·rw [hl,ec]; simp
 ·rw [WU,hc.1];simp only [Wl,Xh,Xe,Wv];refine vZ (c:=c) (fr:=c.Frames) hc.2 hop hio.frames (by simp; omega) hio.fr (fun x hx=>?_);rcases WT.1 hx with hx | hx
  ·exact hio.ob x hx
  ·rw [WJ.1 hx];obtain ⟨k1,k2,_⟩:=vm ca;rw [Wi] at k2;unfold Lt.virt;simp only
   rw [cn,k1];simp; omega
theorem Iq {l:List (List UInt8)} {t:Lt.Term} (h:Lt.dl l=some t):Lt.jE t=true:=by
 unfold Lt.dl at h;split at h
 ·split at h
  ·rename_i c;simp only [V7,cg] at c;simp only [V6] at h; subst h;simp [Lt.jE,Lt.Kp];exact c.2
  ·cases h
 split at h
 ·split at h
  ·rename_i c;simp only [V7,cg] at c;simp only [V6] at h; subst h;have:=k9 c.2
   simp [Lt.jE];exact ⟨c.1.2,this⟩
  ·cases h
 split at h
 ·split at h
  ·rename_i c;simp only [V7] at c;simp only [V6] at h; subst h;have:=k9 c.2
   simp [Lt.jE];exact this
  ·cases h
 split at h
 ·split at h
  ·simp only [V6] at h; subst h;simp [Lt.jE,Lt.Kp]
  ·cases h
 ·cases h
theorem Rk {r:Lt.Read} {l:List (List UInt8)} (h:Lt.Inv r) (hi:r.ins=true) (hz:(Lt.ld r l).1=0):Lt.Inv (Lt.ld r l).2:=by
 have hin:5<=r.Where/\r.Where<=8:=by simpa [Lt.Read.ins] using hi
 unfold Lt.ld at hz ⊢;cases hs:Lt.dl l with
 | none=>rw [hs] at hz; cases hz
 | some t=>
  have ht:=Iq hs
  obtain ⟨p,fs,f,bs,b,e,o⟩:=kv h (by omega);rw [e] at h;have e2:({ r.block (fun b=>{ b with End:=t }) with Where:=9 }:Lt.Read)=stB p fs f bs { b with End:=t } 9 r.Long:=by
   have:r.block (fun b=>{ b with End:=t })=stB p fs f bs { b with End:=t } r.Where r.Long:=by
    rw [e,qU]; rfl
   rw [this]; rfl
  show Lt.Inv ({ r.block (fun b=>{ b with End:=t }) with Where:=9 }:Lt.Read)
  rw [e2];exact pL h (by omega) (by omega) (by omega) ⟨o.hd,o.len,o.long,o.most,o.bl,o.nm,o.ph,o.cd,fun _=>ht,fun h1 h2=>absurd h2 (by omega)⟩
theorem Oi {r:Lt.Read} {l:List (List UInt8)} (h:Lt.Inv r) (hz:(Lt.bD r l).1.2=0):Lt.Inv (Lt.bD r l).2:=by
 unfold Lt.bD at hz ⊢;split at hz
 ·rename_i c; rw [if_pos c]; exact Mf h hz
 rename_i c; rw [if_neg c];split at hz
 ·rename_i c; rw [if_pos c]; exact Nk h hz
 rename_i c; rw [if_neg c];split at hz
 ·rename_i c; rw [if_pos c]; exact I9 h hz
 rename_i c; rw [if_neg c];split at hz
 ·rename_i c; rw [if_pos c]; exact Jq h hz
 rename_i c; rw [if_neg c];split at hz
 ·rename_i c; rw [if_pos c]; exact Qq h hz
 rename_i c; rw [if_neg c]; exact h
theorem QQ {r:Lt.Read} {l:List (List UInt8)} (h:Lt.Inv r) (hz:(Lt.bH r l).1.2=0):Lt.Inv (Lt.bH r l).2:=by
 unfold Lt.bH at hz ⊢;split at hz
 ·rename_i c; rw [if_pos c]; exact Mt h hz
 rename_i c; rw [if_neg c];split at hz
 ·rename_i c; rw [if_pos c]; exact RA h hz
 rename_i c; rw [if_neg c];split at hz
 ·rename_i c; rw [if_pos c]; exact MR h hz
 rename_i c; rw [if_neg c];split at hz
 ·rename_i c; rw [if_pos c]; exact RD h hz
 rename_i c; rw [if_neg c]; exact h
theorem LJ {r:Lt.Read} {l:List (List UInt8)} (h:Lt.Inv r) (hz:(Lt.bf r l).1.2=0):Lt.Inv (Lt.bf r l).2:=by
 unfold Lt.bf at hz ⊢;split at hz
 ·rename_i c; rw [if_pos c];split at hz
  ·cases hz
  rename_i ci; rw [if_neg ci];have hi:r.ins=true:=by simpa using ci
  split at hz
  ·rename_i c; rw [if_pos c]; exact UU h hz
  rename_i c; rw [if_neg c];split at hz
  ·rename_i c; rw [if_pos c]; exact SN h hi hz
  rename_i c; rw [if_neg c]; exact Rk h hi hz
 rename_i c; rw [if_neg c]; exact h
theorem vg {r:Lt.Read} {l:List (List UInt8)} {b:Bool} (h:Lt.Inv r) (hz:(Lt.aO r l b).1=0):Lt.Inv (Lt.aO r l b).2:=by
 unfold Lt.aO at hz ⊢;split at hz
 ·rename_i c; rw [if_pos c]; exact C7 h hz
 rename_i c; rw [if_neg c];split at hz
 ·rename_i c; rw [if_pos c];split at hz
  ·cases hz
  rename_i c; rw [if_neg c]; exact h
 rename_i c; rw [if_neg c];split at hz
 ·rename_i c; rw [if_pos c]; exact Oi h hz
 rename_i c; rw [if_neg c];split at hz
 ·rename_i c; rw [if_pos c]; exact QQ h hz
 rename_i c; rw [if_neg c];split at hz
 ·rename_i c; rw [if_pos c]; exact LJ h hz
 rename_i c; rw [if_neg c]; exact C7 h hz
theorem Vt:Lt.Inv ⟨⟨false,[],[],[],[]⟩,0,0⟩:=⟨⟨by decide,by decide⟩,⟨by decide,by decide,by decide⟩,⟨rfl,rfl,rfl⟩,fun h=>absurd h (by decide),fun _=>rfl,fun h=>absurd h (by decide)⟩
end Go.Am
end

section
namespace Go.Am
open Go
def hd (p:Lt.Program):Nat:=p.Classes.length+p.Globals.length+p.Externs.length
def Rel (w:Int) (r:Lt.Reader) (x:Lt.Read):Prop:=
 (r.heads<hd x.P/\((w=1/\x.Where=1)\/(w=0/\x.Where=2))) \/
 (¬ r.heads<hd x.P/\(0<=x.Long/\x.Long<=1024)/\((2<=w/\w<=7/\x.Where=w+1)\/(w=0/\x.Where=9))) \/
 (¬ r.heads<hd x.P/\w=r.where_/\x.Where=r.abs.Where/\x.Long=r.long)
theorem o4 {r:Lt.Reader} (h:r.inv) (hw:3<=r.abs.Where):0<=r.long:=by
 obtain ⟨_,_,_,h4⟩:=h;refine h4.2 ⟨fun e=>?_,by omega⟩;unfold Lt.Reader.abs at hw;rw [e] at hw;simp at hw
section
variable {r:Lt.Reader} {l:List (List UInt8)}
theorem Nh (hz:(Lt.eP r.abs l).1=0):Rel 1 r (Lt.eP r.abs l).2:=by
 unfold Lt.eP at hz ⊢;split at hz
 ·simp at hz
 ·rename_i h1;rw [if_neg h1];split at hz
  ·simp at hz
  ·rename_i h2;rw [if_neg h2];refine .inl ⟨?_,.inl ⟨rfl,rfl⟩⟩;simp only [hd,Lt.Reader.heads,lU,WA,Wf]; omega
theorem Na (hz:(Lt.fD r.abs l).1=0):Rel r.where_ r (Lt.fD r.abs l).2:=by
 unfold Lt.fD at hz ⊢;split at hz
 ·simp at hz
 ·rename_i h1;rw [if_neg h1];split at hz
  ·simp at hz
  ·rename_i h2;rw [if_neg h2];refine .inr (.inr ⟨?_,rfl,rfl,rfl⟩);simp only [hd,Lt.Reader.heads,lU,Lt.last,WM]; omega
theorem G5 (hz:(Lt.dB r.abs l).1=0):Rel 0 r (Lt.dB r.abs l).2:=by
 unfold Lt.dB at hz ⊢;split at hz
 ·simp at hz
 ·rename_i h1;rw [if_neg h1];refine .inl ⟨?_,.inr ⟨rfl,rfl⟩⟩;simp only [hd,Lt.Reader.heads,lU,WA,Wf]; omega
theorem IA (hz:(Lt.dg r.abs l).1=0):Rel 0 r (Lt.dg r.abs l).2:=by
 unfold Lt.dg at hz ⊢;split at hz
 ·simp at hz
 ·rename_i h1;rw [if_neg h1];refine .inl ⟨?_,.inr ⟨rfl,rfl⟩⟩;simp only [hd,Lt.Reader.heads,lU,WA,Wf]; omega
theorem Ny (hz:(Lt.iN r.abs l).1=0):Rel 2 r (Lt.iN r.abs l).2:=by
 unfold Lt.iN at hz ⊢;split at hz
 ·simp at hz
 ·rename_i h1;rw [if_neg h1];exact .inr (.inl ⟨Xj _,⟨Int.le_refl _,show (0:Int)<=1024 by decide⟩,.inl ⟨by decide,by decide,rfl⟩⟩)
variable (h:r.inv)
theorem Mx (hz:(Lt.eQ r.abs l).1=0):Rel r.where_ r (Lt.eQ r.abs l).2:=by
 unfold Lt.eQ at hz ⊢;split at hz
 ·simp at hz
 ·rename_i h1;rw [if_neg h1];exact .inr (.inr ⟨Xj _,rfl,rfl,rfl⟩)
include h
theorem Ro (hz:(Lt.lu r.abs l).1=0):Rel 3 r (Lt.lu r.abs l).2:=by
 unfold Lt.lu at hz ⊢;split at hz
 ·simp at hz
 ·rename_i h1;rw [if_neg h1];have hw:3<=r.abs.Where:=by simp at h1; omega
  exact .inr (.inl ⟨Xj _,⟨o4 h hw,h.2.2.1.2⟩,.inl ⟨by decide,by decide,rfl⟩⟩)
theorem MZ (hz:(Lt.dS r.abs l).1=0):Rel 4 r (Lt.dS r.abs l).2:=by
 unfold Lt.dS at hz ⊢;split at hz
 ·simp at hz
 ·rename_i h1;rw [if_neg h1];have hw:3<=r.abs.Where:=by simp at h1; omega
  exact .inr (.inl ⟨Xj _,⟨o4 h hw,h.2.2.1.2⟩,.inl ⟨by decide,by decide,rfl⟩⟩)
theorem R0 (hz:(Lt.l5 r.abs l).1=0):Rel 4 r (Lt.l5 r.abs l).2:=by
 unfold Lt.l5 at hz ⊢;split at hz
 ·simp at hz
 ·rename_i h1;rw [if_neg h1];split at hz
  ·simp at hz
  ·rename_i h2;rw [if_neg h2];have hw:r.abs.Where=5:=by
    simp only [Wy,V7,decide_eq_true_eq] at h1;exact h1.1.1.1
   have h0:=o4 h (by omega)
   have hl:¬ 1024<=r.long:=fun e=>h2 (.inr e)
   exact .inr (.inl ⟨Xj _,⟨by show 0<=r.long+1; omega,by show r.long+1<=1024; omega⟩,.inl ⟨by decide,by decide,hw⟩⟩)
theorem C3 (hz:(Lt.bt r.abs l).1=0):Rel ((Lt.bt r.abs l).2.Where - 1) r (Lt.bt r.abs l).2:=by
 unfold Lt.bt at hz ⊢;split at hz
 ·simp at hz
 ·rename_i h1;rw [if_neg h1];split at hz
  ·simp at hz
  ·rename_i h2;rw [if_neg h2];split at hz
   ·simp at hz
   ·rename_i x hx;simp only [hx];split at hz
    ·simp at hz
    ·rename_i hl;rw [if_neg hl];have hw:3<=r.abs.Where:=by
      have:r.abs.ins=true:=by simpa using h2
      unfold Lt.Read.ins at this;simp at this; omega
     have h0:=o4 h hw
     have hl:¬ 1024<=r.long:=hl
     refine .inr (.inl ⟨Xj _,⟨by show 0<=r.long+1; omega,by show r.long+1<=1024; omega⟩,.inl ?_⟩);dsimp only;split <;> decide
theorem UN (hz:(Lt.sAt r.abs l).1=0):Rel 6 r (Lt.sAt r.abs l).2:=by
 unfold Lt.sAt at hz ⊢;split at hz
 ·simp at hz
 ·rename_i h1;rw [if_neg h1];split at hz
  ·simp at hz
  ·rename_i h2;rw [if_neg h2];have hw:r.abs.Where=7:=by
    simp only [Wy,V7,decide_eq_true_eq] at h1;exact h1.1.1.1.1
   exact .inr (.inl ⟨Xj _,⟨o4 h (by omega),h.2.2.1.2⟩,.inl ⟨by decide,by decide,hw⟩⟩)
theorem SV (hz:(Lt.l8 r.abs l).1=0):Rel 7 r (Lt.l8 r.abs l).2:=by
 unfold Lt.l8 at hz ⊢;split at hz
 ·simp at hz
 ·rename_i h1;rw [if_neg h1];have hw:7<=r.abs.Where:=by
   simp only [Wy,V7,decide_eq_true_eq] at h1;exact h1.1.1.1.1
  exact .inr (.inl ⟨Xj _,⟨o4 h (by omega),h.2.2.1.2⟩,.inl ⟨by decide,by decide,rfl⟩⟩)
theorem Sw (hin:r.abs.ins=true) (hz:(Lt.ld r.abs l).1=0):Rel 0 r (Lt.ld r.abs l).2:=by
 have hw:3<=r.abs.Where:=by
  unfold Lt.Read.ins at hin;simp at hin; omega
 unfold Lt.ld at hz ⊢;split at hz
 ·exact .inr (.inl ⟨Xj _,⟨o4 h hw,h.2.2.1.2⟩,.inr ⟨rfl,rfl⟩⟩)
 ·simp at hz
end
theorem zJ {r:Lt.Reader} {x y:Int×Lt.Read} {w:Int} (h1:x.1=y.1) (h2:x.1=0->x.2=y.2):Lt.fi r x w=Lt.fi r y w:=by
 unfold Lt.fi;rw [<- h1];split
 ·rename_i h; rw [h2 h]
 ·rfl
theorem Qo {l:List (List UInt8)} (h:Lt.w0 l=Lt.gm\/Lt.w0 l=Lt.dD\/Lt.w0 l=Lt.tQ\/Lt.w0 l=Lt.tx):Lt.mZ l=Lt.dl l:=by
 unfold Lt.mZ;by_cases h3:Lt.w0 l=Lt.gm\/Lt.w0 l=Lt.dD\/Lt.w0 l=Lt.tQ
 ·rw [if_pos h3]
 ·have e:Lt.w0 l=Lt.tx:=by
   rcases h with h | h | h | h
   ·exact absurd (.inl h) h3
   ·exact absurd (.inr (.inl h)) h3
   ·exact absurd (.inr (.inr h)) h3
   ·exact h
  rw [if_neg h3];unfold Lt.dl;rw [if_neg (fun e=>h3 (.inl e)),if_neg (fun e=>h3 (.inr (.inl e))),if_neg (fun e=>h3 (.inr (.inr e))),if_pos e]
theorem Ln (r:Lt.Reader) (l:List (List UInt8)) (h:r.inv):∃ w,Lt.og r l=Lt.fi r (Lt.aO r.abs l r.first) w/\((Lt.aO r.abs l r.first).1=0->Rel w r (Lt.aO r.abs l r.first).2):=by
 have ff:∀ x:Lt.Read,¬ (((false,(0:Int)),x).1.1=true):=fun x=>by simp
 unfold Lt.og;by_cases hs:Lt.sEq l=true
 ·have e:Lt.aO r.abs l r.first=Lt.bt r.abs l:=by unfold Lt.aO; rw [if_pos hs]
  rw [e,if_pos hs]; exact ⟨_,rfl,C3 h⟩
 rw [if_neg hs];by_cases n0:Lt.w0 l=Lt.UV
 ·have e:Lt.aO r.abs l r.first=if (r.first&&decide (l.length=1))=false then (3,r.abs) else (0,{ r.abs with P:={ r.p with SSA:=true } }):=by unfold Lt.aO; rw [if_neg hs,if_pos n0]; rfl
  rw [e,if_pos n0];refine ⟨_,rfl,fun hz=>?_⟩;split at hz
  ·simp at hz
  ·rename_i hc;rw [if_neg hc];exact .inr (.inr ⟨Xj _,rfl,rfl,rfl⟩)
 rw [if_neg n0];have e0:Lt.aO r.abs l r.first=if (Lt.bD r.abs l).1.1 then ((Lt.bD r.abs l).1.2,(Lt.bD r.abs l).2) else if (Lt.bH r.abs l).1.1 then ((Lt.bH r.abs l).1.2,(Lt.bH r.abs l).2) else if (Lt.bf r.abs l).1.1 then ((Lt.bf r.abs l).1.2,(Lt.bf r.abs l).2) else Lt.bt r.abs l:=by
  unfold Lt.aO; rw [if_neg hs,if_neg n0]
 rw [e0];unfold Lt.bD;by_cases n1:Lt.w0 l=Lt.Id
 ·rw [if_pos n1,if_pos n1]; exact ⟨_,rfl,Nh⟩
 rw [if_neg n1,if_neg n1];by_cases n2:Lt.w0 l=Lt.Gv
 ·rw [if_pos n2,if_pos n2]; exact ⟨_,rfl,Na⟩
 rw [if_neg n2,if_neg n2];by_cases n3:Lt.w0 l=Lt.BE
 ·rw [if_pos n3,if_pos n3]; exact ⟨_,rfl,G5⟩
 rw [if_neg n3,if_neg n3];by_cases n4:Lt.w0 l=Lt.BX
 ·rw [if_pos n4,if_pos n4]; exact ⟨_,rfl,IA⟩
 rw [if_neg n4,if_neg n4];by_cases n5:Lt.w0 l=Lt.Oj
 ·rw [if_pos n5,if_pos n5]; exact ⟨_,rfl,Ny⟩
 rw [if_neg n5,if_neg n5,if_neg (ff _)];unfold Lt.bH;by_cases n6:Lt.w0 l=Lt.Gc
 ·rw [if_pos n6,if_pos n6]; exact ⟨_,rfl,Mx⟩
 rw [if_neg n6,if_neg n6];by_cases n7:Lt.w0 l=Lt.Uz
 ·rw [if_pos n7,if_pos n7]; exact ⟨_,rfl,Ro h⟩
 rw [if_neg n7,if_neg n7];by_cases n8:Lt.w0 l=Lt.GS
 ·rw [if_pos n8,if_pos n8]; exact ⟨_,rfl,MZ h⟩
 rw [if_neg n8,if_neg n8];by_cases n9:Lt.w0 l=Lt.Tz
 ·rw [if_pos n9,if_pos n9]; exact ⟨_,rfl,R0 h⟩
 rw [if_neg n9,if_neg n9,if_neg (ff _)];have eS:(Lt.w0 l=Lt.kAt\/Lt.w0 l=Lt.Gy\/Lt.w0 l=Lt.gm\/Lt.w0 l=Lt.dD\/Lt.w0 l=Lt.tQ\/Lt.w0 l=Lt.tx)->Lt.bf r.abs l=if r.abs.ins=false then ((true,3),r.abs) else if Lt.w0 l=Lt.kAt then ((true,(Lt.sAt r.abs l).1),(Lt.sAt r.abs l).2) else if Lt.w0 l=Lt.Gy then ((true,(Lt.l8 r.abs l).1),(Lt.l8 r.abs l).2) else ((true,(Lt.ld r.abs l).1),(Lt.ld r.abs l).2):=fun hh=>by
  unfold Lt.bf; rw [if_pos hh]
 by_cases n10:Lt.w0 l=Lt.kAt
 ·rw [if_pos n10,eS (.inl n10)];by_cases hin:r.abs.ins=false
  ·rw [if_pos hin];refine ⟨6,?_,fun hz=>by simp at hz⟩;have:(Lt.sAt r.abs l).1=3:=by
    have:decide (r.abs.Where=7)=false:=by
     unfold Lt.Read.ins at hin;simp at hin; simp; omega
    unfold Lt.sAt;rw [this]; rfl
   exact zJ this (fun hz=>by rw [this] at hz; simp at hz)
  ·rw [if_neg hin,if_pos n10]; exact ⟨_,rfl,UN h⟩
 rw [if_neg n10];by_cases n11:Lt.w0 l=Lt.Gy
 ·rw [if_pos n11,eS (.inr (.inl n11))];by_cases hin:r.abs.ins=false
  ·unfold Lt.lF;rw [if_pos hin,if_pos hin];exact ⟨7,rfl,fun hz=>by simp at hz⟩
  ·unfold Lt.lF;rw [if_neg hin,if_neg hin,if_neg n10,if_pos n11]; exact ⟨_,rfl,SV h⟩
 rw [if_neg n11];by_cases n12:Lt.w0 l=Lt.gm\/Lt.w0 l=Lt.dD\/Lt.w0 l=Lt.tQ\/Lt.w0 l=Lt.tx
 ·rw [if_pos n12,eS (.inr (.inr n12))];by_cases hin:r.abs.ins=false
  ·unfold Lt.yr;rw [if_pos hin,if_pos hin];exact ⟨0,rfl,fun hz=>by simp at hz⟩
  ·unfold Lt.yr;rw [if_neg hin,if_neg hin,if_neg n10,if_neg n11,Qo n12];refine ⟨0,zJ ?_ ?_,Sw h (by simpa using hin)⟩
   ·unfold Lt.ld; cases Lt.dl l <;> rfl
   ·unfold Lt.ld; cases Lt.dl l
    ·intro hz; simp at hz
    ·intro _; rfl
 have eN:Lt.bf r.abs l=((false,0),r.abs):=by
  unfold Lt.bf; rw [if_neg (fun hh=>hh.elim n10 (fun hh=>hh.elim n11 n12))]
 rw [if_neg n12,eN,if_neg (ff _)];exact ⟨_,rfl,C3 h⟩
def Sim (a b:Lt.Read):Prop:=a.P=b.P/\(a=b\/(a.Where<=2/\b.Where<=2/\(a.Where=1 ↔ b.Where=1)))
theorem Lf {P:Lt.Program} {w n m:Int} (h:Lt.Inv ⟨P,w,n⟩) (hw:w<=2):Lt.Inv ⟨P,w,m⟩:=
 ⟨h.1,h.2.1,h.2.2.1,h.2.2.2.1,h.2.2.2.2.1,fun h3=>absurd h3 (by show ¬ 3<=w; omega)⟩
def gN (r:Lt.Reader) (w:Int) (x:Lt.Read):Lt.Reader:=⟨x.P,r.at_,w,false,if r.heads<hd x.P then -1 else x.Long⟩
theorem L0 {r:Lt.Reader} {w:Int} {x:Lt.Read} (h:r.inv) (hx:Lt.Inv x) (hr:Rel w r x):(gN r w x).inv/\Sim (gN r w x).abs x:=by
 obtain ⟨P,W,n⟩:=x;obtain ⟨hi,hw,hl,hlw⟩:=h;rcases hr with ⟨h1,⟨rfl,h2⟩ | ⟨rfl,h2⟩⟩ | ⟨h1,h2,⟨h3,h4,h5⟩ | ⟨rfl,h3⟩⟩ | ⟨h1,rfl,h3,h4⟩
 ·have h2:W=1:=h2
  subst h2;have e:(gN r 1 ⟨P,1,n⟩)=⟨P,r.at_,1,false,-1⟩:=by unfold gN; rw [if_pos h1]
  rw [e];exact ⟨⟨show Lt.Inv ⟨P,1,-1⟩ from Lf hx (by decide),show (0:Int)<=1/\(1:Int)<=7 by decide,show (-1:Int) <= -1/\(-1:Int)<=1024 by decide,by simp⟩,rfl,.inr ⟨by simp [Lt.Reader.abs],by simp,by simp [Lt.Reader.abs]⟩⟩
 ·have h2:W=2:=h2
  subst h2;have e:(gN r 0 ⟨P,2,n⟩)=⟨P,r.at_,0,false,-1⟩:=by unfold gN; rw [if_pos h1]
  rw [e];exact ⟨⟨show Lt.Inv ⟨P,2,-1⟩ from Lf hx (by decide),show (0:Int)<=0/\(0:Int)<=7 by decide,show (-1:Int) <= -1/\(-1:Int)<=1024 by decide,by simp [Lt.Reader.abs]⟩,rfl,.inr ⟨by simp [Lt.Reader.abs],by simp,by simp [Lt.Reader.abs]⟩⟩
 ·have h5:W=w+1:=h5
  have h2:0<=n/\n<=1024:=h2
  have e:(gN r w ⟨P,W,n⟩)=⟨P,r.at_,w,false,n⟩:=by unfold gN; rw [if_neg h1]
  have ea:(⟨P,r.at_,w,false,n⟩:Lt.Reader).abs=⟨P,W,n⟩:=by
   unfold Lt.Reader.abs; dsimp only; rw [if_neg (by omega),if_neg (by omega),h5]
  rw [e];refine ⟨⟨by rw [ea]; exact hx,⟨by show 0<=w; omega,h4⟩,⟨by show -1<=n; omega,h2.2⟩,?_⟩,by rw [ea]; exact ⟨rfl,.inl rfl⟩⟩;rw [ea];show 0<=n ↔ w≠1/\W≠2
  omega
 ·have h3:W=9:=h3
  have h2:0<=n/\n<=1024:=h2
  have e:(gN r 0 ⟨P,W,n⟩)=⟨P,r.at_,0,false,n⟩:=by unfold gN; rw [if_neg h1]
  have ea:(⟨P,r.at_,0,false,n⟩:Lt.Reader).abs=⟨P,W,n⟩:=by
   unfold Lt.Reader.abs; dsimp only; rw [if_pos rfl,if_pos h2.1,h3]
  rw [e];refine ⟨⟨by rw [ea]; exact hx,show (0:Int)<=0/\(0:Int)<=7 by decide,⟨by show -1<=n; omega,h2.2⟩,?_⟩,by rw [ea]; exact ⟨rfl,.inl rfl⟩⟩;rw [ea];show 0<=n ↔ (0:Int)≠1/\W≠2
  omega
 ·have h4:n=r.long:=h4
  have h3:W=r.abs.Where:=h3
  have e:(gN r r.where_ ⟨P,W,n⟩)=⟨P,r.at_,r.where_,false,n⟩:=by unfold gN; rw [if_neg h1]
  have ea:(⟨P,r.at_,r.where_,false,n⟩:Lt.Reader).abs=⟨P,W,n⟩:=by rw [h3,h4]; rfl
  rw [e];refine ⟨⟨by rw [ea]; exact hx,hw,by rw [h4]; exact hl,?_⟩,by rw [ea]; exact ⟨rfl,.inl rfl⟩⟩;rw [ea,h3,h4]; exact hlw
theorem RI (r:Lt.Reader) (l:List (List UInt8)) (h:r.inv):∃ w,Lt.tz r l=(if (Lt.aO r.abs l r.first).1=0 then (.ok (),gN r w (Lt.aO r.abs l r.first).2) else (.error (Lt.flt (Lt.aO r.abs l r.first).1),r)) /\
  ((Lt.aO r.abs l r.first).1=0->(gN r w (Lt.aO r.abs l r.first).2).inv/\Sim (gN r w (Lt.aO r.abs l r.first).2).abs (Lt.aO r.abs l r.first).2):=by
 obtain ⟨w,h1,h2⟩:=Ln r l h;refine ⟨w,?_,fun hz=>L0 h (vg h.1 hz) (h2 hz)⟩;unfold Lt.tz;rw [h1];unfold Lt.fi;by_cases hz:(Lt.aO r.abs l r.first).1=0
 ·rw [if_pos hz,if_pos hz]; rfl
 ·rw [if_neg hz,if_neg hz]
end Go.Am
end

section
namespace Go.Am
open Go
theorem TF:∀ (s:List UInt8) (k:Lt.Cut) (B:Nat),(∀ x∈k.out,x.Words≠[]/\x.Words.length<=B)->k.l.length+s.length+1<=B->∀ x∈(Lt.cD s k).1,x.Words≠[]/\x.Words.length<=B
 | s,k,B=>by
  have hw:∀ k:Lt.Cut,k.word.l.length<=k.l.length+1/\k.word.out=k.out:=by
   intro k;refine ⟨?_,rfl⟩;unfold Lt.Cut.word;dsimp only;split
   ·omega
   ·simp
  have hline:∀ k:Lt.Cut,(∀ x∈k.out,x.Words≠[]/\x.Words.length<=B)->k.l.length+1<=B->∀ x∈k.line.out,x.Words≠[]/\x.Words.length<=B:=by
   intro k h hl x hx;unfold Lt.Cut.line at hx;dsimp only at hx;split at hx
   ·exact h x hx
   ·rename_i hne;rcases WT.1 hx with hx | hx
    ·exact h x hx
    ·rw [WJ.1 hx];exact ⟨hne,by have:=(hw k).1; show k.word.l.length<=B; omega⟩
  have hbyte:∀ (k:Lt.Cut) (c:UInt8),(k.byte c).l.length<=k.l.length+1/\(k.byte c).out=k.out:=by
   intro k c;unfold Lt.Cut.byte;split
   ·exact hw k
   ·split
    ·exact hw k
    ·exact ⟨by show k.l.length<=_; omega,rfl⟩
  induction s generalizing k with
  | nil=>
   intro h hl x hx;rw [Lt.cD] at hx;split at hx
   ·cases hx
   ·exact hline k h (by simp at hl; omega) x hx
  | cons c r ih=>
   intro h hl x hx;have hl':k.l.length+(r.length+1)+1<=B:=hl
   rw [Lt.cD] at hx;split at hx
   ·split at hx
    ·cases hx
    ·exact ih k.line (hline k h (by omega)) (by show 0+r.length+1<=B; omega) x hx
   ·have hb:=hbyte k c
    exact ih (k.byte c) (by rw [hb.2]; exact h) (by omega) x hx
theorem CQ (s:List UInt8):∀ x∈(Lt.bV s).1,x.Words≠[]/\x.Words.length<=1099511627776:=by
 intro x hx;unfold Lt.bV at hx;split at hx
 ·cases hx
 ·rename_i hc;exact TF s _ _ (by simp) (by simp; omega) x hx
theorem IU (s:List UInt8) (KK:Lt.Program×Int×Int->Prop) (h:KK (Lt.oA s)):wb s KK:=by
 unfold wb; dsimp only;unfold Lt.oA at h;have hok:=CQ s
 generalize Lt.bV s=S at h hok ⊢;obtain ⟨L,at_,why⟩:=S;dsimp only at h hok ⊢;refine ifk (fun hc=>?_) (fun hc=>?_)
 ·rw [if_neg (by simpa using hc)] at h; exact h
 rw [if_pos (by simpa using hc)] at h;refine qB (fun hl=>?_);refine bJ _ L.length (fun i x=>∃ r,x=((i:Int),r)/\Lt.Inv r/\KK (Lt.jt (L.drop i) (decide ((i:Int)=0)) r)) (fun R i x hi hx hR=>?_) (fun R x hx=>?_) _ ⟨_,rfl,Vt,h⟩
 ·obtain ⟨r,rfl,hI,hk⟩:=hx;simp only [fj hi,if_true,Int.toNat_natCast];obtain ⟨o1,o2⟩:=hok _ (iH L hi);refine ⟨⟨We i,hi⟩,⟨hI,o1,o2⟩,?_⟩;rw [Wm hi] at hk;have e:L.getD i default=L[i]:=by rw [List.getD,V8 hi]; rfl
  rw [<- e,Lt.jt] at hk;refine ifk (fun hc=>?_) (fun hc=>hR _ ⟨_,by rw [aQ (by omega)],?_,?_⟩)
  ·rw [if_neg (by simpa using hc)] at hk;exact ⟨⟨We i,hi⟩,hk⟩
  ·exact vg hI (by simpa using hc)
  ·rw [if_pos (by simpa using hc)] at hk;have e0:decide (((i+1:Nat):Int)=0)=false:=by simp; omega
   rw [e0]; exact hk
 ·obtain ⟨r,rfl,hI,hk⟩:=hx;simp only [gF,V9,if_false];rw [Xd,Lt.jt] at hk;simp only [aV,ac];have eo:r.out=(decide (r.Where<=2)||decide (r.Where=9)):=rfl
  rw [eo] at hk;cases h1:decide (r.Where<=2) with
  | true=>rw [h1] at hk; simpa using hk
  | false=>
   rw [h1] at hk;cases h2:decide (r.Where=9) with
   | true=>rw [h2] at hk; simpa using hk
   | false=>rw [h2] at hk; simpa using hk
end Go.Am
end

section
namespace Go.Am
open Go
theorem vF {p:Lt.Program} (h1:p.Classes.length<=8) (h2:p.Globals.length<=8) (h3:p.Externs.length<=8) :
  (IntKind.i64.wrap ((IntKind.i64.wrap ((p.Classes.length:Int)+(p.Globals.length:Int)))+(p.Externs.length:Int)))=((hd p:Nat):Int):=by
 rw [wrap_i64 (n:=(p.Classes.length:Int)+_) (by omega) (by omega),wrap_i64 (by omega) (by omega)];unfold hd; omega
def V4 (r:Lt.Reader) (X:Except Value Unit×Lt.Reader):Except Value Unit×Lt.Reader:=match X with
 | (.ok _,x)=>(.ok (),{ x with first:=false,long:=if r.heads<x.heads then -1 else x.long })
 | (.error v,x)=>(.error v,x)
theorem O1 {r:Lt.Reader} {l:List (List UInt8)} (hp:Lt.ap r l) {KK:Unit×Lt.Reader->Prop} {KP:Value->Lt.Reader->Prop} {X:Except Value Unit×Lt.Reader}
  (hX:X=Lt.og r l) (h:exP (Lt.tz r l) (fun z x=>KK (z,x)) KP):yGo r l KK KP X:=by
 obtain ⟨hinv,hne,hr⟩:=id hp;have hi:=hinv.1
 have b1:r.p.Classes.length<=8:=hi.2.1.1
 have b2:r.p.Globals.length<=8:=kC (k:=8) hi.2.2.1.1
 have b3:r.p.Externs.length<=8:=hi.2.1.2.1
 obtain ⟨w,h1,h2⟩:=Ln r l hinv;unfold yGo;rw [hX];refine fun _ _ _=>⟨hp,?_⟩
 have e:Lt.tz r l=V4 r (Lt.og r l):=rfl
 rw [e] at h;by_cases hz:(Lt.aO r.abs l r.first).1=0
 ·have hx:=vg hi hz
  have e1:Lt.og r l=(.ok (),⟨(Lt.aO r.abs l r.first).2.P,r.at_,w,r.first,(Lt.aO r.abs l r.first).2.Long⟩):=by
   rw [h1]; unfold Lt.fi; rw [if_pos hz]
  rw [e1] at h ⊢;generalize (Lt.aO r.abs l r.first).2=x at hx h ⊢;have c1:x.P.Classes.length<=8:=hx.2.1.1
  have c2:x.P.Globals.length<=8:=kC (k:=8) hx.2.2.1.1
  have c3:x.P.Externs.length<=8:=hx.2.1.2.1
  show aa _ _
  simp only [aq,aV,ac];refine fun _ _ _=>?_
  rw [vF b1 b2 b3,vF c1 c2 c3];refine ifk (fun c=>?_) (fun c=>?_)
  ·have c:r.heads<hd x.P:=by simp at c; exact c
   have h:KK ((),⟨x.P,r.at_,w,false,if r.heads<hd x.P then -1 else x.Long⟩):=h
   rw [if_pos c] at h; exact h
  ·have c:¬ r.heads<hd x.P:=fun e=>c (by simpa using (show hd r.p<hd x.P from e))
   have h:KK ((),⟨x.P,r.at_,w,false,if r.heads<hd x.P then -1 else x.Long⟩):=h
   rw [if_neg c] at h; exact h
 ·have e1:Lt.og r l=(.error (Lt.flt (Lt.aO r.abs l r.first).1),r):=by
   rw [h1]; unfold Lt.fi; rw [if_neg hz]
  rw [e1] at h ⊢;exact h
theorem Ri {r:Lt.Reader} {l:List (List UInt8)} (hp:Lt.ap r l) {KK:Unit×Lt.Reader->Prop} {KP:Value->Lt.Reader->Prop} {X:Except Value Unit×Lt.Reader}
  (hX:(if Lt.sEq l then Lt.qM r l else X)=Lt.og r l) (h:exP (Lt.tz r l) (fun z x=>KK (z,x)) KP):lh r l KK KP X:=by
 have es:((decide (2 < (l.length:Int)))&&(decide ((l.getD 1 default)=[61])))=Lt.sEq l:=by
  unfold Lt.sEq; rw [show decide (2 < (l.length:Int))=decide (2<l.length) from decide_eq_decide.2 (by omega)]
 refine fun J3 hJ3=>?_
 have hE:=hJ3 (Lt.sEq l) ?_
 ·refine fun _=>ifk (fun hc=>⟨⟨by decide,by simp at hc; omega⟩,?_⟩) (fun hc=>?_)
  ·rw [<- es,hc,Wv] at hE; exact hE
  ·rw [<- es,Wn.2 hc,WO] at hE; exact hE
 refine ifk (fun hs=>?_) (fun hs=>?_)
 ·rw [if_pos hs] at hX; exact O1 hp hX h
 ·rw [if_neg hs] at hX; exact O1 hp hX h
theorem Mi (r:Lt.Reader) (l:List (List UInt8)) (hp:Lt.ap r l) (KK:Unit×Lt.Reader->Prop) (KP:Value->Lt.Reader->Prop) (h:exP (Lt.tz r l) (fun z x=>KK (z,x)) KP):Br r l KK KP:=by
 unfold Br;refine ⟨⟨by decide,WK.2 hp.2.1⟩,?_⟩;have go:∀ X,(if Lt.sEq l then Lt.qM r l else X)=Lt.og r l->lh r l KK KP X:=fun X hX=>Ri hp hX h
 clear h;unfold Lt.og at go;by_cases hs:Lt.sEq l=true
 ·simp only [if_pos hs,forall_const] at go;simp only [go,ite_self]
 ·simp only [if_neg hs] at go;simp only [decide_eq_true_eq,show l.getD 0 default=Lt.w0 l from rfl];refine ifk (fun c0=>go _ (by rw [if_pos c0])) (fun c0=>?_);rw [if_neg c0] at go;refine ifk (fun c1=>go _ (by rw [if_pos c1])) (fun c1=>?_);rw [if_neg c1] at go;refine ifk (fun c2=>go _ (by rw [if_pos c2])) (fun c2=>?_);rw [if_neg c2] at go;refine ifk (fun c3=>go _ (by rw [if_pos c3])) (fun c3=>?_);rw [if_neg c3] at go;refine ifk (fun c4=>go _ (by rw [if_pos c4])) (fun c4=>?_);rw [if_neg c4] at go;refine ifk (fun c5=>go _ (by rw [if_pos c5])) (fun c5=>?_);rw [if_neg c5] at go;refine ifk (fun c6=>go _ (by rw [if_pos c6])) (fun c6=>?_);rw [if_neg c6] at go;refine ifk (fun c7=>go _ (by rw [if_pos c7])) (fun c7=>?_);rw [if_neg c7] at go;refine ifk (fun c8=>go _ (by rw [if_pos c8])) (fun c8=>?_);rw [if_neg c8] at go;refine ifk (fun c9=>go _ (by rw [if_pos c9])) (fun c9=>?_);rw [if_neg c9] at go;refine ifk (fun c10=>go _ (by rw [if_pos c10])) (fun c10=>?_);rw [if_neg c10] at go;refine ifk (fun c11=>go _ (by rw [if_pos c11])) (fun c11=>?_);rw [if_neg c11] at go;refine ifk (fun c=>go _ (by rw [if_pos (.inl c)])) (fun c12=>?_);refine ifk (fun c=>go _ (by rw [if_pos (.inr (.inl c))])) (fun c13=>?_);refine ifk (fun c=>go _ (by rw [if_pos (.inr (.inr (.inl c)))])) (fun c14=>?_);refine ifk (fun c=>go _ (by rw [if_pos (.inr (.inr (.inr c)))])) (fun c15=>?_);exact go _ (by rw [if_neg (fun hh=>hh.elim c12 (fun hh=>hh.elim c13 (fun hh=>hh.elim c14 c15)))])
theorem Sim.out {a b:Lt.Read} (h:Sim a b):a.out=b.out:=by
 rcases h with ⟨_,rfl | ⟨h1,h2,_⟩⟩
 ·rfl
 ·unfold Lt.Read.out; simp [h1,h2]
theorem N8 {a b:Lt.Read} (h:Sim a b) (l:List (List UInt8)) (first:Bool):(Lt.aO a l first).1=(Lt.aO b l first).1/\Sim (Lt.aO a l first).2 (Lt.aO b l first).2:=by
 obtain ⟨hP,rfl | ⟨h1,h2,h3⟩⟩:=h
 ·exact ⟨rfl,rfl,.inl rfl⟩
 obtain ⟨P,w,n⟩:=a;obtain ⟨P',w',n'⟩:=b;have hP:P=P':=hP
 subst hP;have h1:w<=2:=h1
 have h2:w'<=2:=h2
 have h3:w=1 ↔ w'=1:=h3
 have s:∀ p:Lt.Program,Sim ⟨p,w,n⟩ ⟨p,w',n'⟩:=fun p=>⟨rfl,.inr ⟨h1,h2,h3⟩⟩
 have oa:(⟨P,w,n⟩:Lt.Read).out=true:=by unfold Lt.Read.out; simp [h1]
 have ob:(⟨P,w',n'⟩:Lt.Read).out=true:=by unfold Lt.Read.out; simp [h2]
 have ia:(⟨P,w,n⟩:Lt.Read).ins=false:=by unfold Lt.Read.ins; simp; omega
 have ib:(⟨P,w',n'⟩:Lt.Read).ins=false:=by unfold Lt.Read.ins; simp; omega
 have w1:decide (w=1)=decide (w'=1):=decide_eq_decide.2 h3
 have d3:decide (w=3)=false:=by simp; omega
 have d3':decide (w'=3)=false:=by simp; omega
 have d4:decide (w=4)=false:=by simp; omega
 have d4':decide (w'=4)=false:=by simp; omega
 have d5:decide (w=5)=false:=by simp; omega
 have d5':decide (w'=5)=false:=by simp; omega
 have d9:decide (w=9)=false:=by simp; omega
 have d9':decide (w'=9)=false:=by simp; omega
 have hc:(Lt.bt ⟨P,w,n⟩ l).1=(Lt.bt ⟨P,w',n'⟩ l).1/\Sim (Lt.bt ⟨P,w,n⟩ l).2 (Lt.bt ⟨P,w',n'⟩ l).2:=by
  unfold Lt.bt;rw [if_pos ia,if_pos ib];split <;> exact ⟨rfl,s P⟩
 have hh:(Lt.bD ⟨P,w,n⟩ l).1=(Lt.bD ⟨P,w',n'⟩ l).1/\Sim (Lt.bD ⟨P,w,n⟩ l).2 (Lt.bD ⟨P,w',n'⟩ l).2:=by
  unfold Lt.bD;split
  ·unfold Lt.eP;simp only [oa,ob];split
   ·exact ⟨rfl,s P⟩
   ·split
    ·exact ⟨rfl,s P⟩
    ·exact ⟨rfl,rfl,.inr ⟨show (1:Int)<=2 by decide,show (1:Int)<=2 by decide,by simp⟩⟩
  split
  ·unfold Lt.fD;simp only [w1];split
   ·exact ⟨rfl,s P⟩
   ·split
    ·exact ⟨rfl,s P⟩
    ·exact ⟨rfl,s _⟩
  split
  ·unfold Lt.dB;simp only [oa,ob];split
   ·exact ⟨rfl,s P⟩
   ·exact ⟨rfl,rfl,.inr ⟨show (2:Int)<=2 by decide,show (2:Int)<=2 by decide,by simp⟩⟩
  split
  ·unfold Lt.dg;simp only [oa,ob];split
   ·exact ⟨rfl,s P⟩
   ·exact ⟨rfl,rfl,.inr ⟨show (2:Int)<=2 by decide,show (2:Int)<=2 by decide,by simp⟩⟩
  split
  ·unfold Lt.iN;simp only [oa,ob];split
   ·exact ⟨rfl,s P⟩
   ·exact ⟨rfl,rfl,.inl rfl⟩
  ·exact ⟨rfl,s P⟩
 have hp:(Lt.bH ⟨P,w,n⟩ l).1=(Lt.bH ⟨P,w',n'⟩ l).1/\Sim (Lt.bH ⟨P,w,n⟩ l).2 (Lt.bH ⟨P,w',n'⟩ l).2:=by
  unfold Lt.bH;split
  ·unfold Lt.eQ;simp only [d3,d3',WO,if_true];exact ⟨trivial,s P⟩
  split
  ·unfold Lt.lu;simp only [d3,d3',d4,d4',Xg,WO,if_true];exact ⟨trivial,s P⟩
  split
  ·unfold Lt.dS;simp only [d3,d3',d4,d4',d9,d9',Xg,WO,if_true];exact ⟨trivial,s P⟩
  split
  ·unfold Lt.l5;simp only [d5,d5',WO,if_true];exact ⟨trivial,s P⟩
  ·exact ⟨rfl,s P⟩
 have ht:(Lt.bf ⟨P,w,n⟩ l).1=(Lt.bf ⟨P,w',n'⟩ l).1/\Sim (Lt.bf ⟨P,w,n⟩ l).2 (Lt.bf ⟨P,w',n'⟩ l).2:=by
  unfold Lt.bf;rw [if_pos ia,if_pos ib];split <;> exact ⟨rfl,s P⟩
 unfold Lt.aO;split
 ·exact hc
 split
 ·split
  ·exact ⟨rfl,s P⟩
  ·exact ⟨rfl,s _⟩
 rw [hh.1];split
 ·exact ⟨rfl,hh.2⟩
 rw [hp.1];split
 ·exact ⟨rfl,hp.2⟩
 rw [ht.1];split
 ·exact ⟨rfl,ht.2⟩
 ·exact hc
def c3 (n:Int):Prop:=n=0\/n=2\/n=3
theorem xe:c3 0:=.inl rfl
theorem MO:c3 2:=.inr (.inl rfl)
theorem m8:c3 3:=.inr (.inr rfl)
theorem xt (c:Prop) [Decidable c]:c3 (if c then 2 else 0):=by
 split
 ·exact MO
 ·exact xe
theorem JC (r:Lt.Read) (l:List (List UInt8)):c3 (Lt.bt r l).1:=by
 unfold Lt.bt;split
 ·exact m8
 split
 ·exact m8
 split
 ·exact m8
 split
 ·exact MO
 ·exact xe
theorem Sk (r:Lt.Read) (l:List (List UInt8)):c3 (Lt.bD r l).1.2:=by
 unfold Lt.bD;split
 ·unfold Lt.eP;split
  ·exact m8
  split
  ·exact MO
  ·exact xe
 split
 ·unfold Lt.fD;split
  ·exact m8
  split
  ·exact MO
  ·exact xe
 split
 ·unfold Lt.dB;split
  ·exact m8
  ·exact xt _
 split
 ·unfold Lt.dg;split
  ·exact m8
  ·exact xt _
 split
 ·unfold Lt.iN;split
  ·exact m8
  ·exact xt _
 ·exact xe
theorem Sq (r:Lt.Read) (l:List (List UInt8)):c3 (Lt.bH r l).1.2:=by
 unfold Lt.bH;split
 ·unfold Lt.eQ;split
  ·exact m8
  ·exact xt _
 split
 ·unfold Lt.lu;split
  ·exact m8
  ·exact xt _
 split
 ·unfold Lt.dS;split
  ·exact m8
  ·exact xt _
 split
 ·unfold Lt.l5;split
  ·exact m8
  split
  ·exact MO
  ·exact xe
 ·exact xe
theorem NG (r:Lt.Read) (l:List (List UInt8)):c3 (Lt.bf r l).1.2:=by
 unfold Lt.bf;split
 ·split
  ·exact m8
  split
  ·unfold Lt.sAt;split
   ·exact m8
   split
   ·exact MO
   ·exact xe
  split
  ·unfold Lt.l8;split
   ·exact m8
   ·exact xt _
  ·unfold Lt.ld;split
   ·exact xe
   ·exact m8
 ·exact xe
theorem Ia (r:Lt.Read) (l:List (List UInt8)) (b:Bool):c3 (Lt.aO r l b).1:=by
 unfold Lt.aO;split
 ·exact JC r l
 split
 ·split
  ·exact m8
  ·exact xe
 split
 ·exact Sk r l
 split
 ·exact Sq r l
 split
 ·exact NG r l
 ·exact JC r l
theorem Ua (r:Lt.Read) (l:List (List UInt8)) (b:Bool):(Lit.int .i64 (Lt.aO r l b).1).wf=true:=by
 rcases Ia r l b with e | e | e <;> rw [e] <;> decide
theorem I5 (s:List UInt8) (KK:Lt.Program×Int×Int->Prop) (h:KK (Lt.cR s)):vj s KK:=by
 unfold vj; dsimp only;unfold Lt.cR Lt.oA at h;have l1:(Lt.dN s).1=(Lt.bV s).1.map fun l=>(⟨l.N,l.Words⟩:Lt.Line):=rfl
 have l2:(Lt.dN s).2.1=(Lt.bV s).2.1:=rfl
 have l3:(Lt.dN s).2.2=(Lt.bV s).2.2:=rfl
 simp only [l1,l2,l3,ac,aj,and_self];refine ifk (fun hc=>?_) (fun hc=>?_)
 ·rw [if_neg (by simpa using hc)] at h; exact h
 rw [if_pos (by simpa using hc)] at h;have hok:=CQ s
 generalize (Lt.bV s).1=L at h hok;rw [Wc];refine fun hl=>?_
 refine bJ _ L.length (fun i x=>∃ r d,x=((i:Int),r)/\r.inv/\Sim r.abs d/\r.first=decide (i=0)/\KK (Lt.jt (L.drop i) (decide (i=0)) d)) (fun R i x hi hx hR=>?_) (fun R x hx=>?_) _ ⟨_,⟨⟨false,[],[],[],[]⟩,0,0⟩,rfl,⟨?_,by decide,by decide,by decide⟩,⟨rfl,.inr ⟨by decide,by decide,by decide⟩⟩,rfl,h⟩
 ·obtain ⟨r,d,rfl,hinv,hs,hf,hk⟩:=hx;have eg:(L.map fun l=>(⟨l.N,l.Words⟩:Lt.Line)).getD i default=⟨(L.getD i default).N,(L.getD i default).Words⟩:=by
   rw [List.getD,List.getD,Wa,V8 hi]; rfl
  simp only [fj hi,if_true,Int.toNat_natCast,eg];obtain ⟨hne,hlen⟩:=hok _ (iH L hi);rw [Wm hi,show L[i]=L.getD i default by rw [List.getD,V8 hi]; rfl,Lt.jt] at hk;generalize L.getD i default=ln at hk hne hlen ⊢;have hinv':(⟨r.p,ln.N,r.where_,r.first,r.long⟩:Lt.Reader).inv:=hinv
  obtain ⟨w,e1,e2⟩:=RI _ ln.Words hinv';have ea:(⟨r.p,ln.N,r.where_,r.first,r.long⟩:Lt.Reader).abs=r.abs:=rfl
  rw [ea] at e1 e2;have sl:=N8 hs ln.Words r.first
  rw [<- hf,<- sl.1] at hk;refine ⟨⟨We i,hi⟩,⟨hinv',hne,hlen⟩,?_⟩;rw [e1];by_cases hz:(Lt.aO r.abs ln.Words r.first).1=0
  ·rw [if_pos hz];rw [if_pos hz] at hk;obtain ⟨g1,g2⟩:=e2 hz;refine hR _ ⟨_,_,by rw [aQ (by omega)],g1,?_,by simp [gN],by simpa using hk⟩;obtain ⟨p1,p2⟩:=g2;obtain ⟨q1,q2⟩:=sl.2;refine ⟨p1.trans q1,?_⟩;rcases p2 with p2 | ⟨a1,a2,a3⟩
   ·rw [p2]; exact q2
   ·rcases q2 with q2 | ⟨b1,b2,b3⟩
    ·rw [<- q2]; exact .inr ⟨a1,a2,a3⟩
    ·exact .inr ⟨a1,b2,a3.trans b3⟩
  ·rw [if_neg hz];rw [if_neg hz] at hk;exact ⟨_,rfl,Ua _ _ _,hk⟩
 ·obtain ⟨r,d,rfl,hinv,hs,hf,hk⟩:=hx;rw [Xd,Lt.jt] at hk;simp only [gF,V9,if_false];rw [wH hinv.2.1,hs.out];cases ho:d.out with
  | true=>rw [ho,<- hs.1] at hk; exact hk
  | false=>rw [ho] at hk; exact ⟨3,rfl,by decide,hk⟩
 ·exact ⟨⟨by decide,by decide⟩,⟨by decide,by decide,by decide⟩,⟨rfl,rfl,rfl⟩,fun h=>absurd h (by decide),fun _=>rfl,fun h=>absurd h (by decide)⟩
end Go.Am
end

section
namespace Go.Am
open Go
theorem jX (n:Int):Lt.inR (IntKind.i64.wrap n):=kI n
def pR (n:Int) (c:UInt8):Int:=IntKind.i64.wrap ((IntKind.i64.wrap (n*10)) - (IntKind.i64.wrap (((UInt8.ofNat (IntKind.u8.wrap (((c.toNat:Nat):Int) - (((48:UInt8).toNat:Nat):Int))).toNat).toNat:Nat):Int)))
def rg (c:UInt8):Bool:=decide (48<=c.toNat)&&decide (c.toNat<=57)
theorem Kr {m:Nat} {c:UInt8} (h1:48<=c.toNat) (h2:c.toNat<=57) (h3:10*m+(c.toNat - 48)<=9223372036854775808):pR (-(m:Int)) c=-((10*m+(c.toNat - 48):Nat):Int):=by
 unfold pR;have e1:IntKind.u8.wrap (((c.toNat:Nat):Int) - (((48:UInt8).toNat:Nat):Int))=((c.toNat - 48:Nat):Int):=by
  have:(48:UInt8).toNat=48:=rfl
  rw [this];simp only [IntKind.wrap,IntKind.signed,IntKind.bits];simp;omega
 rw [e1,Int.toNat_natCast];have e2:(UInt8.ofNat (c.toNat - 48)).toNat=c.toNat - 48:=by simp; omega
 rw [e2,wrap_i64 (n:=-(m:Int)*10) (by omega) (by omega),wrap_i64 (n:=((c.toNat - 48:Nat):Int)) (by omega) (by omega),wrap_i64 (by omega) (by omega)];omega
theorem GQ:∀ (n:Nat),n<=9223372036854775808->(Lt.digs n).foldl pR 0=-(n:Int):=by
 intro n;induction n using Nat.strongRecOn with
 | _ n ih=>
  intro hn;have hd:∀ k:Nat,k < 10->(UInt8.ofNat (48+k)).toNat=48+k:=fun k hk=>by simp; omega
  by_cases h:n < 10
  ·rw [da h];show pR (-((0:Nat):Int)) _=_
   rw [Kr (by rw [hd n h]; omega) (by rw [hd n h]; omega) (by rw [hd n h]; omega),hd n h]; omega
  ·rw [iY h,fL,ih (n / 10) (by omega) (by omega)];have:=Xs n (show 10 > 0 by decide)
   rw [Kr (by rw [hd _ this]; omega) (by rw [hd _ this]; omega) (by rw [hd _ this]; omega),hd _ this]; omega
theorem zz:∀ (l:List UInt8) (b:Int),Lt.inR b->Lt.inR (l.foldl pR b)
 | [],b,h=>h
 | c::l,b,h=>zz l _ (jX _)
theorem Rg {s:List UInt8} (h:∀ n,Lt.inR n->Lt.aS n≠s):Lt.aD s=(0,false):=by
 unfold Lt.aD;rw [if_neg];exact h _ (kI _)
theorem AC {n:Int} (h:Lt.inR n) {s:List UInt8} (e:Lt.aS n=s):s≠[]/\s.length<=20 /\
  (∀ a:Nat,(if decide (s.getD 0 0=45)=true then (1:Int) else 0)=(a:Int)->(s.drop a).all rg=true/\(if decide ((a:Int)=0)=true then IntKind.i64.wrap (0 - (s.drop a).foldl pR 0) else (s.drop a).foldl pR 0)=n):=by
 have hl:=pz h
 have hne:=Bx n.natAbs
 have hdd:=pf n.natAbs
 unfold Lt.inR at h;have hf:=GQ n.natAbs (by omega)
 have ha:(Lt.digs n.natAbs).all rg=true:=by
  rw [Wj];intro c hc;have:=hdd c hc
  unfold rg; simp [this]
 refine ⟨by rw [<- e]; exact zc n,by rw [<- e]; omega,fun a hA=>?_⟩;by_cases hn:n < 0
 ·have e1:s=45::Lt.digs n.natAbs:=by rw [<- e]; unfold Lt.aS; rw [if_pos hn]; rfl
  rw [e1] at hA ⊢;have:a=1:=by
   rw [if_pos (by simp)] at hA; omega
  subst this;refine ⟨ha,?_⟩;rw [if_neg (by decide),List.drop_succ_cons,List.drop_zero,hf];omega
 ·have e1:s=Lt.digs n.natAbs:=by rw [<- e]; unfold Lt.aS; rw [if_neg hn]; rfl
  have h45:¬ s.getD 0 0=45:=by
   intro e2;rw [e1] at e2;cases hh:Lt.digs n.natAbs with
   | nil=>exact hne hh
   | cons b r=>
    rw [hh] at e2 hdd;have:=hdd b (by simp)
    have e2:b=45:=e2
    subst e2;simp at this
  have:a=0:=by
   rw [if_neg (by simpa using h45)] at hA; omega
  subst this;rw [List.drop_zero,e1];refine ⟨ha,?_⟩;rw [if_pos (by decide),hf,wrap_i64 (by omega) (by omega)];omega
theorem wm (c d:UInt8):decide ((((c.toNat:Nat):Int))=((d.toNat:Nat):Int))=decide (c=d):=by
 by_cases hc:c=d
 ·subst hc; simp
 ·have:c.toNat≠d.toNat:=fun e=>hc (UInt8.toNat_inj.1 e)
  simp only [hc,decide_false,decide_eq_false_iff_not]; omega
theorem Ix (s:List UInt8) (KK:Int×Bool->Prop) (h:KK (Lt.dc s)):wW s KK:=by
 unfold wW;unfold Lt.dc at h;have no:(∀ n,Lt.inR n->Lt.aS n≠s)->KK (0,false):=fun hn=>by rw [Rg hn] at h; exact h
 simp only [wm,ac,aj,aV,jval,bor];refine ifk (fun hc=>no (fun n hn e=>?_)) (fun hc=>?_)
 ·obtain ⟨h1,h2,_⟩:=AC hn e;simp only [Wq,decide_eq_true_eq] at hc;rcases hc with hc | hc
  ·exact h1 hc
  ·omega
 simp only [Wq,decide_eq_true_eq,not_or] at hc;have h0:0<s.length:=WK.2 hc.1
 refine ⟨⟨by decide,h0⟩,?_⟩;obtain ⟨a,hA,ha⟩:∃ a:Nat,(if decide (s.getD 0 0=45)=true then (1:Int) else 0)=(a:Int)/\a<=1:=by
  by_cases h45:s.getD 0 0=45
  ·exact ⟨1,by simp only [h45,decide_true,if_true]; rfl,Wb _⟩
  ·exact ⟨0,by simp only [h45,decide_false,V9,if_false]; rfl,by decide⟩
 have shape:∀ n,Lt.inR n->Lt.aS n=s->(s.drop a).all rg=true/\(if decide ((a:Int)=0)=true then IntKind.i64.wrap (0 - (s.drop a).foldl pR 0) else (s.drop a).foldl pR 0)=n:=fun n hn e=>(AC hn e).2.2 a hA
 rw [hA];refine bJ _ (s.length-a) (fun i x=>x=((((s.drop a).take i).foldl pR 0),((a+i:Nat):Int))/\((s.drop a).take i).all rg=true) (fun R i x hi hx hR=>?_) (fun R x hx=>?_) _ ⟨rfl,rfl⟩
 ·obtain ⟨rfl,hall⟩:=hx;have hlt:a+i<s.length:=by omega
  have hlt2:i < (s.drop a).length:=by rw [Wi]; omega
  have eg:(s.drop a).getD i default=s.getD (a+i) 0:=by rw [List.getD,Wt]; rfl
  have et:=dZ (s.drop a) hlt2
  rw [eg] at et;simp only [fj hlt,if_true,Int.toNat_natCast];have bad:¬ rg (s.getD (a+i) 0)=true->KK (0,false):=fun hd=>no (fun n hn e=>by
   have:=(shape n hn e).1
   rw [<- List.take_append_drop (i+1) (s.drop a),et] at this;simp only [WU,Wl,V7] at this;exact hd this.1.2.1)
  have e48:(48:UInt8).toNat=48:=rfl
  have e57:(57:UInt8).toNat=57:=rfl
  refine fun _=>⟨⟨by omega,hlt⟩,?_⟩
  refine ifk (fun c1=>bad ?_) (fun c1=>⟨⟨by omega,hlt⟩,ifk (fun c2=>bad ?_) (fun c2=>⟨⟨by omega,hlt⟩,hR _ ⟨?_,?_⟩⟩)⟩)
  ·rw [e48] at c1;unfold rg; simp at c1 ⊢; omega
  ·rw [e57] at c2;unfold rg; simp at c2 ⊢; omega
  ·rw [et,fL,aQ (by omega)]; rfl
  ·rw [e48] at c1; rw [e57] at c2;rw [et,WU,hall];simp at c1 c2;unfold rg; simp; omega
 ·obtain ⟨rfl,hall⟩:=hx;have e1:a+(s.length-a)=s.length:=by omega
  have e2:(s.drop a).take (s.length-a)=s.drop a:=Wu (by rw [Wi]; omega)
  rw [e2] at hall;rw [e1,e2];simp only [gF,V9,if_false];refine fun _=>?_
  have hin:Lt.inR (if decide ((a:Int)=0)=true then IntKind.i64.wrap (0 - (s.drop a).foldl pR 0) else (s.drop a).foldl pR 0):=by
   split
   ·exact jX _
   ·exact zz _ _ (by unfold Lt.inR; omega)
  generalize hv:(if decide ((a:Int)=0)=true then IntKind.i64.wrap (0 - (s.drop a).foldl pR 0) else (s.drop a).foldl pR 0)=v at hin shape ⊢;refine ⟨hin,?_⟩;by_cases hc:(!decide (Lt.aS v=s))=true
  ·rw [if_pos hc];refine no (fun n hn e=>?_);have:=(shape n hn e).2
   subst this;simp [e] at hc
  ·rw [if_neg hc];have e:Lt.aS v=s:=by simpa using hc
   rw [<- e,xy hin] at h;exact h
def ul:List UInt8:=[48,49,50,51,52,53,54,55,56,57,97,98,99,100,101,102]
theorem UR (c:UInt8):Lt.fC ul c < 0\/(0<=Lt.fC ul c/\Lt.fC ul c < 16/\jN (Lt.fC ul c).toNat=c):=by
 have:∀ k:Fin 256,Lt.fC ul (UInt8.ofNat k.1) < 0\/(0<=Lt.fC ul (UInt8.ofNat k.1)/\Lt.fC ul (UInt8.ofNat k.1) < 16/\jN (Lt.fC ul (UInt8.ofNat k.1)).toNat=UInt8.ofNat k.1):=by decide +kernel
 have h:=this ⟨c.toNat,c.toNat_lt⟩
 rw [UInt8.ofNat_toNat] at h;exact h
theorem Rm (k:Nat):¬ Lt.fC ul (jN k) < 0:=by
 have:∀ j:Fin 16,¬ Lt.fC ul (jN j.1) < 0:=by decide +kernel
 have h:=this ⟨k % 16,Xs _ (by decide)⟩
 have e:jN (k % 16)=jN k:=by unfold jN; rw [Nat.mod_mod]
 rw [<- e]; exact h
theorem T0 {u d:Nat} (hu:u < 1152921504606846976) (hd:d < 16) :
  (IntKind.u64.wrap ((BitVec.ofInt IntKind.u64.bits (IntKind.u64.wrap ((u:Int)*2 ^ (min (4:Int).toNat IntKind.u64.bits))) ||| BitVec.ofInt IntKind.u64.bits (IntKind.u64.wrap (d:Int))).toNat:Nat))=((16*u+d:Nat):Int):=by
 have e1:(u:Int)*2 ^ (min (4:Int).toNat IntKind.u64.bits)=((u*16:Nat):Int):=by
  have:min (4:Int).toNat IntKind.u64.bits=4:=by decide
  rw [this]; omega
 have w1:IntKind.u64.wrap ((u*16:Nat):Int)=((u*16:Nat):Int):=bL (by omega)
 have w2:IntKind.u64.wrap ((d:Nat):Int)=((d:Nat):Int):=bL (by omega)
 rw [e1,w1,w2];show IntKind.u64.wrap (((BitVec.ofInt 64 ((u*16:Nat):Int) ||| BitVec.ofInt 64 ((d:Nat):Int)).toNat:Nat):Int)=_
 have e2:∀ n:Nat,BitVec.ofInt 64 ((n:Nat):Int)=BitVec.ofNat 64 n:=fun n=>BitVec.ofInt_natCast ..
 rw [e2,e2,BitVec.toNat_or,BitVec.toNat_ofNat,BitVec.toNat_ofNat,Xn (by omega),Xn (by omega)];have e3:u*16 ||| d=16*u+d:=by
  have:=Nat.shiftLeft_add_eq_or_of_lt (i:=4) (b:=d) (by omega) u
  rw [Nat.shiftLeft_eq] at this;rw [show u*16=u*2 ^ 4 from rfl,<- this]; omega
 rw [e3,bL (by omega)]
theorem R8 {s:List UInt8} (h:∀ n,Lt.inR n->Lt.jR n≠s):Lt.eD s=(0,false):=by
 unfold Lt.eD;rw [if_neg];exact fun hc=>h _ (jX _) hc.2
theorem Px {a b:Nat} (ha:a < 18446744073709551616) (hb:b < 18446744073709551616) (h:Lt.g9 16 (a:Int) []=Lt.g9 16 (b:Int) []):a=b:=by
 have e1:=nf 16 a [] ha (by omega)
 have e2:=nf 16 b [] hb (by omega)
 rw [h,e2] at e1;have h16:(16:Nat) ^ 16=18446744073709551616:=by decide
 rw [h16,Xn ha,Xn hb] at e1;simp only [List.foldl_nil] at e1;omega
theorem GM (s:List UInt8) (KK:Int×Bool->Prop) (h:KK (Lt.sT s)):mQ s KK:=by
 unfold mQ;unfold Lt.sT at h;have no:(∀ n,Lt.inR n->Lt.jR n≠s)->KK (0,false):=fun hn=>by rw [R8 hn] at h; exact h
 have pre:∀ n,Lt.jR n=s->Lt.j0 s [48,102]=(Lt.g9 16 (IntKind.u64.wrap (Lt.bi n)) [],true):=by
  intro n e;rw [<- e]; rfl
 have hexs:∀ n,(Lt.g9 16 (IntKind.u64.wrap (Lt.bi n)) []).length=16/\∀ c∈Lt.g9 16 (IntKind.u64.wrap (Lt.bi n)) [],¬ Lt.fC ul c < 0:=by
  intro n;refine ⟨by rw [xL]; rfl,?_⟩;rw [gu,Ci 16 _ [] (BitVec.isLt _)];intro c hc;rw [XC] at hc;obtain ⟨i,_,rfl⟩:=WW.1 hc;exact Rm _
 have hp:(Lt.j0 s [48,102]).2=true->s=[48,102]++(Lt.j0 s [48,102]).1:=by
  unfold Lt.j0 Go.Lib.trimPrefix;intro hp;have hp:Go.Lib.hasPrefix s [48,102]=true:=hp
  rw [if_pos hp];obtain ⟨t,ht⟩:=List.isPrefixOf_iff_prefix.1 hp;rw [<- ht]; rfl
 change mQ s KK
 unfold mQ;rw [show ([48,49,50,51,52,53,54,55,56,57,97,98,99,100,101,102]:List UInt8)=ul from rfl];generalize Lt.j0 s [48,102]=cp at pre hp ⊢;obtain ⟨rest,ok⟩:=cp;simp only at hp ⊢
 simp only [ac,aj,aV,jval,bor];refine ifk (fun hc=>no (fun n hn e=>?_)) (fun hc=>?_)
 ·have hpe:=pre n e
  simp only [Prod.mk.injEq] at hpe;rw [hpe.1,hpe.2,(hexs n).1] at hc;simp at hc
 simp only [Wq,WH,decide_eq_false_iff_not,not_or,Decidable.not_not,Wy] at hc;have hs:=hp hc.1
 have h16:rest.length=16:=by omega
 refine fun _=>?_
 refine bJ _ 16 (fun i x=>∃ u:Nat,x=((u:Int),(i:Int))/\u < 16 ^ i/\∀ l,Lt.g9 i (u:Int) l=rest.take i++l) (fun R i x hi hx hR=>?_) (fun R x hx=>?_) _ ⟨0,rfl,by decide,fun l=>rfl⟩
 ·obtain ⟨u,rfl,hu,hl⟩:=hx;have hlt:i<rest.length:=by omega
  have et:rest.take (i+1)=rest.take i++[rest.getD i 0]:=dZ rest hlt
  have hm:rest.getD i 0∈rest:=iH rest hlt
  simp only [fj hlt,if_true,Int.toNat_natCast];refine ⟨⟨We i,hlt⟩,ifk (fun hc1=>no (fun n hn e=>?_)) (fun hc1=>⟨by decide,hR _ ?_⟩)⟩
  ·have hpe:=pre n e
   simp only [Prod.mk.injEq] at hpe;have hm':rest.getD i 0∈Lt.g9 16 (IntKind.u64.wrap (Lt.bi n)) []:=by rw [<- hpe.1]; exact hm
   exact (hexs n).2 _ hm' (by simpa using hc1)
  ·rcases UR (rest.getD i 0) with hneg | ⟨d0,d16,hd⟩
   ·exact absurd (decide_eq_true hneg) hc1
   have hp15:16 ^ i<=16 ^ 15:=Nat.pow_le_pow_right (by decide) (by omega)
   have h15:(16:Nat) ^ 15=1152921504606846976:=by decide
   obtain ⟨d,hdd⟩:=XI d0;rw [hdd] at hd d16 ⊢;rw [Int.toNat_natCast] at hd;refine ⟨16*u+d,?_,?_,fun l=>?_⟩
   ·rw [T0 (by omega) (by omega),aQ (by omega)]
   ·rw [Nat.pow_succ]; omega
   ·rw [Lt.g9,show Int.tdiv ((16*u+d:Nat):Int) 16=(((16*u+d) / 16:Nat):Int) from rfl,show (16*u+d) / 16=u by omega,bL (by omega),hl,Ce];have:jN (16*u+d)=jN d:=by unfold jN; congr 1; omega
    rw [this,hd,et]; simp
 ·obtain ⟨u,rfl,hu,hl⟩:=hx;have e16:(16:Nat) ^ 16=18446744073709551616:=by decide
  have hu:u < 18446744073709551616:=by omega
  have hr:=hl []
  rw [XC,Wu (by omega)] at hr;have ew:IntKind.u64.wrap (IntKind.i64.wrap (u:Int))=(u:Int):=by
   simp only [IntKind.wrap,IntKind.signed,IntKind.bits];simp;omega
  have e2:∀ n:Int,Lt.inR n->IntKind.i64.wrap (IntKind.u64.wrap n)=n:=by
   intro n hn;unfold Lt.inR at hn;simp only [IntKind.wrap,IntKind.signed,IntKind.bits];simp;omega
  rw [show decide (((16:Nat):Int) < (rest.length:Int))=false by simp; omega];simp only [V9,if_false];by_cases hc1:(!decide (Lt.Plain (IntKind.i64.wrap (u:Int))=IntKind.i64.wrap (u:Int)))=true
  ·rw [if_pos hc1];refine no (fun n hn e=>?_);have hpe:=pre n e
   simp only [Prod.mk.injEq] at hpe;have h1:=hpe.1
   rw [<- hr,gu] at h1;have h2:=Px hu (BitVec.isLt _) h1
   have h3:IntKind.i64.wrap (u:Int)=Lt.bi n:=by
    rw [h2,<- gu,e2 _ (zB hn)]
   have h4:Lt.bi (Lt.bi n)=Lt.bi n:=by
    unfold Lt.bi;by_cases h:Lt.oH n=true
    ·rw [if_pos h]; simp
    ·rw [if_neg h,if_neg h]
   rw [h3,<- kh,h4] at hc1;simp at hc1
  ·rw [if_neg hc1];have hpl:Lt.Plain (IntKind.i64.wrap (u:Int))=IntKind.i64.wrap (u:Int):=by simpa using hc1
   have e:Lt.jR (IntKind.i64.wrap (u:Int))=s:=by
    unfold Lt.jR;rw [kh,hpl,ew,hr,hs]
   rw [<- e,uQ (jX _),kh,hpl] at h;exact h
theorem LW {s:List UInt8} (h:(Lt.aD s).2=true):s≠[]/\∀ c∈s,c=45\/(48<=c.toNat/\c.toNat<=57):=by
 have e:=sa h
 exact ⟨by rw [<- e]; exact zc _,by rw [<- e]; exact CE _⟩
theorem CI {s:List UInt8}:Lt.inR (Lt.aD s).1:=by
 unfold Lt.aD;split
 ·exact kI _
 ·unfold Lt.inR; omega
theorem rX {s:List UInt8} (h:(Lt.eD s).2=true):(∃ r,s=48::102::r)/\Lt.Plain (Lt.eD s).1=(Lt.eD s).1/\Lt.oZ (Lt.eD s).1=s:=by
 unfold Lt.eD at h ⊢;split at h
 ·rename_i hc;rw [if_pos hc];have e:=uQ (n:=Lt.yZ s) (jX _)
  rw [hc.2] at e;unfold Lt.eD at e;rw [if_pos hc] at e;simp only [Prod.mk.injEq,and_true] at e;refine ⟨⟨_,by rw [<- hc.2]; rfl⟩,by rw [<- kh]; exact e.symm,?_⟩;rw [<- Bt]; exact hc.2
 ·cases h
theorem PF {s:List UInt8}:Lt.inR (Lt.eD s).1:=by
 unfold Lt.eD;split
 ·exact jX _
 ·unfold Lt.inR; omega
theorem Pv {n:Int}:Lt.bj ⟨5,[],n⟩=true ↔ 0<=n/\n<=999:=by
 unfold Lt.bj; simp
theorem RG (s:List UInt8):Lt.cM s=if Lt.Name s=true then (⟨1,s,0⟩,true) else if (Lt.aD s).2=true then (⟨2,[],(Lt.aD s).1⟩,true) else if (Lt.eD s).2=true then (⟨3,[],(Lt.eD s).1⟩,true)
  else if s=[110,117,108,108] then (⟨4,[],0⟩,true) else if s.getD 0 0=35/\(Lt.aD (s.drop 1)).2=true/\0<=(Lt.aD (s.drop 1)).1/\(Lt.aD (s.drop 1)).1<=999 then (⟨5,[],(Lt.aD (s.drop 1)).1⟩,true) else (⟨0,[],0⟩,false):=by
 unfold Lt.cM;rw [VZ];have t2:Lt.qO s ⟨2,[],(Lt.aD s).1⟩=(Lt.aD s).2:=by
  rw [Xi,fu,Vd];constructor
  ·intro ⟨_,e⟩;have:=xy (n:=(Lt.aD s).1) CI
   rw [e] at this;rw [this]
  ·intro h;exact ⟨rfl,sa h⟩
 have t3:Lt.qO s ⟨3,[],(Lt.eD s).1⟩=(Lt.eD s).2:=by
  rw [Xi,fu];constructor
  ·intro ⟨hr,e⟩;have hp:Lt.Plain (Lt.eD s).1=(Lt.eD s).1:=by unfold Lt.bj at hr; simpa using hr
   rw [S9 hp,<- Bt] at e;have:=uQ (n:=(Lt.eD s).1) PF
   rw [e] at this;rw [this]
  ·intro h;obtain ⟨_,hp,e⟩:=rX h;exact ⟨by unfold Lt.bj; simp [hp],by rw [S9 hp]; exact e⟩
 have t4:Lt.qO s ⟨4,[],0⟩=decide (s=[110,117,108,108]):=by
  rw [Xi,fu,Va,decide_eq_true_eq];exact ⟨fun h=>h.2.symm,fun h=>⟨rfl,h.symm⟩⟩
 have t5:Lt.qO s ⟨5,[],(Lt.aD (s.drop 1)).1⟩=decide (s.getD 0 0=35/\(Lt.aD (s.drop 1)).2=true/\0<=(Lt.aD (s.drop 1)).1/\(Lt.aD (s.drop 1)).1<=999):=by
  rw [Xi,fu,decide_eq_true_eq];constructor
  ·intro ⟨hr,e⟩;have hb:0<=(Lt.aD (s.drop 1)).1/\(Lt.aD (s.drop 1)).1<=999:=Pv.1 hr
   rw [SZ hb.1 hb.2] at e;have e1:s.drop 1=Lt.aS (Lt.aD (s.drop 1)).1:=(congrArg (List.drop 1) e).symm
   have:=xy (n:=(Lt.aD (s.drop 1)).1) CI
   rw [<- e1] at this;exact ⟨(congrArg (fun s=>List.getD s 0 0) e).symm,by rw [this],hb⟩
  ·intro ⟨h1,h2,h3,h4⟩;refine ⟨Pv.2 ⟨h3,h4⟩,?_⟩;rw [SZ h3 h4,sa h2];cases s with
   | nil=>simp at h1
   | cons a r=>
    have h1:a=35:=h1
    rw [h1]; rfl
 rw [t2,t3,t4,t5];simp only [decide_eq_true_eq]
theorem Df (s:List UInt8) (KK:Lt.Arg×Bool->Prop) (h:KK (Lt.kS s)):sG s KK:=by
 unfold sG;unfold Lt.kS at h;rw [RG] at h;have ed:(s.drop 1).take (s.length - 1)=s.drop 1:=Wu (by rw [Wi]; omega)
 have hnum:(Lt.aD s).2=true->∃ a r,s=a::r/\(a=45\/(48<=a.toNat/\a.toNat<=57))/\∀ c∈r,c=45\/(48<=c.toNat/\c.toNat<=57):=by
  intro hn;obtain ⟨h1,h2⟩:=LW hn;cases s with
  | nil=>exact absurd rfl h1
  | cons a r=>exact ⟨a,r,rfl,h2 a (by simp),fun c hc=>h2 c (by simp [hc])⟩
 rw [ed];unfold Lt.dc;simp only [wm];refine ifk (fun c1=>?_) (fun c1=>ifk (fun c2=>?_) (fun c2=>ifk (fun c3=>?_) (fun c3=>?_)))
 ·have c1:s=[]:=by simpa using c1
  subst c1;exact kk h (by decide +kernel)
 ·have c2:s=[110,117,108,108]:=by simpa using c2
  subst c2;exact kk h (by decide +kernel)
 ·rw [if_pos c3] at h; exact h
 have c1:s≠[]:=by simpa using c1
 have c2:¬ s=[110,117,108,108]:=by simpa using c2
 rw [if_neg c3,if_neg c2] at h;refine ⟨⟨by decide,WK.2 c1⟩,ifk (fun c4=>⟨by decide,⟨by have:=WK.2 c1; omega,Wb _⟩,?_⟩) (fun c4=>?_)⟩
 ·have c4:s.getD 0 0=35:=by simpa using c4
  have n1:¬ (Lt.aD s).2=true:=by
   intro hn;obtain ⟨a,r,rfl,ha,_⟩:=hnum hn;have c4:a=35:=c4
   subst c4;rcases ha with ha | ha
   ·exact absurd ha (by decide)
   ·exact absurd ha.1 (by decide)
  have n2:¬ (Lt.eD s).2=true:=by
   intro hn;obtain ⟨⟨r,rfl⟩,_⟩:=rX hn;exact absurd c4 (by show ¬ (48:UInt8)=35; decide)
  rw [if_neg n1,if_neg n2] at h;simp only [ac,aV,jval,bor];generalize Lt.aD (s.drop 1)=x at h ⊢;obtain ⟨n,ok⟩:=x;by_cases hc:(!ok||(decide (n < 0)||decide (999<n)))=true
  ·rw [if_pos hc];rw [if_neg] at h
   ·exact h
   ·intro ⟨_,h2,h3,h4⟩;simp only at h2 h3 h4
    simp [h2] at hc;omega
  ·rw [if_neg hc];rw [if_pos] at h
   ·exact h
   ·simp only [Wq,WH,decide_eq_true_eq,not_or,Wy] at hc;exact ⟨c4,hc.1,by simp only; omega,by simp only; omega⟩
 ·have c4:¬ s.getD 0 0=35:=by simpa using c4
  refine kk h ?_;unfold Lt.fV;have n5:¬ (s.getD 0 0=35/\(Lt.aD (s.drop 1)).2=true/\0<=(Lt.aD (s.drop 1)).1/\(Lt.aD (s.drop 1)).1<=999):=fun hh=>c4 hh.1
  by_cases n1:(Lt.aD s).2=true
  ·have n2:¬ (Lt.eD s).2=true:=by
    intro hn;obtain ⟨⟨r,e⟩,_⟩:=rX hn;obtain ⟨a,r',e2,_,hall⟩:=hnum n1;rw [e] at e2;have:(102:UInt8)∈r':=by
     simp only [List.cons.injEq] at e2;rw [<- e2.2]; simp
    rcases hall _ this with hh | hh
    ·exact absurd hh (by decide)
    ·exact absurd hh.2 (by decide)
   rw [if_pos n1,if_neg n2,if_pos n1]
  ·rw [if_neg n1,if_neg n5,if_neg n1]
end Go.Am
end
