/-
  Part 12: AmS6 · AmS7 · AmS8 · AmS9 · AmR1 · AmN10 · AmN11 · AmR2 · AmR3 · AmY1 · AmY2 · AmY3 · AmY4 · AmY5 · AmY6 · AmY7 · AmR4 · AmR5 · AmY8 · AmR6 · AmY9 · AmY10.
-/
import Derived.Test.YtlikflolhhlgjaaGreatDoorPa11
set_option linter.unusedSimpArgs false
set_option linter.unusedVariables false
set_option linter.unusedSectionVars false
set_option linter.unnecessarySimpa false
section
namespace Go.Am
open Go
set_option linter.unusedVariables false
set_option linter.unusedSimpArgs false
theorem sEnd_some (r:Lt.Read) {l:List (List UInt8)} {t:Lt.Term} (h:Lt.sTerm l=some t):Lt.sEnd r l=(0,⟨⟨r.P.SSA,r.P.Classes,r.P.Globals,r.P.Externs,r.P.Funcs.set (r.P.Funcs.length - 1) ⟨r.curF.Name,r.curF.Result,r.curF.Params,r.curF.Vars,r.curF.Blocks.set (r.curF.Blocks.length - 1) ⟨r.curB.Name,r.curB.Phis,r.curB.Code,t⟩⟩⟩,9,r.Long⟩):=by
 unfold Lt.sEnd; rw [h]; rfl
theorem sEnd_none (r:Lt.Read) {l:List (List UInt8)} (h:Lt.sTerm l=none):Lt.sEnd r l=(3,⟨r.P,9,r.Long⟩):=by
 unfold Lt.sEnd; rw [h]
theorem law_sStateM (r:Lt.Read) (l:List (List UInt8)) (hp:Lt.preRead r l) (KK:((Bool×Int)×Lt.Read)->Prop) (h:KK (Lt.sStateM r l)):F_sStateM r l KK:=by
 obtain ⟨hi,hl,hr⟩:=hp
 have hr:l.length<=1099511627776:=hr
 have h0:0<l.length:=List.length_pos_iff.2 hl
 obtain ⟨hw,⟨hc1,hc2,hc3⟩,_⟩:=id hi
 unfold F_sStateM; dsimp only
 unfold Lt.sStateM at h
 refine ⟨⟨by decide,h0⟩,?_⟩
 simp only [jn_app,jval]
 refine ifk (fun hc=>?_) (fun hc=>?_)
 ·rw [if_pos (by grind)] at h
  simp only [Bool.not_false]
  refine ifk (fun hc2=>?_) (fun hc2=>?_)
  ·rw [if_pos (by unfold Lt.Read.ins; grind)] at h
   exact h
  rw [if_neg (by unfold Lt.Read.ins; grind)] at h
  have hw5:5<=r.Where:=by grind
  have hw8:r.Where<=8:=by grind
  obtain ⟨hf,_,_,_,hb6⟩:=Inv_fun hi (by omega)
  obtain ⟨hbn,hph,hcd,_⟩:=Inv_block hi (by omega)
  have hf8:r.P.Funcs.length<=5000:=by omega
  have hb5:r.curF.Blocks.length<=5000:=by omega
  have hc5:r.curB.Code.length<=5000:=by omega
  have ef:r.P.Funcs.getD (r.P.Funcs.length - 1) default=r.curF:=rfl
  have eb:r.curF.Blocks.getD (r.curF.Blocks.length - 1) default=r.curB:=rfl
  have ei:r.curB.Code.getD (r.curB.Code.length - 1) default=r.curI:=rfl
  simp only [wrap_last hf hf8,last_lt hf,last_ob hf,Int.toNat_natCast,ef,wrap_last hbn hb5,last_lt hbn,last_ob hbn,eb,true_and,sNames_one,sNames_two]
  refine fun _ _=>⟨⟨by decide,h0⟩,?_⟩
  refine ifk (fun hc3=>?_) (fun hc3=>?_)
  ·rw [if_pos (by simpa using hc3)] at h
   refine ⟨⟨by show l.length<=1099511627776; exact hr,by decide,by decide⟩,?_⟩
   simp only [jn_app,jn_and,jn_imp,jn_ite,jn_const,jval,bor,band,bnand,bimp,and_self,up_lr,up_l,up_r,sNames_one,sNames_two,Bool.not_true,Bool.false_eq_true,if_false,sLimit_0]
   refine ⟨fun hw7 hok=>?_,fun hw7 hok=>?_,fun hb=>?_,ifk (fun hb=>kk h ?_) (fun hb=>ifk (fun hb2=>kk h ?_) (fun hb2=>?_))⟩
   ·have:=sPairs_len (l:=l) (f:=4) (objs:=true) (by simpa using hok) (by decide)
    exact ⟨by decide,by omega⟩
   ·have:=sPairs_len (l:=l) (f:=4) (objs:=true) (by simpa using hok) (by decide)
    exact ⟨by decide,by omega⟩
   ·have:=sPairs_len (l:=l) (f:=4) (objs:=true) (by
     simp only [Bool.or_eq_true,Bool.not_eq_true',not_or] at hb
     simpa using hb.2.1) (by decide)
    exact ⟨by decide,by omega⟩
   ·have c1:(decide (r.Where=7)&&(Lt.sPairs l 4 true).2&&Lt.rName (Lt.w1 l)&&Lt.rName (Lt.w2 l)&&((Lt.sNum (Lt.w3 l)).2&&decide (0<=(Lt.sNum (Lt.w3 l)).1)&&decide ((Lt.sNum (Lt.w3 l)).1<=1024)))=false:=by
     clear h; grind
    unfold Lt.sAt; rw [if_pos c1]
   ·have c1:(decide (r.Where=7)&&(Lt.sPairs l 4 true).2&&Lt.rName (Lt.w1 l)&&Lt.rName (Lt.w2 l)&&((Lt.sNum (Lt.w3 l)).2&&decide (0<=(Lt.sNum (Lt.w3 l)).1)&&decide ((Lt.sNum (Lt.w3 l)).1<=1024)))=false:=by
     clear h; grind
    unfold Lt.sAt; rw [if_pos c1]
   have c1:(decide (r.Where=7)&&(Lt.sPairs l 4 true).2&&Lt.rName (Lt.w1 l)&&Lt.rName (Lt.w2 l)&&((Lt.sNum (Lt.w3 l)).2&&decide (0<=(Lt.sNum (Lt.w3 l)).1)&&decide ((Lt.sNum (Lt.w3 l)).1<=1024)))=true:=by
    clear h; grind
   have hw7:r.Where=7:=by simp only [Bool.and_eq_true,decide_eq_true_eq] at c1; exact c1.1.1.1.1
   have hok:(Lt.sPairs l 4 true).2=true:=by simp only [Bool.and_eq_true,decide_eq_true_eq] at c1; exact c1.1.1.1.2
   have h4l:=sPairs_len (l:=l) (f:=4) (objs:=true) hok (by decide)
   obtain ⟨hcn,hfr,hob⟩:=Inv_instr hi (by omega) (by omega)
   simp only [wrap_last hcn hc5,last_lt hcn,last_ob hcn,Int.toNat_natCast,ei,true_and,one_lt (l:=l) (by omega),two_lt (l:=l) (by omega),implies_true,List.length_singleton,app_ok (show r.curI.Frames.length<=5000 by omega) (show 64<=200 by omega)]
   refine fun _ _=>kk h ?_
   unfold Lt.sAt
   rw [if_neg (by rw [c1]; simp)]
   unfold Lt.Read.instr Lt.Read.block Lt.Read.func Lt.last
   simp only [ef,eb,ei]
   by_cases hb3:16 < (Lt.sPairs l 4 true).1.length\/16<=r.curI.Frames.length
   ·rw [if_pos hb3,if_pos (by simp only [Bool.or_eq_true,decide_eq_true_eq]; omega)]
   ·rw [if_neg hb3,if_neg (by simp only [Bool.or_eq_true,decide_eq_true_eq]; omega)]
  rw [if_neg (by simpa using hc3)] at h
  refine ifk (fun hc4=>?_) (fun hc4=>?_)
  ·rw [if_pos (by simpa using hc4)] at h
   simp only [jn_app,jn_and,jn_imp,jn_ite,jn_const,jval,bor,band,bnand,bimp,and_self,up_lr,up_l,up_r,sNames_one,sNames_two,Bool.not_true,Bool.false_eq_true,if_false,sLimit_0]
   have ed:(l.drop 2).take (l.length - 2)=l.drop 2:=List.take_of_length_le (by rw [List.length_drop]; omega)
   refine ⟨fun _ hl2 _=>?_,fun _=>by decide,fun hb=>?_,fun hb=>?_,ifk (fun hb=>kk h ?_) (fun hb=>ifk (fun hb2=>kk h ?_) (fun hb2=>?_))⟩
   ·exact ⟨by decide,by simp at hl2; omega⟩
   ·simp at hb; exact ⟨by omega,Nat.le_refl _⟩
   ·rw [ed]; show (l.drop 2).length<=1099511627776; rw [List.length_drop]; omega
   ·have c1:(decide (7<=r.Where)&&decide (2<=l.length)&&decide (l.length<=10)&&Lt.rName (Lt.w1 l)&&(Lt.sArgs (l.drop 2) true).2)=false:=by
     clear h; grind
    unfold Lt.sObj; rw [if_pos c1]
   ·have c1:(decide (7<=r.Where)&&decide (2<=l.length)&&decide (l.length<=10)&&Lt.rName (Lt.w1 l)&&(Lt.sArgs (l.drop 2) true).2)=false:=by
     clear h; rw [ed] at hb2; grind
    unfold Lt.sObj; rw [if_pos c1]
   rw [ed] at hb2 ⊢
   have c1:(decide (7<=r.Where)&&decide (2<=l.length)&&decide (l.length<=10)&&Lt.rName (Lt.w1 l)&&(Lt.sArgs (l.drop 2) true).2)=true:=by
    clear h; grind
   have hl2:2<=l.length:=by simp only [Bool.and_eq_true,decide_eq_true_eq] at c1; exact c1.1.1.1.2
   have hw7:7<=r.Where:=by simp only [Bool.and_eq_true,decide_eq_true_eq] at c1; exact c1.1.1.1.1
   obtain ⟨hcn,hfr,hob⟩:=Inv_instr hi (by omega) (by omega)
   simp only [wrap_last hcn hc5,last_lt hcn,last_ob hcn,Int.toNat_natCast,ei,true_and,one_lt (l:=l) (by omega),implies_true,List.length_singleton,app_ok (show r.curI.Objs.length<=5000 by omega) (show 40<=200 by omega)]
   refine fun _ _=>kk h ?_
   unfold Lt.sObj
   rw [if_neg (by rw [c1]; simp)]
   unfold Lt.Read.instr Lt.Read.block Lt.Read.func Lt.last Lt.sLimit
   simp only [ef,eb,ei]
   by_cases hb3:99<=r.curI.Objs.length
   ·rw [if_pos hb3,if_pos (by omega)]
   ·rw [if_neg hb3,if_neg (by omega)]
  rw [if_neg (by simpa using hc4)] at h
  have hk:l.getD 0 default=[106,117,109,112]\/l.getD 0 default=[98,114,97,110,99,104]\/l.getD 0 default=[114,101,116]\/l.getD 0 default=[116,114,97,112]:=by grind
  refine fun J17 hJ17=>?_
  have hJ:J17 (true,(Lt.sEnd r l).1,(Lt.sEnd r l).2):=hJ17 _ h
  clear hJ17 h hc hc3 hc4
  have z0:((0:Int)<=0/\0<l.length)=True:=by simp; omega
  have ic2:decide ((l.length:Int)=2)=decide (l.length=2):=decide_eq_decide.2 (by omega)
  have ic4:decide ((l.length:Int)=4)=decide (l.length=4):=decide_eq_decide.2 (by omega)
  rcases hk with e | e | e | e
  ·simp only [e,show (decide (([106,117,109,112]:List UInt8)=[106,117,109,112]))=true from rfl,show (decide (([106,117,109,112]:List UInt8)=[98,114,97,110,99,104]))=false from rfl,show (decide (([106,117,109,112]:List UInt8)=[114,101,116]))=false from rfl,show (decide (([106,117,109,112]:List UInt8)=[116,114,97,112]))=false from rfl,z0,jn_app,jn_and,jn_imp,jn_ite,jn_const,jval,bor,band,bnand,bimp,and_self,up_lr,up_l,up_r,sNames_one,sNames_two,Bool.not_true,Bool.false_eq_true,if_false,if_true,true_and,Bool.false_and,Bool.true_and,decide_true,not_false_eq_true,false_implies,true_implies,implies_true,ic2,ic4,forall_const]
   refine ⟨fun h2=>by simp at h2; exact ⟨by decide,by omega⟩,fun h2=>by simp at h2; exact ⟨by decide,by omega⟩,kk hJ ?_⟩
   by_cases c1:(decide (l.length=2)&&Lt.rName (l.getD 1 default))=true
   ·rw [if_pos c1,sEnd_some r (t:=⟨1,⟨0,[],0⟩,[Lt.w1 l],0⟩) (by unfold Lt.sTerm; rw [if_pos e,if_pos c1])]
   ·rw [if_neg c1,sEnd_none r (by unfold Lt.sTerm; rw [if_pos e,if_neg c1])]
  ·simp only [e,show (decide (([98,114,97,110,99,104]:List UInt8)=[106,117,109,112]))=false from rfl,show (decide (([98,114,97,110,99,104]:List UInt8)=[98,114,97,110,99,104]))=true from rfl,show (decide (([98,114,97,110,99,104]:List UInt8)=[114,101,116]))=false from rfl,show (decide (([98,114,97,110,99,104]:List UInt8)=[116,114,97,112]))=false from rfl,z0,jn_app,jn_and,jn_imp,jn_ite,jn_const,jval,bor,band,bnand,bimp,and_self,up_lr,up_l,up_r,sNames_one,sNames_two,Bool.not_true,Bool.false_eq_true,if_false,if_true,true_and,Bool.false_and,Bool.true_and,decide_true,not_false_eq_true,false_implies,true_implies,implies_true,ic2,ic4,forall_const]
   by_cases h4:l.length=4
   ·have eo:(l.drop 1).take (2 - 1)=[l.getD 1 default]:=one_drop l (i:=0) (by omega)
    rw [eo,sArgs_one]
    have hone:Lt.preWords [l.getD 1 default] false:=by show 1<=1099511627776; omega
    refine ⟨fun _=>⟨by decide,by omega⟩,fun _=>⟨by decide,by omega⟩,fun _=>by decide,fun _=>by decide,fun _=>⟨by decide,by omega⟩,fun _=>hone,fun _ ha=>?_,fun _ _=>⟨by decide,by omega⟩,fun _ _=>⟨by decide,by omega⟩,kk hJ ?_⟩
    ·by_cases ho:Lt.argOk false (l.getD 1 default)=true
     ·rw [if_pos ho]; simp
     ·rw [if_neg ho] at ha; simp at ha
    ·have n1:¬ Lt.w0 l=Lt.kJump:=by rw [show Lt.w0 l=_ from e]; decide
     by_cases c1:(decide (l.length=4)&&(Lt.rName (l.getD 2 default)&&Lt.rName (l.getD 3 default)))=true
     ·rw [if_pos c1]
      by_cases ho:Lt.argOk false (l.getD 1 default)=true
      ·rw [if_pos ho,if_pos rfl,sEnd_some r (t:=⟨2,(Lt.sArg (Lt.w1 l)).1,[Lt.w2 l,Lt.w3 l],0⟩) (by unfold Lt.sTerm; rw [if_neg n1,if_pos e,if_pos (by rw [c1,ho]; rfl)])]; rfl
      ·rw [if_neg ho,if_neg (by simp),sEnd_none r (by unfold Lt.sTerm; rw [if_neg n1,if_pos e,if_neg (by rw [c1]; simpa using ho)])]
     ·rw [if_neg c1,sEnd_none r (by unfold Lt.sTerm; rw [if_neg n1,if_pos e,if_neg (by simp only [Bool.and_eq_true] at c1 ⊢; exact fun h=>c1 h.1)])]
   ·have n1:¬ Lt.w0 l=Lt.kJump:=by rw [show Lt.w0 l=_ from e]; decide
    have f4:decide (l.length=4)=false:=decide_eq_false h4
    simp only [f4,Bool.false_and,Bool.false_eq_true,false_implies,true_and,if_false]
    refine kk hJ ?_
    rw [sEnd_none r (by unfold Lt.sTerm; rw [if_neg n1,if_pos e,f4]; rfl)]
  ·simp only [e,show (decide (([114,101,116]:List UInt8)=[106,117,109,112]))=false from rfl,show (decide (([114,101,116]:List UInt8)=[98,114,97,110,99,104]))=false from rfl,show (decide (([114,101,116]:List UInt8)=[114,101,116]))=true from rfl,show (decide (([114,101,116]:List UInt8)=[116,114,97,112]))=false from rfl,z0,jn_app,jn_and,jn_imp,jn_ite,jn_const,jval,bor,band,bnand,bimp,and_self,up_lr,up_l,up_r,sNames_one,sNames_two,Bool.not_true,Bool.false_eq_true,if_false,if_true,true_and,Bool.false_and,Bool.true_and,decide_true,not_false_eq_true,false_implies,true_implies,implies_true,ic2,ic4,forall_const]
   have n1:¬ Lt.w0 l=Lt.kJump:=by rw [show Lt.w0 l=_ from e]; decide
   have n2:¬ Lt.w0 l=Lt.kBranch:=by rw [show Lt.w0 l=_ from e]; decide
   by_cases h4:l.length=2
   ·have eo:(l.drop 1).take (l.length - 1)=[l.getD 1 default]:=by rw [h4]; exact one_drop l (i:=0) (by omega)
    rw [eo,sArgs_one]
    have hone:Lt.preWords [l.getD 1 default] false:=by show 1<=1099511627776; omega
    refine ⟨fun _=>by decide,fun _=>⟨by omega,by omega⟩,fun _=>hone,fun _ ha=>?_,kk hJ ?_⟩
    ·by_cases ho:Lt.argOk false (l.getD 1 default)=true
     ·rw [if_pos ho]; simp
     ·rw [if_neg ho] at ha; simp at ha
    ·rw [if_pos (by simpa using h4)]
     by_cases ho:Lt.argOk false (l.getD 1 default)=true
     ·rw [if_pos ho,if_pos rfl,sEnd_some r (t:=⟨3,(Lt.sArg (Lt.w1 l)).1,[],0⟩) (by unfold Lt.sTerm; rw [if_neg n1,if_neg n2,if_pos e,if_pos (by rw [ho,h4]; rfl)])]; rfl
     ·rw [if_neg ho,if_neg (by simp),sEnd_none r (by unfold Lt.sTerm; rw [if_neg n1,if_neg n2,if_pos e,if_neg (by rw [h4]; simpa using ho)])]
   ·have f4:decide (l.length=2)=false:=decide_eq_false h4
    simp only [f4,Bool.false_and,Bool.false_eq_true,false_implies,true_and,if_false]
    refine kk hJ ?_
    rw [sEnd_none r (by unfold Lt.sTerm; rw [if_neg n1,if_neg n2,if_pos e,f4]; rfl)]
  ·simp only [e,show (decide (([116,114,97,112]:List UInt8)=[106,117,109,112]))=false from rfl,show (decide (([116,114,97,112]:List UInt8)=[98,114,97,110,99,104]))=false from rfl,show (decide (([116,114,97,112]:List UInt8)=[114,101,116]))=false from rfl,show (decide (([116,114,97,112]:List UInt8)=[116,114,97,112]))=true from rfl,z0,jn_app,jn_and,jn_imp,jn_ite,jn_const,jval,bor,band,bnand,bimp,and_self,up_lr,up_l,up_r,sNames_one,sNames_two,Bool.not_true,Bool.false_eq_true,if_false,if_true,true_and,Bool.false_and,Bool.true_and,decide_true,not_false_eq_true,false_implies,true_implies,implies_true,ic2,ic4,forall_const]
   have n1:¬ Lt.w0 l=Lt.kJump:=by rw [show Lt.w0 l=_ from e]; decide
   have n2:¬ Lt.w0 l=Lt.kBranch:=by rw [show Lt.w0 l=_ from e]; decide
   have n3:¬ Lt.w0 l=Lt.kRet:=by rw [show Lt.w0 l=_ from e]; decide
   refine ⟨fun h2=>by simp at h2; exact ⟨by decide,by omega⟩,kk hJ ?_⟩
   by_cases c1:(decide (l.length=2)&&(Lt.sNum (l.getD 1 default)).2)=true
   ·rw [sEnd_some r (t:=⟨4,⟨0,[],0⟩,[],(Lt.sNum (Lt.w1 l)).1⟩) (by unfold Lt.sTerm; rw [if_neg n1,if_neg n2,if_neg n3,if_pos e,if_pos c1])]
    simp only [Bool.and_eq_true] at c1
    rw [if_pos c1.1,if_pos c1.2]
   ·rw [sEnd_none r (by unfold Lt.sTerm; rw [if_neg n1,if_neg n2,if_neg n3,if_pos e,if_neg c1])]
    simp only [Bool.and_eq_true,not_and] at c1
    by_cases c2:decide (l.length=2)=true
    ·rw [if_pos c2,if_neg (c1 c2)]
    ·rw [if_neg c2]
 ·rw [if_neg (by grind)] at h
  exact h
end Go.Am
end

section
namespace Go.Am
open Go
set_option linter.unusedVariables false
set_option linter.unusedSimpArgs false
def codeR (r:Lt.Read) (dst:List UInt8) (l:List (List UInt8)):Int×Lt.Read:=
 if r.ins=false then (3,r)
 else match Lt.sInstr dst l with
 | none=>(3,r)
 | some x=>if 1024<=r.Long then (2,r) else (0,{ r.block (fun b=>{ b with Code:=b.Code++[x] }) with Where:=if x.Op=31\/x.Op=34 then 7 else 6,Long:=r.Long+1 })
theorem law_sCodeM (r:Lt.Read) (l:List (List UInt8)) (hp:Lt.preRead r l) (KK:(Int×Lt.Read)->Prop) (h:KK (Lt.sCodeM r l)):F_sCodeM r l KK:=by
 obtain ⟨hi,hl,hr⟩:=hp
 have hr:l.length<=1099511627776:=hr
 have h0:0<l.length:=List.length_pos_iff.2 hl
 obtain ⟨hw,⟨hc1,hc2,hc3⟩,_⟩:=id hi
 have e0:Lt.sCodeM r l=if (Lt.sEq l&&!Lt.rName (Lt.w0 l))=true then (3,r) else codeR r (if Lt.sEq l then Lt.w0 l else []) (if Lt.sEq l then l.drop 2 else l):=rfl
 rw [e0] at h
 unfold F_sCodeM; dsimp only
 refine fun J1 hJ1=>?_
 have key:∀ (l':List (List UInt8)) (dst:List UInt8),0<l'.length->l'.length<=1099511627776->KK (codeR r dst l')->J1 (l',⟨0,dst,[],[],[],[]⟩):=by
  intro l' dst h0' hr' hk
  refine hJ1 _ ?_
  clear hJ1 h e0 J1
  refine ⟨⟨by decide,h0'⟩,?_⟩
  simp only [jn_app,jval,bor,Bool.not_false,if_true,sNames_one]
  refine ifk (fun hc=>?_) (fun hc=>?_)
  ·refine kk hk ?_
   unfold codeR
   by_cases hin:r.ins=false
   ·rw [if_pos hin]
   ·rw [if_neg hin]
    have:Lt.sInstr dst l'=none:=by
     unfold Lt.sInstr
     rw [if_pos]
     unfold Lt.Read.ins at hin
     clear hk; grind
    rw [this]
  have hin:¬ r.ins=false:=by unfold Lt.Read.ins; clear hk; grind
  have hw5:5<=r.Where:=by unfold Lt.Read.ins at hin; simp at hin; omega
  have hw8:r.Where<=8:=by unfold Lt.Read.ins at hin; simp at hin; omega
  have hop:¬ ((Lt.sOp (Lt.w0 l')).2&&((Lt.rOf (Lt.sOp (Lt.w0 l')).1).1.Dst==!decide (dst=[])))=false:=by
   clear hk; grind
  clear hc
  unfold codeR Lt.sInstr at hk
  rw [if_neg hin,if_neg hop] at hk
  have ew:l'.getD 0 default=Lt.w0 l':=rfl
  simp only [ew]
  generalize Lt.sOp (Lt.w0 l')=O at hk hop ⊢
  obtain ⟨op,okop⟩:=O
  generalize hfm:(Lt.rOf op).1=fm at hk ⊢
  simp only at hk ⊢
  obtain ⟨hf,⟨_,⟨_,hl0,_⟩,_⟩,_,_,hb6⟩:=Inv_fun hi (by omega)
  obtain ⟨hbn,hph,hcd,_⟩:=Inv_block hi (by omega)
  have hf8:r.P.Funcs.length<=5000:=by omega
  have hb5:r.curF.Blocks.length<=5000:=by omega
  have hc5:r.curB.Code.length<=5000:=by omega
  have ef:r.P.Funcs.getD (r.P.Funcs.length - 1) default=r.curF:=rfl
  have eb:r.curF.Blocks.getD (r.curF.Blocks.length - 1) default=r.curB:=rfl
  have l1:∀ x:Lt.Instr,([x]:List Lt.Instr).length=1:=fun _=>rfl
  simp only [wrap_last hf hf8,last_lt hf,last_ob hf,Int.toNat_natCast,ef,wrap_last hbn hb5,last_lt hbn,last_ob hbn,eb,true_and,l1,app_ok hc5 (show 112<=200 by omega),jn_app]
  refine fun J7 hJ7=>?_
  have key2:∀ nm rest,rest.length<=1099511627776->KK (match (if ((Lt.sArgs rest false).2&&!(fm.Named&&!Lt.rName nm)&&decide (fm.Least<=((Lt.sArgs rest false).1.length:Int))&&decide (((Lt.sArgs rest false).1.length:Int)<=fm.Most))=true then some ⟨op,dst,nm,(Lt.sArgs rest false).1,[],[]⟩ else none:Option Lt.Instr) with
    | none=>(3,r)
    | some x=>if 1024<=r.Long then (2,r) else (0,{ r.block (fun b=>{ b with Code:=b.Code++[x] }) with Where:=if x.Op=31\/x.Op=34 then 7 else 6,Long:=r.Long+1 }))->J7 (rest,⟨op,dst,nm,[],[],[]⟩):=by
   intro nm rest hrest hk2
   refine hJ7 _ ⟨hrest,?_⟩
   clear hJ7 hk
   refine ifk (fun hc=>kk hk2 ?_) (fun hc=>?_)
   ·rw [if_neg (by clear hk2; grind)]
   rw [if_pos (by clear hk2; grind)] at hk2
   refine ifk (fun hl=>kk hk2 ?_) (fun hl=>?_)
   ·show (if 1024<=r.Long then _ else _)=_
    rw [if_pos (by simpa using hl)]
   have hl:¬ 1024<=r.Long:=by simpa using hl
   have wl:IntKind.i64.wrap (r.Long+1)=r.Long+1:=wrap_i64 (by omega) (by omega)
   simp only [wl,and_self,jn_app,jval,bor]
   refine fun _ _=>kk hk2 ?_
   show (if 1024<=r.Long then _ else _)=_
   rw [if_neg hl]
   by_cases h31:op=31\/op=34
   ·have:(decide (op=31)||decide (op=34))=true:=by simpa using h31
    rw [if_pos this]
    unfold Lt.Read.block Lt.Read.func Lt.last
    simp only [ef,eb,if_pos h31]
   ·have:¬ (decide (op=31)||decide (op=34))=true:=by simpa using h31
    rw [if_neg this]
    unfold Lt.Read.block Lt.Read.func Lt.last
    simp only [ef,eb,if_neg h31]
  clear hJ7
  unfold Lt.sRest at hk
  refine ifk (fun hc=>?_) (fun hc=>?_)
  ·rw [if_pos (by simpa using hc)] at hk
   refine fun _=>ifk (fun h3=>?_) (fun h3=>?_)
   ·rw [if_pos (by simp at h3; omega)] at hk; exact hk
   ·have h3:¬ l'.length < 3:=by simp at h3; omega
    rw [if_neg h3] at hk
    have ed:(l'.drop 3).take (l'.length - 3)=l'.drop 3:=List.take_of_length_le (by rw [List.length_drop]; omega)
    rw [ed]
    refine ⟨⟨by decide,by omega⟩,⟨by decide,by omega⟩,⟨by simp,by simp⟩,by decide,⟨by omega,Nat.le_refl _⟩,⟨?_,?_⟩,?_⟩
    ·simp only [List.length_drop,List.length_singleton]; omega
    ·simp only [List.length_drop,List.length_singleton]; omega
    ·exact key2 _ _ (by simp only [List.length_cons,List.length_drop,List.singleton_append]; omega) hk
  rw [if_neg (by simpa using hc)] at hk
  refine ifk (fun hn=>?_) (fun hn=>?_)
  ·rw [hfm,if_pos hn] at hk
   refine fun _=>ifk (fun h3=>?_) (fun h3=>?_)
   ·rw [if_pos (by simp at h3; omega)] at hk; exact hk
   ·have h3:¬ l'.length < 2:=by simp at h3; omega
    rw [if_neg h3] at hk
    have ed:(l'.drop 2).take (l'.length - 2)=l'.drop 2:=List.take_of_length_le (by rw [List.length_drop]; omega)
    rw [ed]
    refine ⟨⟨by decide,by omega⟩,by decide,⟨by omega,Nat.le_refl _⟩,?_⟩
    exact key2 _ _ (by rw [List.length_drop]; omega) hk
  ·rw [hfm,if_neg hn] at hk
   have ed:(l'.drop 1).take (l'.length - 1)=l'.drop 1:=List.take_of_length_le (by rw [List.length_drop]; omega)
   rw [ed]
   refine ⟨by decide,⟨by omega,Nat.le_refl _⟩,?_⟩
   exact key2 _ _ (by rw [List.length_drop]; omega) hk
 have es:((decide (2 < (l.length:Int)))&&(decide ((l.getD 1 default)=[61])))=Lt.sEq l:=by
  unfold Lt.sEq; rw [show decide (2 < (l.length:Int))=decide (2<l.length) from decide_eq_decide.2 (by omega)]
 refine fun J3 hJ3=>?_
 have hE:=hJ3 (Lt.sEq l) ?_
 ·refine fun _=>ifk (fun hc=>⟨⟨by decide,by simp at hc; omega⟩,?_⟩) (fun hc=>?_)
  ·rw [<- es,hc,Bool.true_and] at hE; exact hE
  ·rw [<- es,Bool.eq_false_iff.2 hc,Bool.false_and] at hE; exact hE
 simp only [sNames_one]
 by_cases hs:Lt.sEq l=true
 ·rw [if_pos hs]
  rw [hs] at h
  have h2:2<l.length:=by unfold Lt.sEq at hs; simp only [Bool.and_eq_true,decide_eq_true_eq] at hs; exact hs.1
  refine ⟨⟨by decide,h0⟩,?_⟩
  refine ifk (fun hc=>kk h ?_) (fun hc=>⟨⟨by decide,h0⟩,by decide,⟨by omega,Nat.le_refl _⟩,?_⟩)
  ·rw [if_pos (by rw [Bool.true_and]; exact hc)]
  ·rw [if_neg (by rw [Bool.true_and]; exact hc)] at h
   have ed:(l.drop 2).take (l.length - 2)=l.drop 2:=List.take_of_length_le (by rw [List.length_drop]; omega)
   rw [ed]
   exact key _ _ (by rw [List.length_drop]; omega) (by rw [List.length_drop]; omega) h
 ·rw [if_neg hs]
  rw [Bool.eq_false_iff.2 hs] at h
  exact key _ _ h0 hr h
end Go.Am
end

section
namespace Go.Am
open Go
set_option linter.unusedVariables false
set_option linter.unusedSimpArgs false
theorem head_not {r:Lt.Read} {l:List (List UInt8)} (h:(Lt.sHeadM r l).1.1=false):Lt.sHeadM r l=((false,0),r):=by
 unfold Lt.sHeadM at h ⊢
 repeat' split at h
 all_goals first | (simp at h; done) | skip
 rename_i h1 h2 h3 h4 h5
 rw [if_neg h1,if_neg h2,if_neg h3,if_neg h4,if_neg h5]
theorem part_not {r:Lt.Read} {l:List (List UInt8)} (h:(Lt.sPartM r l).1.1=false):Lt.sPartM r l=((false,0),r):=by
 unfold Lt.sPartM at h ⊢
 repeat' split at h
 all_goals first | (simp at h; done) | skip
 rename_i h1 h2 h3 h4
 rw [if_neg h1,if_neg h2,if_neg h3,if_neg h4]
theorem state_not {r:Lt.Read} {l:List (List UInt8)} (h:(Lt.sStateM r l).1.1=false):Lt.sStateM r l=((false,0),r):=by
 unfold Lt.sStateM at h ⊢
 by_cases h1:Lt.w0 l=Lt.kAt\/Lt.w0 l=Lt.kObj\/Lt.w0 l=Lt.kJump\/Lt.w0 l=Lt.kBranch\/Lt.w0 l=Lt.kRet\/Lt.w0 l=Lt.kTrap
 ·rw [if_pos h1] at h
  repeat' split at h
  all_goals simp at h
 ·rw [if_neg h1]
theorem law_sLineM (r:Lt.Read) (l:List (List UInt8)) (b:Bool) (hp:Lt.preLineM r l b) (KK:(Int×Lt.Read)->Prop) (h:KK (Lt.sLineM r l b)):F_sLineM r l b KK:=by
 have hp:Lt.preRead r l:=hp
 obtain ⟨hi,hl,hr⟩:=id hp
 have hr:l.length<=1099511627776:=hr
 have h0:0<l.length:=List.length_pos_iff.2 hl
 have es:((decide (2 < (l.length:Int)))&&(decide ((l.getD 1 default)=[61])))=Lt.sEq l:=by
  unfold Lt.sEq; rw [show decide (2 < (l.length:Int))=decide (2<l.length) from decide_eq_decide.2 (by omega)]
 unfold F_sLineM; dsimp only
 unfold Lt.sLineM at h
 refine fun J3 hJ3=>?_
 have hE:=hJ3 (Lt.sEq l) ?_
 ·refine fun _=>ifk (fun hc=>⟨⟨by decide,by simp at hc; omega⟩,?_⟩) (fun hc=>?_)
  ·rw [<- es,hc,Bool.true_and] at hE; exact hE
  ·rw [<- es,Bool.eq_false_iff.2 hc,Bool.false_and] at hE; exact hE
 show (if Lt.sEq l=true then _ else _)
 refine ifk (fun hs=>⟨hp,?_⟩) (fun hs=>⟨⟨by decide,h0⟩,?_⟩)
 ·rw [if_pos hs] at h; exact h
 rw [if_neg hs] at h
 refine ifk (fun hc=>?_) (fun hc=>⟨hp,?_⟩)
 ·rw [if_pos (by simpa using hc)] at h
  simp only [jn_app,jval,bor]
  refine kk h ?_
  by_cases hb:(!b||!decide ((l.length:Int)=1))=true
  ·rw [if_pos hb,if_pos (by grind)]
  ·rw [if_neg hb,if_neg (by grind)]
 rw [if_neg (by simpa using hc)] at h
 by_cases hh:(Lt.sHeadM r l).1.1=true
 ·rw [if_pos hh] at h
  simp only [hh,Bool.not_true,Bool.false_eq_true,if_false,jn_app]
  exact h
 rw [if_neg hh] at h
 have hh:=Bool.eq_false_iff.2 hh
 rw [hh]
 simp only [head_not hh,Bool.not_false,if_true,jn_and,jn_app]
 refine ⟨hp,?_⟩
 by_cases hh2:(Lt.sPartM r l).1.1=true
 ·rw [if_pos hh2] at h
  simp only [hh2,Bool.not_true,Bool.false_eq_true,if_false,jn_app]
  exact h
 rw [if_neg hh2] at h
 have hh2:=Bool.eq_false_iff.2 hh2
 simp only [part_not hh2,Bool.not_false,if_true,jn_and,jn_app]
 refine ⟨hp,?_⟩
 by_cases hh3:(Lt.sStateM r l).1.1=true
 ·rw [if_pos hh3] at h
  simp only [hh3,Bool.not_true,Bool.false_eq_true,if_false,jn_app]
  exact h
 rw [if_neg hh3] at h
 have hh3:=Bool.eq_false_iff.2 hh3
 simp only [state_not hh3,Bool.not_false,if_true,jn_and,jn_app]
 exact ⟨hp,h⟩
end Go.Am
end

section
namespace Go.Am
open Go
set_option linter.unusedVariables false
set_option linter.unusedSimpArgs false
theorem law_sSplit (s:List UInt8) (KK:List Lt.RLine×Int×Int->Prop) (h:KK (Lt.sSplit s)):F_sSplit s KK:=by
 have hb:∀ c d:UInt8,decide ((((c.toNat:Nat):Int))=((d.toNat:Nat):Int))=decide (c=d):=fun c d=>by
  by_cases hc:c=d
  ·subst hc; simp
  ·have:c.toNat≠d.toNat:=fun e=>hc (UInt8.toNat_inj.1 e)
   simp only [hc,decide_false,decide_eq_false_iff_not]; omega
 unfold F_sSplit; dsimp only
 unfold Lt.sSplit at h
 refine fun hl=>ifk (fun hc=>?_) (fun hc=>?_)
 ·rw [if_pos (by simp at hc; omega)] at h; exact h
 rw [if_neg (by simp at hc; omega)] at h
 have hs:s.length<=4194304:=by simp at hc; omega
 clear hc
 simp only [hb]
 refine nat_loop _ (s.length+1) (fun i x=>(i<=s.length/\∃ k:Lt.Cut,x=(k.out,k.l,k.w,k.n,k.remark,k.bad,(i:Int))/\(k.out.length<=i/\k.l.length<=i/\k.w.length<=i/\1<=k.n/\k.n<=(i:Int)+1)/\KK (Lt.sSplitG (s.drop i) k))\/(i=s.length+1/\∃ a b c d e,∃ o,x=(o,a,b,c,d,e,(i:Int))/\KK (o,0,0))) (fun R i x hi hx hR=>?_) (fun R x hx=>?_) _ (Or.inl ⟨Nat.zero_le _,⟨[],[],[],1,false,false⟩,rfl,⟨Nat.le_refl _,Nat.le_refl _,Nat.le_refl _,by decide,by decide⟩,h⟩)
 ·rcases hx with ⟨hi,k,rfl,⟨k1,k2,k3,k4,k5⟩,hk⟩ | ⟨he,_⟩
  ·simp only [show decide ((i:Int)<=(s.length:Int))=true by simpa using hi,if_true,Int.toNat_natCast]
   refine fun _=>?_
   have w1:IntKind.i64.wrap ((i:Int)+1)=((i+1:Nat):Int):=wrap_succ (by omega)
   have wn:IntKind.i64.wrap (k.n+1)=k.n+1:=wrap_i64 (by omega) (by omega)
   rw [w1,wn]
   have hw:∀ KK2:List (List UInt8)->Prop,KK2 k.word.l->joinP (α:=List (List UInt8)) (fun J15=>(k.w.length<=4611686018427387904->if (decide (0 < (k.w.length:Int)))=true then ((k.l.length+([k.w]:List (List UInt8)).length<=4611686018427387904/\(k.l.length+([k.w]:List (List UInt8)).length)*16<=140737488355328)/\J15 (k.l++([k.w]:List (List UInt8)))) else (J15 k.l))) KK2:=by
    intro KK2 h J hJ hl
    refine ifk (fun hc=>⟨⟨by simp; omega,by simp; omega⟩,hJ _ (kk h ?_)⟩) (fun hc=>hJ _ (kk h ?_))
    ·unfold Lt.Cut.word
     rw [if_neg (by intro e; rw [e] at hc; simp at hc)]
    ·unfold Lt.Cut.word
     rw [if_pos (by cases hh:k.w with
      | nil=>rfl
      | cons a b=>rw [hh] at hc; simp at hc)]
   refine fun J3 hJ3=>?_
   by_cases hend:i=s.length\/s.getD i 0=10
   ·refine fun J5 hJ5=>?_
    have g:=hJ5 true ?_
    ·refine fun _=>ifk (fun _=>g) (fun hc=>?_)
     have hlt:i<s.length:=by simp at hc; omega
     refine ⟨⟨Int.natCast_nonneg i,hlt⟩,?_⟩
     have h10:s.getD i 0=10:=by
      rcases hend with h | h
      ·omega
      ·exact h
     rw [show decide (s.getD i 0=10)=true by simpa using h10]; exact g
    ·simp only [Bool.not_true,Bool.false_eq_true,if_false,if_true,jn_app]
     refine fun J11 hJ11=>hw _ (hJ11 (k.word.l,[],k.bad) ?_)
     have hk2:KK (if k.bad=true then ([],k.n,3) else if i=s.length then (k.line.out,0,0) else Lt.sSplitG (s.drop (i+1)) k.line):=by
      by_cases he:i=s.length
      ·rw [if_pos he]
       rw [he,List.drop_length] at hk
       exact hk
      ·have hlt:i<s.length:=by omega
       have h10:s.getD i 0=10:=by
        rcases hend with h | h
        ·omega
        ·exact h
       rw [if_neg he]
       rw [List.drop_eq_getElem_cons hlt] at hk
       have ec:s[i]=10:=by rw [List.getD,List.getElem?_eq_getElem hlt] at h10; exact h10
       rw [ec,Lt.sSplitG,if_pos rfl] at hk
       exact hk
     refine ifk (fun hb=>?_) (fun hb=>?_)
     ·rw [if_pos hb] at hk2; exact hk2
     rw [if_neg hb] at hk2
     have hwl:k.word.l.length<=i+1:=by
      unfold Lt.Cut.word; simp only; split
      ·omega
      ·simp only [List.length_append,List.length_singleton]; omega
     refine fun J19 hJ19=>?_
     have g2:=hJ19 k.line.out ?_
     ·refine fun _=>ifk (fun hc=>⟨⟨by simp; omega,by simp; omega⟩,kk g2 ?_⟩) (fun hc=>kk g2 ?_)
      ·unfold Lt.Cut.line
       rw [if_neg (by intro e; rw [e] at hc; simp at hc)]
      ·unfold Lt.Cut.line
       rw [if_pos (by cases hh:k.word.l with
        | nil=>rfl
        | cons a b=>rw [hh] at hc; simp at hc)]
     ·refine hJ3 _ (hR _ ?_)
      by_cases he:i=s.length
      ·rw [if_pos he] at hk2
       exact Or.inr ⟨by omega,_,_,_,_,_,_,rfl,hk2⟩
      ·rw [if_neg he] at hk2
       refine Or.inl ⟨by omega,k.line,rfl,⟨?_,Nat.zero_le _,Nat.zero_le _,?_,?_⟩,hk2⟩
       ·unfold Lt.Cut.line; simp only; split
        ·omega
        ·simp only [List.length_append,List.length_singleton]; omega
       ·show 1<=k.n+1; omega
       ·show k.n+1<=((i+1:Nat):Int)+1; omega
   ·have hlt:i<s.length:=by omega
    have h10:¬ s.getD i 0=10:=fun h=>hend (Or.inr h)
    have ob:((0:Int)<=(i:Int)/\i<s.length)=True:=by simp [hlt]
    have hk2:KK (Lt.sSplitG (s.drop (i+1)) (k.byte (s.getD i 0))):=by
     have e:s.getD i 0=s[i]:=by rw [List.getD,List.getElem?_eq_getElem hlt]; rfl
     rw [List.drop_eq_getElem_cons hlt,<- e,Lt.sSplitG,if_neg h10] at hk
     exact hk
    clear hk
    have c33:decide (((s.getD i 0).toNat:Int) < ((UInt8.toNat 33:Nat):Int))=decide ((s.getD i 0).toNat < 33):=decide_eq_decide.2 (by show ((s.getD i 0).toNat:Int) < 33 ↔ _; omega)
    have c126:decide (((UInt8.toNat 126:Nat):Int) < ((s.getD i 0).toNat:Int))=decide (126 < (s.getD i 0).toNat):=decide_eq_decide.2 (by show (126:Int) < ((s.getD i 0).toNat:Int) ↔ _; omega)
    simp only [show decide ((i:Int)=(s.length:Int))=false by simp; omega,Bool.false_eq_true,if_false,ob,true_and,jn_imp,jn_app,show decide (s.getD i 0=10)=false by simpa using h10,Bool.not_false,if_true,jval,bor,c33,c126]
    simp only [jn_imp] at hw
    refine fun _ J11 hJ11=>?_
    refine ifk (fun hv=>hw _ (hJ11 (k.word.l,[],k.bad) (hJ3 _ (hR _ (Or.inl ?_))))) (fun hv=>⟨⟨by simp; omega,by simp; omega⟩,hJ11 _ (hJ3 _ (hR _ (Or.inl ?_)))⟩)
    ·refine ⟨by omega,k.byte (s.getD i 0),?_,?_,hk2⟩
     ·by_cases h59:s.getD i 0=59
      ·have e9:decide (s.getD i 0=59)=true:=decide_eq_true h59
       unfold Lt.Cut.byte; simp only [if_pos h59,e9,Bool.true_or]; rfl
      ·have e:Lt.Cut.byte k (s.getD i 0)=k.word:=by
        unfold Lt.Cut.byte; rw [if_neg h59,if_pos]
        have hv2:(s.getD i 0=59\/k.remark=true)\/(s.getD i 0=32\/s.getD i 0=9):=by simpa only [Bool.false_or,Bool.or_eq_true,decide_eq_true_eq] using hv
        simp only [Bool.or_eq_true,decide_eq_true_eq]
        grind
       have e9:decide (s.getD i 0=59)=false:=decide_eq_false h59
       simp only [e,e9,Bool.false_or]; rfl
     ·have hwl:k.word.l.length<=i+1:=by
       unfold Lt.Cut.word; simp only; split
       ·omega
       ·simp only [List.length_append,List.length_singleton]; omega
      by_cases h59:s.getD i 0=59
      ·unfold Lt.Cut.byte; rw [if_pos h59]
       exact ⟨by show k.out.length<=i+1; omega,hwl,Nat.zero_le _,k4,by show k.n<=_; omega⟩
      ·have e:Lt.Cut.byte k (s.getD i 0)=k.word:=by
        unfold Lt.Cut.byte; rw [if_neg h59,if_pos]
        have hv2:(s.getD i 0=59\/k.remark=true)\/(s.getD i 0=32\/s.getD i 0=9):=by simpa only [Bool.false_or,Bool.or_eq_true,decide_eq_true_eq] using hv
        simp only [Bool.or_eq_true,decide_eq_true_eq]
        grind
       rw [e]
       exact ⟨by show k.out.length<=i+1; omega,hwl,Nat.zero_le _,k4,by show k.n<=_; omega⟩
    ·have hv2:¬ ((s.getD i 0=59\/k.remark=true)\/(s.getD i 0=32\/s.getD i 0=9)):=by simpa only [Bool.false_or,Bool.or_eq_true,decide_eq_true_eq] using hv
     have h59:¬ s.getD i 0=59:=fun e=>hv2 (.inl (.inl e))
     have e:Lt.Cut.byte k (s.getD i 0)={ k with bad:=k.bad||(decide ((s.getD i 0).toNat < 33)||decide (126 < (s.getD i 0).toNat)),w:=k.w++[s.getD i 0] }:=by
      unfold Lt.Cut.byte; rw [if_neg h59,if_neg]
      simp only [Bool.or_eq_true,decide_eq_true_eq]
      grind
     rw [e] at hk2
     refine ⟨by omega,_,?_,?_,hk2⟩
     ·have e9:decide (s.getD i 0=59)=false:=decide_eq_false h59
      simp only [e9,Bool.false_or]
     ·exact ⟨by show k.out.length<=i+1; omega,by show k.l.length<=i+1; omega,by simp only [List.length_append,List.length_singleton]; omega,k4,by show k.n<=_; omega⟩
  ·omega
 ·rcases hx with ⟨hi,_⟩ | ⟨_,a,b,c,d,e,o,rfl,hk⟩
  ·omega
  ·simp only [show decide (((s.length+1:Nat):Int)<=(s.length:Int))=false by simp; omega,Bool.false_eq_true,if_false]
   exact fun _=>hk
end Go.Am
end

section
namespace Go.Am
open Go
set_option linter.unusedVariables false
set_option linter.unusedSimpArgs false
theorem range_all {α:Type} (p:α->Bool) (d:α):∀ l:List α,((List.range l.length).all fun i=>p (l.getD i d))=l.all p
 | []=>rfl
 | a::r=>by
  rw [List.length_cons,List.range_succ_eq_map,List.all_cons,List.all_map]
  have:=range_all p d r
  simp only [List.all_cons,Function.comp_def,List.getD_cons_zero,List.getD_cons_succ]
  rw [this]
theorem rNameB_eq (i:Nat) (c:UInt8):Lt.rNameB i c=(Lt.letter c||(Lt.wordDigit c&&decide (0<i))):=by
 unfold Lt.rNameB Lt.letter Lt.letterI Lt.wordDigit
 rw [Bool.eq_iff_iff]
 simp
 omega
theorem rName_eq (s:List UInt8):Lt.rName s=Lt.Name s:=by
 unfold Lt.rName Lt.Name Lt.kept
 cases s with
 | nil=>rfl
 | cons a r=>
  rw [List.length_cons,List.range_succ_eq_map,List.all_cons,List.all_map]
  have e:((List.range r.length).all ((fun i=>Lt.rNameB i ((a::r).getD i 0)) ∘ Nat.succ))=r.all Lt.nameByte:=by
   rw [<- range_all Lt.nameByte 0 r]
   congr 1; funext i
   simp [rNameB_eq,Lt.nameByte]
  have e16:decide (((r.length+1:Nat):Int)<=16)=decide (r.length+1<=16):=decide_eq_decide.2 (by omega)
  have e1:decide (1<=((r.length+1:Nat):Int))=true:=by simp; omega
  rw [e,rNameB_eq,e16,e1]
  simp only [List.all_cons,List.getD_cons_zero,Lt.nameByte,Nat.lt_irrefl,decide_false,Bool.and_false,Bool.or_false,reduceCtorEq,Bool.not_false,Bool.true_and]
  cases Lt.letter a <;> cases Lt.wordDigit a <;> cases r.all (fun c=>Lt.letter c||Lt.wordDigit c) <;> simp
  all_goals grind
theorem nan_bits (x:Nat):(9218868437227405312<x % 9223372036854775808) ↔ ((x &&& 9218868437227405312)=9218868437227405312/\(x &&& 4503599627370495)≠0):=by
 have e1:x &&& 4503599627370495=x % 2 ^ 52:=Nat.and_two_pow_sub_one_eq_mod x 52
 have e2:x &&& 9223372036854775807=x % 2 ^ 63:=Nat.and_two_pow_sub_one_eq_mod x 63
 have e3:(x &&& 9218868437227405312) % 2 ^ 52=0:=by
  rw [<- Nat.and_two_pow_sub_one_eq_mod,Nat.and_assoc]
  have:(9218868437227405312 &&& (2 ^ 52 - 1):Nat)=0:=by decide
  rw [this,Nat.and_zero]
 have e4:x &&& 9223372036854775807=(x &&& 9218868437227405312) ||| (x &&& 4503599627370495):=by
  rw [<- Nat.and_or_distrib_left]
  have:(9218868437227405312 ||| 4503599627370495:Nat)=9223372036854775807:=by decide
  rw [this]
 obtain ⟨q,hq⟩:∃ q,x &&& 9218868437227405312=2 ^ 52*q:=⟨_,(Nat.mul_div_cancel' (Nat.dvd_of_mod_eq_zero e3)).symm⟩
 have h:=Nat.and_le_right (n:=x) (m:=9218868437227405312)
 rw [hq,e1,<- Nat.two_pow_add_eq_or_of_lt (Nat.mod_lt _ (by decide))] at e4
 rw [hq] at h
 rw [hq,e1]
 omega
theorem wrapu_eq (n:Int):IntKind.u64.wrap n=(((BitVec.ofInt 64 n).toNat:Nat):Int):=by
 rw [BitVec.toNat_ofInt]
 simp only [IntKind.wrap,IntKind.signed,IntKind.bits]
 simp
 omega
theorem plain_eq (n:Int):Lt.rPlain n=Lt.Plain n:=by
 unfold Lt.rPlain Lt.rIsNan Lt.Plain
 have b64:IntKind.i64.bits=64:=rfl
 rw [wrapu_eq,b64,BitVec.toNat_and,BitVec.toNat_and]
 generalize (BitVec.ofInt 64 n).toNat=x
 have c1:(BitVec.ofInt 64 9218868437227405312).toNat=9218868437227405312:=by decide
 have c2:(BitVec.ofInt 64 4503599627370495).toNat=4503599627370495:=by decide
 rw [c1,c2]
 have h1:=Nat.and_le_right (n:=x) (m:=9218868437227405312)
 have h2:=Nat.and_le_right (n:=x) (m:=4503599627370495)
 have:=nan_bits x
 rw [wrap_small (by omega) (by omega),wrap_small (by omega) (by omega)]
 have et:Int.tmod (x:Int) 9223372036854775808=((x % 9223372036854775808:Nat):Int):=rfl
 rw [et]
 by_cases hc:9218868437227405312<x % 9223372036854775808
 ·have h:=this.1 hc
  have k1:((x &&& 9218868437227405312:Nat):Int)=9218868437227405312:=by omega
  have k2:¬ ((x &&& 4503599627370495:Nat):Int)=0:=by omega
  rw [if_pos (by simp; omega),if_pos (by rw [decide_eq_true k1,decide_eq_false k2]; rfl)]
 ·have h:¬ (((x &&& 9218868437227405312:Nat):Int)=9218868437227405312/\¬ ((x &&& 4503599627370495:Nat):Int)=0):=fun h=>hc (this.2 ⟨by omega,by omega⟩)
  rw [if_neg (by simp; omega),if_neg (by simpa using h)]
def hexT:List UInt8:=[48,49,50,51,52,53,54,55,56,57,97,98,99,100,101,102]
def hexN (k:Nat):UInt8:=hexT.getD (k % 16) 0
theorem hexB_eq (k:Nat):Lt.hexB (k:Int)=hexN k:=by
 unfold Lt.hexB hexN
 have e:Int.tmod (k:Int) 16=((k % 16:Nat):Int):=rfl
 rw [e]
 have h:k % 16 < 16:=Nat.mod_lt _ (by decide)
 generalize k % 16=j at h
 have:∀ j:Fin 16,UInt8.ofNat (IntKind.u8.wrap ((IntKind.u8.wrap ((j.1:Nat):Int))+(if IntKind.u8.wrap ((j.1:Nat):Int) < 10 then 48 else 87))).toNat=hexT.getD j.1 0:=by decide
 exact this ⟨j,h⟩
theorem hexR_eq:∀ (k m:Nat) (l:List UInt8),m < 18446744073709551616->Lt.hexR k (m:Int) l=((List.range k).map fun i=>hexN (m / 16 ^ (k - 1-i)))++l
 | 0,m,l,_=>rfl
 | k+1,m,l,h=>by
  rw [Lt.hexR,show Int.tdiv (m:Int) 16=((m / 16:Nat):Int) from rfl,wrapu_small (by omega),hexR_eq k (m / 16) _ (by omega),hexB_eq,List.range_succ,List.map_append]
  have e:(List.range k).map (fun i=>hexN (m / 16 / 16 ^ (k - 1-i)))=(List.range k).map (fun i=>hexN (m / 16 ^ (k+1 - 1-i))):=by
   refine List.map_congr_left (fun i hi=>?_)
   have hi:i<k:=List.mem_range.1 hi
   rw [Nat.div_div_eq_div_mul,show k+1 - 1-i=(k - 1-i)+1 by omega,Nat.pow_succ,Nat.mul_comm 16]
  rw [e]
  simp
theorem hexAt_eq (u:Int) (s:Nat) (hs:s<=60):Lt.hexAt u (s:Int)=hexN ((BitVec.ofInt 64 u).toNat / 2 ^ s):=by
 unfold Lt.hexAt
 have b64:IntKind.u64.bits=64:=rfl
 rw [wrapu_eq u,wrapu_small (n:=s) (by omega),b64,Int.toNat_natCast,Nat.min_eq_left (by omega)]
 have hx:=(BitVec.ofInt 64 u).isLt
 generalize (BitVec.ofInt 64 u).toNat=x at hx ⊢
 have e:Int.fdiv (x:Int) (2 ^ s)=((x / 2 ^ s:Nat):Int):=by
  rw [show ((2:Int) ^ s)=((2 ^ s:Nat):Int) by simp,Int.fdiv_eq_ediv_of_nonneg _ (Int.natCast_nonneg _)]; rfl
 have hlt:x / 2 ^ s < 18446744073709551616:=Nat.lt_of_le_of_lt (Nat.div_le_self _ _) hx
 have c15:(BitVec.ofInt 64 15).toNat=15:=by decide
 have e2:(BitVec.ofInt 64 ((x / 2 ^ s:Nat):Int)).toNat=x / 2 ^ s:=by
  generalize x / 2 ^ s=y at hlt
  rw [BitVec.toNat_ofInt]; omega
 rw [e,BitVec.toNat_and,c15,e2]
 have e3:(x / 2 ^ s &&& 15:Nat)=x / 2 ^ s % 16:=Nat.and_two_pow_sub_one_eq_mod _ 4
 rw [e3,wrapu_small (by omega),Int.toNat_natCast]
 rfl
theorem flo_eq (n:Int):Lt.rFlo n=Lt.floPut n:=by
 unfold Lt.rFlo Lt.floPut
 rw [plain_eq,wrapu_eq,hexR_eq 16 _ _ (BitVec.isLt _),List.append_nil]
 congr 1
 refine List.map_congr_left (fun i hi=>?_)
 have hi:i < 16:=List.mem_range.1 hi
 have e:(60:Int) - 4*(i:Int)=((60 - 4*i:Nat):Int):=by omega
 rw [e,hexAt_eq _ _ (by omega)]
 rw [show 60 - 4*i=4*(16 - 1-i) by omega,Nat.pow_mul]
theorem right_eq (a:Lt.Arg):Lt.rRight a=Lt.wordRight a:=by
 unfold Lt.rRight Lt.wordRight
 rw [rName_eq,plain_eq]
 by_cases h1:a.Kind=1
 ·rw [if_pos h1,if_pos h1]
 rw [if_neg h1,if_neg h1]
 by_cases h2:a.Kind=2
 ·simp [h2]
 by_cases h3:a.Kind=3
 ·simp [h3]
 by_cases h4:a.Kind=4
 ·simp [h4]
 by_cases h5:a.Kind=5
 ·simp [h5,Bool.and_assoc]
 have:(((decide (a.Kind < 1))||(decide (5<a.Kind)))||(!decide (a.S=[])))=true:=by simp; omega
 rw [if_pos this,if_neg h2,if_neg h3,if_neg h4,if_neg h5]
theorem word_eq (a:Lt.Arg):Lt.rWord a=Lt.wordPut a:=by
 unfold Lt.rWord Lt.wordPut Lt.rNum
 rw [right_eq,flo_eq]
 by_cases h:Lt.wordRight a=true
 ·rw [if_pos h,if_pos h]
  rcases wordRight_cases h with h | h | h | h | h
  ·simp [h.1]
  ·simp [h.1]
  ·simp [h.1]
  ·simp [h.1]
  ·simp [h.1]
 ·rw [if_neg h,if_neg h]
theorem rOf_eq (op:Int):(Lt.rOf op).2=(Lt.Of op).2/\(Lt.rOf op).1.Word=(Lt.Of op).1.Word/\(Lt.rOf op).1.Dst=(Lt.Of op).1.Dst/\(Lt.rOf op).1.Named=(Lt.Of op).1.Named/\(Lt.rOf op).1.Least=(Lt.Of op).1.Least/\(Lt.rOf op).1.Most=(Lt.Of op).1.Most:=by
 by_cases h:1<=op/\op<=34
 ·obtain ⟨k,rfl⟩:=Int.eq_ofNat_of_zero_le (show 0<=op by omega)
  have hk:k < 35:=by omega
  have:∀ k:Fin 35,1<=k.1->(Lt.rOf (k.1:Int)).2=(Lt.Of (k.1:Int)).2/\(Lt.rOf (k.1:Int)).1.Word=(Lt.Of (k.1:Int)).1.Word/\(Lt.rOf (k.1:Int)).1.Dst=(Lt.Of (k.1:Int)).1.Dst/\(Lt.rOf (k.1:Int)).1.Named=(Lt.Of (k.1:Int)).1.Named/\(Lt.rOf (k.1:Int)).1.Least=(Lt.Of (k.1:Int)).1.Least/\(Lt.rOf (k.1:Int)).1.Most=(Lt.Of (k.1:Int)).1.Most:=by decide +kernel
  exact this ⟨k,hk⟩ (by show 1<=k; omega)
 ·unfold Lt.rOf Lt.Of
  rw [if_pos (by omega)]
  repeat rw [if_neg (by omega)]
  exact ⟨rfl,rfl,rfl,rfl,rfl,rfl⟩
end Go.Am
end

section
namespace Go.Am
open Go
set_option linter.unusedVariables false
set_option linter.unusedSimpArgs false
def short (s:List UInt8):Prop:=s.length<=140737488355328
def sVar (v:Lt.Var):Prop:=short v.Name/\short v.Type_
def sArg (a:Lt.Arg):Prop:=short a.S
def sBind (b:Lt.Bind):Prop:=short b.Name/\sArg b.A
def sFrame (f:Lt.Frame):Prop:=short f.Func/\short f.Block/\∀ b∈f.Vars,sBind b
def sObj (o:Lt.Virt):Prop:=short o.Class/\∀ a∈o.Vals,sArg a
def sInstr (x:Lt.Instr):Prop:=short x.Dst/\short x.Name/\(∀ a∈x.Args,sArg a)/\(∀ f∈x.Frames,sFrame f)/\∀ o∈x.Objs,sObj o
def sIn (b:Lt.In):Prop:=short b.Block/\sArg b.A
def sPhi (x:Lt.Phi):Prop:=short x.Dst/\∀ i∈x.Ins,sIn i
def sBlock (b:Lt.Block):Prop:=short b.Name/\sArg b.End.A/\(∀ t∈b.End.To,short t)/\(∀ x∈b.Phis,sPhi x)/\∀ i∈b.Code,sInstr i
def sFunc (f:Lt.Func):Prop:=short f.Name/\short f.Result/\(∀ v∈f.Params,sVar v)/\(∀ v∈f.Vars,sVar v)/\∀ b∈f.Blocks,sBlock b
def sClass (c:Lt.Class):Prop:=short c.Name/\∀ v∈c.Fields,sVar v
end Go.Am
end

section
namespace Go.Am
open Go
set_option linter.unusedVariables false
set_option linter.unusedSimpArgs false
theorem hexR_len:∀ (k:Nat) (x:Int) (l:List UInt8),(Lt.hexR k x l).length=k+l.length
 | 0,_,_=>by simp [Lt.hexR]
 | k+1,x,l=>by rw [Lt.hexR,hexR_len k]; simp; omega
theorem gw_len (n:Nat):(gw.getD n default).length<=10:=by
 have h:∀ w∈gw,w.length<=10:=by decide
 rw [List.getD]
 cases hn:gw[n]? with
 | none=>simp; exact Nat.zero_le _
 | some w=>
  simp only [Option.getD_some]
  exact h w (List.mem_of_getElem? hn)
end Go.Am
end

section
namespace Go.Am
open Go
set_option linter.unusedVariables false
set_option linter.unusedSimpArgs false
theorem digs_digit:∀ (n:Nat),∀ c∈Lt.digs n,48<=c.toNat/\c.toNat<=57:=by
 intro n
 induction n using Nat.strongRecOn with
 | _ n ih=>
  have hd:∀ k:Nat,k < 10->(UInt8.ofNat (48+k)).toNat=48+k:=fun k hk=>by simp; omega
  by_cases h:n < 10
  ·rw [digs_small h]
   intro c hc
   rw [List.mem_singleton.1 hc,hd n h]; omega
  ·rw [digs_big h]
   intro c hc
   rcases List.mem_append.1 hc with hc | hc
   ·exact ih (n / 10) (by omega) c hc
   ·rw [List.mem_singleton.1 hc,hd _ (Nat.mod_lt _ (by decide))]
    have:=Nat.mod_lt n (show 10 > 0 by decide); omega
theorem digs_ne (n:Nat):Lt.digs n≠[]:=by
 by_cases h:n < 10
 ·rw [digs_small h]; simp
 ·rw [digs_big h]; simp
theorem numB_eq {m:Nat} {c:UInt8} (h1:48<=c.toNat) (h2:c.toNat<=57) (h3:10*m+(c.toNat - 48) < 18446744073709551616):Lt.sNumB (m:Int) c=((10*m+(c.toNat - 48):Nat):Int):=by
 unfold Lt.sNumB
 simp only [IntKind.wrap,IntKind.signed,IntKind.bits]
 simp
 omega
theorem digs_fold:∀ (n:Nat),n < 18446744073709551616->(Lt.digs n).foldl Lt.sNumB 0=(n:Int):=by
 intro n
 induction n using Nat.strongRecOn with
 | _ n ih=>
  intro hn
  have hd:∀ k:Nat,k < 10->(UInt8.ofNat (48+k)).toNat=48+k:=fun k hk=>by simp; omega
  by_cases h:n < 10
  ·rw [digs_small h]
   show Lt.sNumB ((0:Nat):Int) _=_
   rw [numB_eq (by rw [hd n h]; omega) (by rw [hd n h]; omega) (by rw [hd n h]; omega),hd n h]; omega
  ·rw [digs_big h,foldl_snoc,ih (n / 10) (by omega) (by omega)]
   have:=Nat.mod_lt n (show 10 > 0 by decide)
   rw [numB_eq (by rw [hd _ this]; omega) (by rw [hd _ this]; omega) (by rw [hd _ this]; omega),hd _ this]; omega
theorem numV_put {n:Int} (h:Lt.inR n):Lt.sNumV (Lt.numPut n)=n:=by
 have hl:=numPut_len h
 unfold Lt.inR at h
 have hne:=digs_ne n.natAbs
 have hdd:=digs_digit n.natAbs
 have hf:=digs_fold n.natAbs (by omega)
 unfold Lt.sNumV Lt.sNumD Lt.sHalf
 rw [List.take_of_length_le (show (Lt.numPut n).length<=30 by omega)]
 by_cases hn:n < 0
 ·have e:Lt.numPut n=45::Lt.digs n.natAbs:=by unfold Lt.numPut; rw [if_pos hn]; rfl
  rw [e]
  simp only [List.getD_cons_zero,if_true,List.drop_succ_cons,List.drop_zero]
  rw [hf]
  simp only [IntKind.wrap,IntKind.signed,IntKind.bits]
  simp
  omega
 ·have e:Lt.numPut n=Lt.digs n.natAbs:=by unfold Lt.numPut; rw [if_neg hn]; rfl
  rw [e]
  have h45:¬ (Lt.digs n.natAbs).getD 0 0=45:=by
   intro e
   cases hh:Lt.digs n.natAbs with
   | nil=>exact hne hh
   | cons a r=>
    rw [hh] at e hdd
    have:=hdd a (by simp)
    have e:a=45:=e
    subst e
    simp at this
  rw [if_neg h45,if_neg h45,hf]
  simp only [IntKind.wrap,IntKind.signed,IntKind.bits]
  simp
  omega
theorem sNum_put {n:Int} (h:Lt.inR n):Lt.sNum (Lt.numPut n)=(n,true):=by
 unfold Lt.sNum
 rw [numV_put h,if_pos (show Lt.rNum n=Lt.numPut n from rfl)]
theorem sNum_back {s:List UInt8} (h:(Lt.sNum s).2=true):Lt.numPut (Lt.sNum s).1=s:=by
 unfold Lt.sNum at h ⊢
 split at h
 ·rename_i hc; rw [if_pos hc]; exact hc
 ·cases h
theorem numPut_byte (n:Int):∀ c∈Lt.numPut n,c=45\/(48<=c.toNat/\c.toNat<=57):=by
 intro c hc
 unfold Lt.numPut at hc
 rcases List.mem_append.1 hc with hc | hc
 ·split at hc
  ·exact .inl (List.mem_singleton.1 hc)
  ·cases hc
 ·exact .inr (digs_digit _ c hc)
theorem numPut_ne (n:Int):Lt.numPut n≠[]:=by
 unfold Lt.numPut
 have:=digs_ne n.natAbs
 simp [this]
theorem hexN_val (k:Nat):(if 97<=(IntKind.u64.wrap (((hexN k).toNat:Nat):Int)) then IntKind.u64.wrap ((IntKind.u64.wrap (((hexN k).toNat:Nat):Int)) - 87) else IntKind.u64.wrap ((IntKind.u64.wrap (((hexN k).toNat:Nat):Int)) - 48))=((k % 16:Nat):Int):=by
 unfold hexN
 have h:k % 16 < 16:=Nat.mod_lt _ (by decide)
 generalize k % 16=j at h
 have:∀ j:Fin 16,(if 97<=(IntKind.u64.wrap (((hexT.getD j.1 0).toNat:Nat):Int)) then IntKind.u64.wrap ((IntKind.u64.wrap (((hexT.getD j.1 0).toNat:Nat):Int)) - 87) else IntKind.u64.wrap ((IntKind.u64.wrap (((hexT.getD j.1 0).toNat:Nat):Int)) - 48))=((j.1:Nat):Int):=by decide
 exact this ⟨j,h⟩
theorem floB_eq {u k:Nat} (h:16*u+15 < 18446744073709551616):Lt.sFloB (u:Int) (hexN k)=((16*u+k % 16:Nat):Int):=by
 unfold Lt.sFloB
 rw [hexN_val]
 have e:Int.tmod ((k % 16:Nat):Int) 16=((k % 16:Nat):Int):=by
  rw [show Int.tmod ((k % 16:Nat):Int) 16=((k % 16 % 16:Nat):Int) from rfl,Nat.mod_mod]
 rw [e]
 have h16:=Nat.mod_lt k (show 16 > 0 by decide)
 rw [show ((u:Nat):Int)*16=((16*u:Nat):Int) by omega,wrapu_small (by omega),show ((16*u:Nat):Int)+((k % 16:Nat):Int)=((16*u+k % 16:Nat):Int) by omega,wrapu_small (by omega)]
theorem hexR_fold:∀ (k m:Nat) (l:List UInt8),m < 18446744073709551616->k<=16->(Lt.hexR k (m:Int) l).foldl Lt.sFloB 0=l.foldl Lt.sFloB ((m % 16 ^ k:Nat):Int)
 | 0,m,l,_,_=>by simp [Lt.hexR,Nat.mod_one]
 | k+1,m,l,h,hk=>by
  rw [Lt.hexR,show Int.tdiv (m:Int) 16=((m / 16:Nat):Int) from rfl,wrapu_small (by omega),hexR_fold k (m / 16) _ (by omega) (by omega),hexB_eq,List.foldl_cons]
  have hp:16 ^ k<=16 ^ 15:=Nat.pow_le_pow_right (by decide) (by omega)
  have hm:=Nat.mod_lt (m / 16) (show 16 ^ k > 0 from Nat.pow_pos (by decide))
  have h15:(16:Nat) ^ 15=1152921504606846976:=by decide
  rw [floB_eq (by omega)]
  congr 2
  rw [Nat.pow_succ,Nat.mul_comm (16 ^ k) 16,Nat.mod_mul]
  omega
theorem plain_inR {n:Int} (h:Lt.inR n):Lt.inR (Lt.rPlain n):=by
 unfold Lt.rPlain Lt.inR at *
 split <;> omega
theorem floV_put {n:Int} (h:Lt.inR n):Lt.sFloV (Lt.rFlo n)=Lt.rPlain n:=by
 have hp:=plain_inR h
 unfold Lt.inR at hp
 unfold Lt.sFloV Lt.rFlo
 have hx:IntKind.u64.wrap (Lt.rPlain n)=(((IntKind.u64.wrap (Lt.rPlain n)).toNat:Nat):Int):=by
  rw [wrapu_eq]; rfl
 have hlt:(IntKind.u64.wrap (Lt.rPlain n)).toNat < 18446744073709551616:=by
  rw [wrapu_eq]; exact BitVec.isLt _
 have hl:=hexR_len 16 (IntKind.u64.wrap (Lt.rPlain n)) []
 have ed:([48,102]++Lt.hexR 16 (IntKind.u64.wrap (Lt.rPlain n)) []).drop 2=Lt.hexR 16 (IntKind.u64.wrap (Lt.rPlain n)) []:=rfl
 rw [ed,List.take_of_length_le (by rw [hl]; simp),hx,hexR_fold 16 _ _ hlt (by omega)]
 simp only [List.foldl_nil]
 have h16:(16:Nat) ^ 16=18446744073709551616:=by decide
 rw [h16,Nat.mod_eq_of_lt hlt,<- hx]
 simp only [IntKind.wrap,IntKind.signed,IntKind.bits]
 simp
 omega
theorem rFlo_len (n:Int):(Lt.rFlo n).length=18:=by rw [flo_eq]; exact floPut_len n
theorem rFlo_plain (n:Int):Lt.rFlo (Lt.rPlain n)=Lt.rFlo n:=by
 unfold Lt.rFlo
 have:Lt.rPlain (Lt.rPlain n)=Lt.rPlain n:=by
  unfold Lt.rPlain
  by_cases h:Lt.rIsNan n=true
  ·rw [if_pos h]; simp
  ·rw [if_neg h,if_neg h]
 rw [this]
theorem sFlo_put {n:Int} (h:Lt.inR n):Lt.sFlo (Lt.rFlo n)=(Lt.rPlain n,true):=by
 unfold Lt.sFlo
 rw [floV_put h,if_pos ⟨rFlo_len n,rFlo_plain n⟩]
theorem sTry_iff (s:List UInt8) (a:Lt.Arg):Lt.sTry s a=true ↔ Lt.wordRight a=true/\Lt.wordPut a=s:=by
 unfold Lt.sTry
 rw [right_eq,word_eq]; simp
theorem word2 {n:Int}:Lt.wordPut ⟨2,[],n⟩=Lt.numPut n:=by simp [Lt.wordPut,Lt.wordRight]
theorem word3 {n:Int} (h:Lt.Plain n=n):Lt.wordPut ⟨3,[],n⟩=Lt.floPut n:=by simp [Lt.wordPut,Lt.wordRight,h]
theorem word4:Lt.wordPut ⟨4,[],0⟩=[110,117,108,108]:=by decide
theorem word5 {n:Int} (h0:0<=n) (h1:n<=999):Lt.wordPut ⟨5,[],n⟩=35::Lt.numPut n:=by simp [Lt.wordPut,Lt.wordRight,h0,h1]
theorem word1 {s:List UInt8} (h:Lt.Name s=true):Lt.wordPut ⟨1,s,0⟩=s:=by simp [Lt.wordPut,Lt.wordRight,h]
theorem try1 (s:List UInt8):Lt.sTry s ⟨1,s,0⟩=Lt.Name s:=by
 unfold Lt.sTry
 rw [right_eq,word_eq]
 by_cases h:Lt.Name s=true
 ·rw [word1 h]; simp [Lt.wordRight,h]
 ·simp [Lt.wordRight,h]
theorem sArg_back {s:List UInt8} (h:(Lt.sArg s).2=true):Lt.wordRight (Lt.sArg s).1=true/\Lt.wordPut (Lt.sArg s).1=s:=by
 unfold Lt.sArg at h ⊢
 split at h
 ·rename_i hc; rw [if_pos hc]; exact (sTry_iff _ _).1 hc
 rename_i n1; rw [if_neg n1]
 split at h
 ·rename_i hc; rw [if_pos hc]; exact (sTry_iff _ _).1 hc
 rename_i n2; rw [if_neg n2]
 split at h
 ·rename_i hc; rw [if_pos hc]; exact (sTry_iff _ _).1 hc
 rename_i n3; rw [if_neg n3]
 split at h
 ·rename_i hc; rw [if_pos hc]; exact (sTry_iff _ _).1 hc
 rename_i n4; rw [if_neg n4]
 split at h
 ·rename_i hc; rw [if_pos hc]; exact (sTry_iff _ _).1 hc
 ·cases h
theorem argOk_back {objs:Bool} {s:List UInt8} (h:Lt.argOk objs s=true):Lt.argRight objs (Lt.sArg s).1=true:=by
 unfold Lt.argOk at h
 simp only [Bool.and_eq_true] at h
 unfold Lt.argRight
 rw [(sArg_back h.1).1]
 simpa using h.2
theorem sArgs_back {objs:Bool} {l:List (List UInt8)} (h:(Lt.sArgs l objs).2=true):Lt.showArgs (Lt.sArgs l objs).1 objs=true/\(Lt.sArgs l objs).1.length=l.length/\Lt.puts (Lt.sArgs l objs).1=l:=by
 unfold Lt.sArgs at h ⊢
 split at h
 ·rename_i hc
  rw [if_pos hc]
  rw [List.all_eq_true] at hc
  refine ⟨?_,by simp,?_⟩
  ·unfold Lt.showArgs
   rw [List.all_eq_true]
   intro a ha
   obtain ⟨w,hw,rfl⟩:=List.mem_map.1 ha
   exact argOk_back (hc w hw)
  ·unfold Lt.puts
   rw [List.map_map]
   have:∀ w∈l,(Lt.wordPut ∘ (fun w=>(Lt.sArg w).1)) w=id w:=fun w hw=>by
    have:=hc w hw
    unfold Lt.argOk at this
    simp only [Bool.and_eq_true] at this
    exact (sArg_back this.1).2
   rw [List.map_congr_left this,List.map_id]
 ·cases h
theorem pairsG_back {objs:Bool}:∀ {l:List (List UInt8)} {x:List Lt.Bind},Lt.sPairsG objs l=some x->(∀ b∈x,Lt.Name b.Name=true/\Lt.argRight objs b.A=true)/\(x.flatMap fun b=>[b.Name,Lt.wordPut b.A])=l
 | [],x,h=>by
  have:x=[]:=by simpa [Lt.sPairsG] using h.symm
  subst this; simp
 | [_],x,h=>by simp [Lt.sPairsG] at h
 | a::b::r,x,h=>by
  rw [Lt.sPairsG] at h
  split at h
  ·rename_i hc
   rw [Bool.and_eq_true,rName_eq] at hc
   cases hr:Lt.sPairsG objs r with
   | none=>simp [hr] at h
   | some y=>
    obtain ⟨k1,k2⟩:=pairsG_back hr
    simp [hr] at h
    subst h
    refine ⟨?_,?_⟩
    ·intro z hz
     rcases List.mem_cons.1 hz with rfl | hz
     ·exact ⟨hc.1,argOk_back hc.2⟩
     ·exact k1 z hz
    ·rw [List.flatMap_cons,k2]
     have:=hc.2
     unfold Lt.argOk at this
     simp only [Bool.and_eq_true] at this
     rw [(sArg_back this.1).2]; rfl
  ·simp at h
theorem opG_back (w:List UInt8):∀ (l:List (List UInt8)) (n m:Int),Lt.sOpG w l n=(m,true)->∃ i:Nat,i<l.length/\m=n+(i:Int)/\l.getD i []=w
 | [],n,m,h=>by simp [Lt.sOpG] at h
 | x::r,n,m,h=>by
  rw [Lt.sOpG] at h
  split at h
  ·rename_i hx
   exact ⟨0,by simp,by simp at h; omega,by simpa using hx⟩
  ·obtain ⟨i,h1,h2,h3⟩:=opG_back w r _ _ h
   exact ⟨i+1,by simp; omega,by omega,by simpa using h3⟩
theorem sOp_back {w:List UInt8} (h:(Lt.sOp w).2=true):(1<=(Lt.sOp w).1/\(Lt.sOp w).1<=34)/\(Lt.Of (Lt.sOp w).1).1.Word=w/\(Lt.Of (Lt.sOp w).1).2=true:=by
 have e:Lt.sOp w=((Lt.sOp w).1,true):=by rw [<- h]
 obtain ⟨i,h1,h2,h3⟩:=opG_back w (gw.drop 1) 1 (Lt.sOp w).1 e
 have hi:i < 34:=h1
 have ho:=rOf_eq (Lt.sOp w).1
 have hr1:(Lt.rOf (Lt.sOp w).1).1.Word=gw.getD (Lt.sOp w).1.toNat default:=by
  unfold Lt.rOf; rw [if_neg (by omega)]
 have hr2:(Lt.rOf (Lt.sOp w).1).2=true:=by
  unfold Lt.rOf; rw [if_neg (by omega)]
 refine ⟨by omega,?_,?_⟩
 ·rw [<- ho.2.1,hr1,h2,<- h3,show (1+(i:Int)).toNat=1+i by omega,List.getD,List.getD,List.getElem?_drop]; rfl
 ·rw [<- ho.1,hr2]
end Go.Am
end

section
namespace Go.Am
open Go
set_option linter.unusedVariables false
set_option linter.unusedSimpArgs false
end Go.Am
end

section
namespace Go.Am
open Go
set_option linter.unusedVariables false
set_option linter.unusedSimpArgs false
theorem exQ_if {β:Type} (c:Bool) (x:β) (n:Int) (K:β->Prop) (KP:Value->Prop):exQ (if c=true then .ok x else .error (Lt.flt n)) K KP=if c=true then K x else KP (Lt.flt n):=by
 cases c <;> rfl
theorem law_yName (w:List UInt8) (KK:List UInt8->Prop) (KP:Value->Prop) (h:exQ (Lt.yName w) KK KP):F_yName w KK KP:=by
 unfold F_yName
 unfold Lt.yName at h
 rw [exQ_if] at h
 cases hn:Lt.Name w <;> simpa [hn] using h
theorem law_yKind (w:List UInt8) (KK:List UInt8->Prop) (KP:Value->Prop) (h:exQ (Lt.yKind w) KK KP):F_yKind w KK KP:=by
 unfold F_yKind
 unfold Lt.yKind at h
 rw [exQ_if] at h
 simp only [jn_app,jn_ite,jn_const,Bool.not_true,Bool.false_eq_true,if_false]
 unfold Lt.sKind at h
 rw [rName_eq] at h
 cases hn:Lt.Name w <;> by_cases h1:w=[105,110,116] <;> by_cases h2:w=[102,108,111,97,116] <;> simpa [hn,h1,h2] using h
theorem law_yHas (l:List Int) (n:Int) (KK:Bool->Prop) (h:KK (Lt.yHas l n)):F_yHas l n KK:=by
 unfold F_yHas
 refine fun hl=>drop_loopS l hl (fun (_:Unit) i=>i) (fun t _=>t.contains n) KK _ (fun R _ i hi ih h=>?_) (fun R _ h=>?_) () h
 ·simp only [lt_t hi,if_true,Int.toNat_natCast]
  refine ⟨⟨Int.natCast_nonneg i,hi⟩,?_⟩
  by_cases hc:l.getD i default=n
  ·rw [if_pos (by simpa using hc)]
   rw [List.contains_cons,hc] at h
   simpa using h
  ·rw [if_neg (by simpa using hc)]
   refine ih () ?_
   rw [List.contains_cons,show (n==l.getD i default)=false from beq_eq_false_iff_ne.2 (fun e=>hc e.symm),Bool.false_or] at h
   exact h
 ·simp only [lt_f,Bool.false_eq_true,if_false]; exact h
theorem law_yNumber (w:List UInt8) (a b:Int) (KK:Int->Prop) (KP:Value->Prop) (h:exQ (Lt.yNumber w a b) KK KP):F_yNumber w a b KK KP:=by
 unfold F_yNumber
 unfold Lt.yNumber at h
 rw [exQ_if] at h
 dsimp +instances only [Lt.numGet]
 cases h1:(Lt.sNum w).2 <;> by_cases h2:a<=(Lt.sNum w).1 <;> by_cases h3:(Lt.sNum w).1<=b <;> simpa [h1,h2,h3,jn_app,jn_const] using h
theorem law_yArg (w:List UInt8) (o:Bool) (KK:Lt.Arg->Prop) (KP:Value->Prop) (h:exQ (Lt.yArg w o) KK KP):F_yArg w o KK KP:=by
 unfold F_yArg
 unfold Lt.yArg at h
 rw [exQ_if] at h
 unfold Lt.argOk at h
 dsimp +instances only [Lt.wordGet]
 cases h1:(Lt.sArg w).2 <;> cases o <;> by_cases h2:(Lt.sArg w).1.Kind=5 <;> simpa [h1,h2,jn_app,jn_const] using h
theorem law_wordNumber (s:List UInt8) (KK:Lt.Arg×Bool->Prop) (h:KK (Lt.wordNumber s)):F_wordNumber s KK:=by
 unfold F_wordNumber
 unfold Lt.wordNumber at h
 simp only [Lt.floGet,Lt.numGet]
 grind
end Go.Am
end

section
namespace Go.Am
open Go
set_option linter.unusedVariables false
set_option linter.unusedSimpArgs false
section
variable {r:Lt.Reader} {w:Int} (K:Unit->Lt.Reader->Prop) (KP:Value->Lt.Reader->Prop)
theorem res_ite (c:Prop) [Decidable c] (x y:Int×Lt.Read):exP (Lt.yRes r (if c then x else y) w) K KP=if c then exP (Lt.yRes r x w) K KP else exP (Lt.yRes r y w) K KP:=by split <;> rfl
theorem res_3 (x:Lt.Read):exP (Lt.yRes r (3,x) w) K KP=KP (Lt.flt 3) r:=rfl
theorem res_2 (x:Lt.Read):exP (Lt.yRes r (2,x) w) K KP=KP (Lt.flt 2) r:=rfl
theorem res_0 (x:Lt.Read):exP (Lt.yRes r (0,x) w) K KP=K () ⟨x.P,r.at_,w,r.first,x.Long⟩:=rfl
theorem res_20 (c:Prop) [Decidable c] (x:Lt.Read):exP (Lt.yRes r (if c then 2 else 0,x) w) K KP=if c then KP (Lt.flt 2) r else K () ⟨x.P,r.at_,w,r.first,x.Long⟩:=by split <;> rfl
end
theorem has_01 {r:Lt.Reader} (hw:0<=r.where_/\r.where_<=7):Lt.yHas [0,1] r.where_=r.abs.out:=by
 unfold Lt.yHas Lt.Read.out Lt.Reader.abs
 dsimp only
 by_cases h0:r.where_=0
 ·rw [if_pos h0]; by_cases hl:0<=r.long <;> simp [h0,hl]
 ·rw [if_neg h0]
  by_cases h1:r.where_=1
  ·simp [h1]
  ·rw [if_neg h1]
   have a:¬ r.where_+1<=2:=by omega
   have b:¬ r.where_+1=9:=by omega
   simp [a,b,h0,h1]
theorem exQ_name (w:List UInt8) (K:List UInt8->Prop) (KP:Value->Prop):exQ (Lt.yName w) K KP=if Lt.rName w=true then K w else KP (Lt.flt 3):=by
 unfold Lt.yName; rw [exQ_if,rName_eq]
theorem abs_P (r:Lt.Reader):r.abs.P=r.p:=rfl
theorem abs_L (r:Lt.Reader):r.abs.Long=r.long:=rfl
theorem law_yClass (r:Lt.Reader) (l:List (List UInt8)) (hp:Lt.preReader r l) (KK:Unit×Lt.Reader->Prop) (KP:Value->Lt.Reader->Prop) (h:exP (Lt.yClass r l) (fun z x=>KK (z,x)) KP):F_yClass r l KK KP:=by
 obtain ⟨⟨hi,hw,_,_⟩,hne,hr⟩:=hp
 unfold F_yClass
 unfold Lt.yClass at h
 unfold Lt.sClass at h
 simp only [res_ite,res_3,res_2,res_0] at h
 simp only [has_01 hw,exQ_name,show l.getD 1 default=Lt.w1 l from rfl]
 generalize Lt.rName (Lt.w1 l)=nm at h ⊢
 generalize r.abs.out=o at h ⊢
 cases o with
 | false=>simpa using h
 | true=>
  refine ifk (fun hc=>by simp at hc) (fun _=>fun _=>?_)
  by_cases h2:l.length=2
  ·refine ifk (fun hc=>by simp [h2] at hc) (fun _=>⟨⟨by decide,by omega⟩,trivial,?_⟩)
   cases nm with
   | false=>simpa using h
   | true=>
    rw [if_neg (by simp [h2])] at h
    simp only [if_true,jn_app,jn_and,and_self]
    refine fun _=>ifk (fun hc=>?_) (fun hc=>?_)
    ·rw [if_pos (show 8<=r.abs.P.Classes.length by rw [abs_P]; simp only [decide_eq_true_eq] at hc; omega)] at h; exact h
    ·rw [if_neg (show ¬ 8<=r.abs.P.Classes.length by rw [abs_P]; simp only [decide_eq_true_eq] at hc; omega)] at h
     have h8:r.p.Classes.length < 8:=by simp only [decide_eq_true_eq] at hc; omega
     rw [List.length_singleton]
     exact ⟨⟨by omega,by omega⟩,h⟩
  ·rw [if_pos (by simp [h2])] at h
   exact ifk (fun _=>h) (fun hc=>by simp at hc; omega)
theorem exQ_kind (w:List UInt8) (K:List UInt8->Prop) (KP:Value->Prop):exQ (Lt.yKind w) K KP=if Lt.sKind w=true then K w else KP (Lt.flt 3):=by
 unfold Lt.yKind; rw [exQ_if]
theorem law_yGlobal (r:Lt.Reader) (l:List (List UInt8)) (hp:Lt.preReader r l) (KK:Unit×Lt.Reader->Prop) (KP:Value->Lt.Reader->Prop) (h:exP (Lt.yGlobal r l) (fun z x=>KK (z,x)) KP):F_yGlobal r l KK KP:=by
 obtain ⟨⟨hi,hw,_,_⟩,hne,hr⟩:=hp
 have h8:=hi.1
 unfold F_yGlobal
 unfold Lt.yGlobal Lt.sGlobal Lt.sTyped at h
 simp only [res_ite,res_3,res_20] at h
 dsimp only
 simp only [has_01 hw,exQ_name,exQ_kind,show l.getD 1 default=Lt.w1 l from rfl,show l.getD 2 default=Lt.w2 l from rfl,show l.getD 1 []=Lt.w1 l from rfl,show l.getD 2 []=Lt.w2 l from rfl,jn_app,jn_and,jn_imp,jn_ite,jn_const,and_self,true_and] at h ⊢
 generalize Lt.rName (Lt.w1 l)=nm at h ⊢
 generalize Lt.sKind (Lt.w2 l)=kd at h ⊢
 generalize r.abs.out=o at h ⊢
 cases o with
 | false=>simpa using h
 | true=>
  refine ifk (fun hc=>by simp at hc) (fun _=>fun _=>?_)
  by_cases h3:l.length=3
  ·refine ifk (fun hc=>by simp [h3] at hc) (fun _=>⟨⟨by decide,by omega⟩,⟨by decide,by omega⟩,?_⟩)
   cases nm with
   | false=>simpa using h
   | true=>
    cases kd with
    | false=>simpa [h3] using h
    | true=>
     rw [if_neg (by simp [h3])] at h
     simp only [if_true]
     refine fun _=>ifk (fun hc=>?_) (fun hc=>?_)
     ·rw [if_pos (show 8<=r.abs.P.Globals.length by rw [abs_P]; simp only [decide_eq_true_eq] at hc; omega)] at h; exact h
     ·rw [if_neg (show ¬ 8<=r.abs.P.Globals.length by rw [abs_P]; simp only [decide_eq_true_eq] at hc; omega)] at h
      have h9:r.p.Globals.length < 8:=by simp only [decide_eq_true_eq] at hc; omega
      rw [List.length_singleton]
      exact ⟨⟨by omega,by omega⟩,h⟩
  ·rw [if_pos (by simp [h3])] at h
   exact ifk (fun _=>h) (fun hc=>by simp at hc; omega)
theorem law_yFunction (r:Lt.Reader) (l:List (List UInt8)) (hp:Lt.preReader r l) (KK:Unit×Lt.Reader->Prop) (KP:Value->Lt.Reader->Prop) (h:exP (Lt.yFunction r l) (fun z x=>KK (z,x)) KP):F_yFunction r l KK KP:=by
 obtain ⟨⟨hi,hw,_,_⟩,hne,hr⟩:=hp
 have h8:=hi.1
 unfold F_yFunction
 unfold Lt.yFunction Lt.sFunc Lt.sTyped at h
 simp only [res_ite,res_3,res_20] at h
 dsimp only
 simp only [has_01 hw,exQ_name,exQ_kind,show l.getD 1 default=Lt.w1 l from rfl,show l.getD 2 default=Lt.w2 l from rfl,show l.getD 1 []=Lt.w1 l from rfl,show l.getD 2 []=Lt.w2 l from rfl,jn_app,jn_and,jn_imp,jn_ite,jn_const,and_self,true_and] at h ⊢
 generalize Lt.rName (Lt.w1 l)=nm at h ⊢
 generalize Lt.sKind (Lt.w2 l)=kd at h ⊢
 generalize r.abs.out=o at h ⊢
 cases o with
 | false=>simpa using h
 | true=>
  refine ifk (fun hc=>by simp at hc) (fun _=>fun _=>?_)
  by_cases h3:l.length=3
  ·refine ifk (fun hc=>by simp [h3] at hc) (fun _=>⟨⟨by decide,by omega⟩,⟨by decide,by omega⟩,?_⟩)
   cases nm with
   | false=>simpa using h
   | true=>
    cases kd with
    | false=>simpa [h3] using h
    | true=>
     rw [if_neg (by simp [h3])] at h
     simp only [if_true]
     refine fun _=>ifk (fun hc=>?_) (fun hc=>?_)
     ·rw [if_pos (show 8<=r.abs.P.Funcs.length by rw [abs_P]; simp only [decide_eq_true_eq] at hc; omega)] at h; exact h
     ·rw [if_neg (show ¬ 8<=r.abs.P.Funcs.length by rw [abs_P]; simp only [decide_eq_true_eq] at hc; omega)] at h
      have h9:r.p.Funcs.length < 8:=by simp only [decide_eq_true_eq] at hc; omega
      rw [List.length_singleton]
      exact ⟨⟨by omega,by omega⟩,h⟩
  ·rw [if_pos (by simp [h3])] at h
   exact ifk (fun _=>h) (fun hc=>by simp at hc; omega)
theorem exQ_number (w:List UInt8) (a b:Int) (K:Int->Prop) (KP:Value->Prop):exQ (Lt.yNumber w a b) K KP=if ((Lt.sNum w).2&&decide (a<=(Lt.sNum w).1)&&decide ((Lt.sNum w).1<=b))=true then K (Lt.sNum w).1 else KP (Lt.flt 3):=by
 unfold Lt.yNumber; rw [exQ_if,Bool.and_assoc]
theorem law_yExtern (r:Lt.Reader) (l:List (List UInt8)) (hp:Lt.preReader r l) (KK:Unit×Lt.Reader->Prop) (KP:Value->Lt.Reader->Prop) (h:exP (Lt.yExtern r l) (fun z x=>KK (z,x)) KP):F_yExtern r l KK KP:=by
 obtain ⟨⟨hi,hw,_,_⟩,hne,hr⟩:=hp
 unfold F_yExtern
 unfold Lt.yExtern Lt.sExtern at h
 simp only [res_ite,res_3,res_20] at h
 dsimp only
 simp only [has_01 hw,exQ_name,exQ_number,show l.getD 1 default=Lt.w1 l from rfl,show l.getD 2 default=Lt.w2 l from rfl,jn_app,jn_and,jn_imp,jn_ite,jn_const,and_self,true_and] at h ⊢
 generalize Lt.rName (Lt.w1 l)=nm at h ⊢
 generalize ((Lt.sNum (Lt.w2 l)).2&&decide (0<=(Lt.sNum (Lt.w2 l)).1)&&decide ((Lt.sNum (Lt.w2 l)).1<=8))=kd at h ⊢
 generalize r.abs.out=o at h ⊢
 cases o with
 | false=>simpa using h
 | true=>
  refine ifk (fun hc=>by simp at hc) (fun _=>fun _=>?_)
  by_cases h3:l.length=3
  ·refine ifk (fun hc=>by simp [h3] at hc) (fun _=>⟨⟨by decide,by omega⟩,⟨by decide,by omega⟩,?_⟩)
   cases nm with
   | false=>simpa using h
   | true=>
    cases kd with
    | false=>simpa [h3] using h
    | true=>
     rw [if_neg (by simp [h3])] at h
     simp only [if_true]
     refine fun _=>ifk (fun hc=>?_) (fun hc=>?_)
     ·rw [if_pos (show 8<=r.abs.P.Externs.length by rw [abs_P]; simp only [decide_eq_true_eq] at hc; omega)] at h; exact h
     ·rw [if_neg (show ¬ 8<=r.abs.P.Externs.length by rw [abs_P]; simp only [decide_eq_true_eq] at hc; omega)] at h
      have h9:r.p.Externs.length < 8:=by simp only [decide_eq_true_eq] at hc; omega
      rw [List.length_singleton]
      exact ⟨⟨by omega,by omega⟩,h⟩
  ·rw [if_pos (by simp [h3])] at h
   exact ifk (fun _=>h) (fun hc=>by simp at hc; omega)
theorem law_ySsa (r:Lt.Reader) (l:List (List UInt8)) (hp:Lt.preReader r l) (KK:Unit×Lt.Reader->Prop) (KP:Value->Lt.Reader->Prop) (h:exP (Lt.ySsa r l) (fun z x=>KK (z,x)) KP):F_ySsa r l KK KP:=by
 unfold F_ySsa
 unfold Lt.ySsa at h
 simp only [res_ite,res_3,res_0] at h
 simp only [jn_app,jn_and,jn_imp,jn_ite,jn_const]
 generalize r.first=f at h ⊢
 cases f with
 | false=>simpa using h
 | true=>
  by_cases h1:l.length=1
  ·simpa [h1,abs_L] using h
  ·rw [if_pos (by simp [h1])] at h
   rw [if_pos rfl]
   exact ifk (fun _=>h) (fun hc=>by simp at hc; omega)
end Go.Am
end

section
namespace Go.Am
open Go
set_option linter.unusedVariables false
set_option linter.unusedSimpArgs false
theorem has_n {r:Lt.Reader} (hw:0<=r.where_/\r.where_<=7) {n:Int} (h2:2<=n) (h7:n<=7):Lt.yHas [n] r.where_=decide (r.abs.Where=n+1):=by
 unfold Lt.yHas Lt.Reader.abs
 dsimp only
 rw [Bool.eq_iff_iff]
 simp only [List.contains_cons,List.contains_nil,Bool.or_false,beq_iff_eq,decide_eq_true_eq]
 by_cases h0:r.where_=0
 ·rw [if_pos h0]; split <;> omega
 ·rw [if_neg h0]; split <;> omega
theorem law_yParam (r:Lt.Reader) (l:List (List UInt8)) (hp:Lt.preReader r l) (KK:Unit×Lt.Reader->Prop) (KP:Value->Lt.Reader->Prop) (h:exP (Lt.yParam r l) (fun z x=>KK (z,x)) KP):F_yParam r l KK KP:=by
 obtain ⟨⟨hi,hw,_,_⟩,hne,hr⟩:=hp
 unfold F_yParam
 unfold Lt.yParam Lt.sParam Lt.sTyped at h
 simp only [res_ite,res_3,res_20] at h
 dsimp only
 simp only [has_n hw (n:=2) (by decide) (by decide),exQ_name,exQ_kind,show l.getD 1 default=Lt.w1 l from rfl,show l.getD 2 default=Lt.w2 l from rfl,show l.getD 1 []=Lt.w1 l from rfl,show l.getD 2 []=Lt.w2 l from rfl,jn_app,jn_and,jn_imp,jn_ite,jn_const,and_self,true_and] at h ⊢
 generalize Lt.rName (Lt.w1 l)=nm at h ⊢
 generalize Lt.sKind (Lt.w2 l)=kd at h ⊢
 by_cases hwh:r.abs.Where=3
 ·obtain ⟨hf,_,hp6,_⟩:=Inv_fun hi (by omega)
  have hf:r.p.Funcs≠[]:=hf
  have hf8:r.p.Funcs.length<=5000:=by have:r.p.Funcs.length<=8:=hi.2.1.2.2; omega
  have hp6:(r.p.Funcs.getD (r.p.Funcs.length - 1) default).Params.length<=6:=hp6
  simp only [wrap_last hf hf8,last_ob hf,last_lt hf,Int.toNat_natCast,true_and,and_self]
  refine ifk (fun hc=>by simp [hwh] at hc) (fun _=>fun _=>?_)
  by_cases h3:l.length=3
  ·refine ifk (fun hc=>by simp [h3] at hc) (fun _=>⟨⟨by decide,by omega⟩,⟨by decide,by omega⟩,?_⟩)
   cases nm with
   | false=>simpa [hwh] using h
   | true=>
    cases kd with
    | false=>simpa [h3,hwh] using h
    | true=>
     rw [if_neg (by simp [h3,hwh])] at h
     simp only [if_true]
     refine fun _=>fun _=>ifk (fun hc=>?_) (fun hc=>?_)
     ·rw [if_pos (show 6<=r.abs.curF.Params.length from (show 6<=(r.p.Funcs.getD (r.p.Funcs.length - 1) default).Params.length by simp only [decide_eq_true_eq] at hc; omega))] at h; exact h
     ·rw [if_neg (show ¬ 6<=r.abs.curF.Params.length from (show ¬ 6<=(r.p.Funcs.getD (r.p.Funcs.length - 1) default).Params.length by simp only [decide_eq_true_eq] at hc; omega))] at h
      rw [List.length_singleton]
      exact ⟨⟨by omega,by omega⟩,h⟩
  ·rw [if_pos (by simp [h3])] at h
   exact ifk (fun _=>h) (fun hc=>by simp at hc; omega)
 ·rw [if_pos (by simp [hwh])] at h
  exact ifk (fun _=>h) (fun hc=>by simp [hwh] at hc)
theorem has_23 {r:Lt.Reader} (hw:0<=r.where_/\r.where_<=7):Lt.yHas [2,3] r.where_=(decide (r.abs.Where=3)||decide (r.abs.Where=4)):=by
 have a:=has_n hw (n:=2) (by decide) (by decide)
 have b:=has_n hw (n:=3) (by decide) (by decide)
 unfold Lt.yHas at a b ⊢
 rw [show decide (r.abs.Where=3)=decide (r.abs.Where=2+1) from rfl,show decide (r.abs.Where=4)=decide (r.abs.Where=3+1) from rfl,<- a,<- b]
 simp only [List.contains_cons,List.contains_nil,Bool.or_false]
theorem has_1 {r:Lt.Reader} (hw:0<=r.where_/\r.where_<=7):Lt.yHas [1] r.where_=decide (r.abs.Where=1):=by
 unfold Lt.yHas Lt.Reader.abs
 dsimp only
 rw [Bool.eq_iff_iff]
 simp only [List.contains_cons,List.contains_nil,Bool.or_false,beq_iff_eq,decide_eq_true_eq]
 by_cases h0:r.where_=0
 ·rw [if_pos h0]; split <;> omega
 ·rw [if_neg h0]; split <;> omega
theorem law_yField (r:Lt.Reader) (l:List (List UInt8)) (hp:Lt.preReader r l) (KK:Unit×Lt.Reader->Prop) (KP:Value->Lt.Reader->Prop) (h:exP (Lt.yField r l) (fun z x=>KK (z,x)) KP):F_yField r l KK KP:=by
 obtain ⟨⟨hi,hw,_,_⟩,hne,hr⟩:=hp
 unfold F_yField
 unfold Lt.yField Lt.sField Lt.sTyped at h
 simp only [res_ite,res_3,res_2,res_0] at h
 dsimp only
 simp only [has_1 hw,exQ_name,exQ_kind,show l.getD 1 default=Lt.w1 l from rfl,show l.getD 2 default=Lt.w2 l from rfl,show l.getD 1 []=Lt.w1 l from rfl,show l.getD 2 []=Lt.w2 l from rfl,jn_app,jn_and,jn_imp,jn_ite,jn_const,and_self,true_and] at h ⊢
 generalize Lt.rName (Lt.w1 l)=nm at h ⊢
 generalize Lt.sKind (Lt.w2 l)=kd at h ⊢
 by_cases hwh:r.abs.Where=1
 ·have hf:r.abs.P.Classes≠[]:=hi.2.2.2.1 hwh
  have hf:r.p.Classes≠[]:=hf
  have hf8:r.p.Classes.length<=5000:=by have:r.p.Classes.length<=8:=hi.2.1.1; omega
  simp only [wrap_last hf hf8,last_ob hf,last_lt hf,Int.toNat_natCast,true_and,and_self]
  refine ifk (fun hc=>by simp [hwh] at hc) (fun _=>fun _=>?_)
  by_cases h3:l.length=3
  ·refine ifk (fun hc=>by simp [h3] at hc) (fun _=>⟨⟨by decide,by omega⟩,⟨by decide,by omega⟩,?_⟩)
   cases nm with
   | false=>simpa [hwh] using h
   | true=>
    cases kd with
    | false=>simpa [h3,hwh] using h
    | true=>
     rw [if_neg (by simp [h3,hwh])] at h
     simp only [if_true]
     refine fun _=>fun _=>ifk (fun hc=>?_) (fun hc=>?_)
     ·rw [if_pos (show 8<=(r.abs.P.Classes.getD (r.abs.P.Classes.length - 1) default).Fields.length from (show 8<=(r.p.Classes.getD (r.p.Classes.length - 1) default).Fields.length by simp only [decide_eq_true_eq] at hc; omega))] at h; exact h
     ·rw [if_neg (show ¬ 8<=(r.abs.P.Classes.getD (r.abs.P.Classes.length - 1) default).Fields.length from (show ¬ 8<=(r.p.Classes.getD (r.p.Classes.length - 1) default).Fields.length by simp only [decide_eq_true_eq] at hc; omega))] at h
      have h9:(r.p.Classes.getD (r.p.Classes.length - 1) default).Fields.length < 8:=by simp only [decide_eq_true_eq] at hc; omega
      rw [List.length_singleton]
      exact ⟨⟨by omega,by omega⟩,h⟩
  ·rw [if_pos (by simp [h3])] at h
   exact ifk (fun _=>h) (fun hc=>by simp at hc; omega)
 ·rw [if_pos (by simp [hwh])] at h
  exact ifk (fun _=>h) (fun hc=>by simp [hwh] at hc)
theorem law_yVariable (r:Lt.Reader) (l:List (List UInt8)) (hp:Lt.preReader r l) (KK:Unit×Lt.Reader->Prop) (KP:Value->Lt.Reader->Prop) (h:exP (Lt.yVariable r l) (fun z x=>KK (z,x)) KP):F_yVariable r l KK KP:=by
 obtain ⟨⟨hi,hw,_,_⟩,hne,hr⟩:=hp
 unfold F_yVariable
 unfold Lt.yVariable Lt.sVar Lt.sTyped at h
 simp only [res_ite,res_3,res_20] at h
 dsimp only
 simp only [has_23 hw,exQ_name,exQ_kind,show l.getD 1 default=Lt.w1 l from rfl,show l.getD 2 default=Lt.w2 l from rfl,show l.getD 1 []=Lt.w1 l from rfl,show l.getD 2 []=Lt.w2 l from rfl,jn_app,jn_and,jn_imp,jn_ite,jn_const,and_self,true_and] at h ⊢
 generalize Lt.rName (Lt.w1 l)=nm at h ⊢
 generalize Lt.sKind (Lt.w2 l)=kd at h ⊢
 by_cases hwh:(r.abs.Where=3\/r.abs.Where=4)
 ·have hb:(decide (r.abs.Where=3)||decide (r.abs.Where=4))=true:=by simpa using hwh
  obtain ⟨hf,_,_,hp6,_⟩:=Inv_fun hi (by omega)
  have hf:r.p.Funcs≠[]:=hf
  have hf8:r.p.Funcs.length<=5000:=by have:r.p.Funcs.length<=8:=hi.2.1.2.2; omega
  have hp6:(r.p.Funcs.getD (r.p.Funcs.length - 1) default).Vars.length<=1024:=hp6
  simp only [wrap_last hf hf8,last_ob hf,last_lt hf,Int.toNat_natCast,true_and,and_self]
  refine ifk (fun hc=>by rw [hb] at hc; simp at hc) (fun _=>fun _=>?_)
  by_cases h3:l.length=3
  ·refine ifk (fun hc=>by simp [h3] at hc) (fun _=>⟨⟨by decide,by omega⟩,⟨by decide,by omega⟩,?_⟩)
   cases nm with
   | false=>simpa [hb] using h
   | true=>
    cases kd with
    | false=>simpa [h3,hb] using h
    | true=>
     rw [if_neg (by simp [h3,hb])] at h
     simp only [if_true]
     refine fun _=>fun _=>ifk (fun hc=>?_) (fun hc=>?_)
     ·rw [if_pos (show 1024<=r.abs.curF.Vars.length from (show 1024<=(r.p.Funcs.getD (r.p.Funcs.length - 1) default).Vars.length by simp only [decide_eq_true_eq] at hc; omega))] at h; exact h
     ·rw [if_neg (show ¬ 1024<=r.abs.curF.Vars.length from (show ¬ 1024<=(r.p.Funcs.getD (r.p.Funcs.length - 1) default).Vars.length by simp only [decide_eq_true_eq] at hc; omega))] at h
      rw [List.length_singleton]
      exact ⟨⟨by omega,by omega⟩,h⟩
  ·rw [if_pos (by simp [h3])] at h
   exact ifk (fun _=>h) (fun hc=>by simp at hc; omega)
 ·have hb:(decide (r.abs.Where=3)||decide (r.abs.Where=4))=false:=by simpa using hwh
  rw [if_pos (by simp [hb])] at h
  exact ifk (fun _=>h) (fun hc=>by rw [hb] at hc; simp at hc)
end Go.Am
end

section
namespace Go.Am
open Go
set_option linter.unusedVariables false
set_option linter.unusedSimpArgs false
theorem start_join {P2 P3 P0 PL n:Bool} {KPv:Prop} {B:Unit->Prop} (hb:(P2||P3||(P0&&PL))=true) (hn:n=true) (h:B ()) :
  joinP (fun J1:Unit->Prop=>if P2=true then (if (!true)=true then KPv else J1 ()) else (if P3=true then (if (!true)=true then KPv else J1 ()) else (if P0=true then (if PL=true then (if (!n)=true then KPv else J1 ()) else (if (!false)=true then KPv else J1 ())) else (if (!false)=true then KPv else J1 ())))) B:=by
 intro J hJ
 have:=hJ () h
 cases P2 <;> cases P3 <;> cases P0 <;> cases PL <;> simp_all
theorem law_yStart (r:Lt.Reader) (l:List (List UInt8)) (hp:Lt.preReader r l) (KK:Unit×Lt.Reader->Prop) (KP:Value->Lt.Reader->Prop) (h:exP (Lt.yStart r l) (fun z x=>KK (z,x)) KP):F_yStart r l KK KP:=by
 obtain ⟨⟨hi,hw,_,_⟩,hne,hr⟩:=hp
 unfold F_yStart
 unfold Lt.yStart Lt.sBlock at h
 simp only [res_ite,res_3,res_20] at h
 dsimp only
 simp only [exQ_name,show l.getD 1 default=Lt.w1 l from rfl] at h ⊢
 generalize Lt.rName (Lt.w1 l)=nm at h ⊢
 have hcase:(decide (r.abs.Where=3)||decide (r.abs.Where=4)||decide (r.abs.Where=9))=(decide (r.where_=2)||decide (r.where_=3)||(decide (r.where_=0)&&decide (0<=r.long))):=by
  unfold Lt.Reader.abs
  dsimp only
  rw [Bool.eq_iff_iff]
  simp only [Bool.or_eq_true,Bool.and_eq_true,decide_eq_true_eq]
  by_cases h0:r.where_=0
  ·rw [if_pos h0]; split <;> omega
  ·rw [if_neg h0]; split <;> omega
 by_cases hB:(decide (r.abs.Where=3)||decide (r.abs.Where=4)||decide (r.abs.Where=9))=true
 ·have hwh:r.abs.Where=3\/r.abs.Where=4\/r.abs.Where=9:=by simpa [or_assoc] using hB
  obtain ⟨hf,_,_,_,hp6⟩:=Inv_fun hi (by omega)
  have hf:r.p.Funcs≠[]:=hf
  have hf8:r.p.Funcs.length<=5000:=by have:r.p.Funcs.length<=8:=hi.2.1.2.2; omega
  have hp6:(r.p.Funcs.getD (r.p.Funcs.length - 1) default).Blocks.length<=256:=hp6
  have hpos:0<r.p.Funcs.length:=List.length_pos_iff.2 hf
  simp only [hB,Bool.true_and] at h
  rw [hcase] at hB
  simp only [wrap_last hf hf8,last_ob hf,last_lt hf,Int.toNat_natCast,true_and,and_self]
  refine start_join hB (by simp; omega) (fun _=>?_)
  by_cases h2:l.length=2
  ·refine ifk (fun hc=>by simp [h2] at hc) (fun _=>⟨⟨by decide,by omega⟩,?_⟩)
   cases nm with
   | false=>simpa using h
   | true=>
    rw [if_neg (by simp [h2])] at h
    simp only [if_true,jn_app,jn_and,and_self]
    refine fun _=>fun _=>ifk (fun hc=>?_) (fun hc=>?_)
    ·rw [if_pos (show 256<=r.abs.curF.Blocks.length from (show 256<=(r.p.Funcs.getD (r.p.Funcs.length - 1) default).Blocks.length by simp only [decide_eq_true_eq] at hc; omega))] at h; exact h
    ·rw [if_neg (show ¬ 256<=r.abs.curF.Blocks.length from (show ¬ 256<=(r.p.Funcs.getD (r.p.Funcs.length - 1) default).Blocks.length by simp only [decide_eq_true_eq] at hc; omega))] at h
     rw [List.length_singleton]
     exact ⟨⟨by omega,by omega⟩,h⟩
  ·rw [if_pos (by simp [h2])] at h
   exact ifk (fun _=>h) (fun hc=>by simp at hc; omega)
 ·have hB:(decide (r.abs.Where=3)||decide (r.abs.Where=4)||decide (r.abs.Where=9))=false:=by simpa using hB
  rw [hB] at h
  rw [hcase] at hB
  simp only [Bool.or_eq_false_iff,Bool.and_eq_false_iff,decide_eq_false_iff_not] at hB
  obtain ⟨⟨b2,b3⟩,b0⟩:=hB
  have h':KP (Lt.flt 3) r:=by simpa using h
  simp only [b2,b3,decide_false,Bool.false_eq_true,if_false]
  rcases b0 with b0 | b0
  ·simpa [b0,jn_const] using h'
  ·simp only [jn_ite,jn_const,b0,decide_false,Bool.false_eq_true,if_false,Bool.not_false,if_true]
   split <;> exact h'
end Go.Am
end

section
namespace Go.Am
open Go
set_option linter.unusedVariables false
set_option linter.unusedSimpArgs false
theorem Of_word:∀ k:Fin 35,1<=k.1->(Lt.Of (k.1:Int)).1.Word=gw.getD k.1 default:=by decide +kernel
theorem law_yOp (w:List UInt8) (KK:Int×Bool->Prop) (h:KK (Lt.yOp w)):F_yOp w KK:=by
 unfold F_yOp
 unfold Lt.yOp Lt.sOp at h
 have hg:gw.length=35:=rfl
 have key:∀ k i,1<=i->i+k=35->KK (Lt.sOpG w (gw.drop i) (i:Int))->loopN (fun (R1:Int->Prop) v2=>if (decide (v2<=34))=true then (if (decide (((Lt.Of v2).1).Word=w))=true then (KK (v2,true)) else (R1 (IntKind.i64.wrap (v2+1)))) else (KK (0,false))) (k+1) (i:Int):=by
  intro k
  induction k with
  | zero=>
   intro i h1 hi h
   have e:i=35:=by omega
   subst e
   exact h
  | succ k ih=>
   intro i h1 hi h
   have hlt:i<gw.length:=by omega
   rw [List.drop_eq_getElem_cons hlt] at h
   have e:gw.getD i default=gw[i]:=by rw [List.getD,List.getElem?_eq_getElem hlt]; rfl
   rw [<- e] at h
   show (if (decide ((i:Int)<=34))=true then _ else _)
   rw [if_pos (by simp; omega)]
   simp only [Lt.sOpG] at h
   have hw:=Of_word ⟨i,by omega⟩ h1
   refine ifk (fun hc=>?_) (fun hc=>?_)
   ·rw [if_pos (by rw [<- hw]; simpa using hc)] at h; exact h
   ·rw [if_neg (by rw [<- hw]; simpa using hc)] at h
    rw [wrap_succ (by omega)]
    exact ih (i+1) (by omega) (by omega) (by simpa using h)
 exact ⟨35,key 34 1 (Nat.le_refl 1) rfl h⟩
theorem law_yArgs (l:List (List UInt8)) (objs:Bool) (hp:Lt.preWords l objs) (KK:List Lt.Arg->Prop) (KP:Value->Prop) (h:exQ (Lt.yArgs l objs) KK KP):F_yArgs l objs KK KP:=by
 have hp:l.length<=1099511627776:=hp
 unfold F_yArgs
 unfold Lt.yArgs Lt.sArgs at h
 rw [exQ_if] at h
 refine fun hl=>nat_loop _ l.length (fun i x=>x=((l.take i).map (fun w=>(Lt.sArg w).1),(i:Int))/\(l.take i).all (Lt.argOk objs)=true) (fun R i x hi hx ih=>?_) (fun R x hx=>?_) _ ⟨rfl,rfl⟩
 ·obtain ⟨rfl,ha⟩:=hx
  dsimp only
  rw [if_pos (lt_t hi)]
  simp only [Int.toNat_natCast]
  refine ⟨⟨Int.natCast_nonneg i,hi⟩,trivial,?_⟩
  unfold Lt.yArg
  rw [exQ_if]
  refine ifk (fun hc=>?_) (fun hc=>?_)
  ·refine ⟨?_,ih _ ⟨?_,?_⟩⟩
   ·rw [List.length_map,List.length_take,List.length_singleton]; omega
   ·rw [take_snoc l hi,List.map_append,wrap_succ (by omega)]; rfl
   ·rw [take_snoc l hi,List.all_append,ha,List.all_cons,hc]; rfl
  ·have:l.all (Lt.argOk objs)=false:=by
    rw [Bool.eq_false_iff]
    intro hall
    exact hc (List.all_eq_true.1 hall _ (mem_getD l hi))
   simpa [this] using h
 ·obtain ⟨rfl,ha⟩:=hx
  rw [List.take_length] at ha
  dsimp only
  rw [if_neg (by simp),List.take_length]
  simpa [ha] using h
end Go.Am
end

section
namespace Go.Am
open Go
set_option linter.unusedVariables false
set_option linter.unusedSimpArgs false
theorem exQ_arg (w:List UInt8) (o:Bool) (K:Lt.Arg->Prop) (KP:Value->Prop):exQ (Lt.yArg w o) K KP=if Lt.argOk o w=true then K (Lt.sArg w).1 else KP (Lt.flt 3):=by
 unfold Lt.yArg; rw [exQ_if]
theorem exQ_args (l:List (List UInt8)) (o:Bool) (K:List Lt.Arg->Prop) (KP:Value->Prop):exQ (Lt.yArgs l o) K KP=if (Lt.sArgs l o).2=true then K (Lt.sArgs l o).1 else KP (Lt.flt 3):=by
 unfold Lt.yArgs; rw [exQ_if]
theorem has_in {r:Lt.Reader} (hw:0<=r.where_/\r.where_<=7):Lt.yHas [4,5,6,7] r.where_=r.abs.ins:=by
 unfold Lt.yHas Lt.Reader.abs Lt.Read.ins
 dsimp only
 rw [Bool.eq_iff_iff]
 simp only [List.contains_cons,List.contains_nil,Bool.or_false,Bool.or_eq_true,Bool.and_eq_true,beq_iff_eq,decide_eq_true_eq]
 by_cases h0:r.where_=0
 ·rw [if_pos h0]; split <;> omega
 ·rw [if_neg h0]; split <;> omega
theorem has_67 {r:Lt.Reader} (hw:0<=r.where_/\r.where_<=7):Lt.yHas [6,7] r.where_=(decide (7<=r.abs.Where)&&r.abs.ins):=by
 unfold Lt.yHas Lt.Reader.abs Lt.Read.ins
 dsimp only
 rw [Bool.eq_iff_iff]
 simp only [List.contains_cons,List.contains_nil,Bool.or_false,Bool.or_eq_true,Bool.and_eq_true,beq_iff_eq,decide_eq_true_eq]
 by_cases h0:r.where_=0
 ·rw [if_pos h0]; split <;> omega
 ·rw [if_neg h0]; split <;> omega
theorem even_2 (n:Nat):decide (Int.tmod (n:Int) 2=0)=decide (n % 2=0):=by
 rw [show Int.tmod (n:Int) 2=((n % 2:Nat):Int) by rw [Int.tmod_eq_emod_of_nonneg (by omega)]; rfl]
 exact decide_eq_decide.2 (by omega)
theorem pairs_loop {σ:Type} (l:List (List UInt8)) (objs:Bool) (st:List Lt.Bind->σ) (body:(Int×σ->Prop)->Int×σ->Prop) (E:Prop) (fin:List Lt.Bind->Prop)
  (hs:∀ R i acc,i+1<l.length->acc.length<=i->(if Lt.rName (l.getD i default)=true then (if Lt.argOk objs (l.getD (i+1) default)=true then R (((i+2:Nat):Int),st (acc++[⟨l.getD i default,(Lt.sArg (l.getD (i+1) default)).1⟩])) else E) else E)->body R ((i:Int),st acc))
  (he:∀ R acc,acc.length<=l.length->fin acc->body R ((l.length:Int),st acc)) :
  ∀ n i acc,l.length=i+2*n->acc.length<=i->(match Lt.sPairsG objs (l.drop i) with | some x=>fin (acc++x) | none=>E)->loopN body (n+1) ((i:Int),st acc):=by
 intro n
 induction n with
 | zero=>
  intro i acc hi ha h
  have e:i=l.length:=by omega
  subst e
  rw [List.drop_length] at h
  exact he _ acc ha (by simpa [Lt.sPairsG] using h)
 | succ n ih=>
  intro i acc hi ha h
  have h3:i+1<l.length:=by omega
  have h4:i<l.length:=by omega
  have hd:l.drop i=l.getD i default::l.getD (i+1) default::l.drop (i+2):=by
   rw [List.drop_eq_getElem_cons h4,List.drop_eq_getElem_cons h3]
   rw [List.getD,List.getD,List.getElem?_eq_getElem h4,List.getElem?_eq_getElem h3]; rfl
  rw [hd,Lt.sPairsG] at h
  refine hs _ i acc h3 ha ?_
  refine ifk (fun c1=>ifk (fun c2=>?_) (fun c2=>?_)) (fun c1=>?_)
  ·rw [if_pos (by rw [c1,c2]; rfl)] at h
   refine ih (i+2) _ (by omega) (by simp only [List.length_append,List.length_singleton]; omega) ?_
   cases hp:Lt.sPairsG objs (l.drop (i+2)) with
   | none=>rw [hp] at h; exact h
   | some x=>rw [hp] at h; simpa using h
  ·rw [if_neg (by rw [Bool.eq_false_iff.2 c2]; simp)] at h; exact h
  ·rw [if_neg (by rw [Bool.eq_false_iff.2 c1]; simp)] at h; exact h
theorem pairs_fin {l:List (List UInt8)} {f:Nat} {objs:Bool} (hf:f<=l.length) {E:Prop} {fin:List Lt.Bind->Prop}
  (h1:(Lt.sPairs l (f:Int) objs).2=false->E) (h2:(Lt.sPairs l (f:Int) objs).2=true->fin (Lt.sPairs l (f:Int) objs).1) :
  match Lt.sPairsG objs (l.drop f) with | some x=>fin ([]++x) | none=>E:=by
 unfold Lt.sPairs at h1 h2
 rw [if_neg (by omega),Int.toNat_natCast] at h1 h2
 cases hp:Lt.sPairsG objs (l.drop f) with
 | none=>rw [hp] at h1; exact h1 rfl
 | some x=>rw [hp] at h2; exact h2 rfl
theorem pairs_run {σ:Type} (l:List (List UInt8)) (f:Nat) (objs:Bool) (st:List Lt.Bind->σ) (body:(Int×σ->Prop)->Int×σ->Prop) (E:Prop) (fin:List Lt.Bind->Prop)
  (hs:∀ R i acc,i+1<l.length->acc.length<=i->(if Lt.rName (l.getD i default)=true then (if Lt.argOk objs (l.getD (i+1) default)=true then R (((i+2:Nat):Int),st (acc++[⟨l.getD i default,(Lt.sArg (l.getD (i+1) default)).1⟩])) else E) else E)->body R ((i:Int),st acc))
  (he:∀ R acc,acc.length<=l.length->fin acc->body R ((l.length:Int),st acc)) (n:Nat) (hn:l.length=f+2*n)
  (h1:(Lt.sPairs l (f:Int) objs).2=false->E) (h2:(Lt.sPairs l (f:Int) objs).2=true->fin (Lt.sPairs l (f:Int) objs).1):loopP body ((f:Int),st []):=
 ⟨_,pairs_loop l objs st body E fin hs he n f [] hn (Nat.zero_le _) (pairs_fin (by omega) h1 h2)⟩
theorem law_yPhi (r:Lt.Reader) (l:List (List UInt8)) (hp:Lt.preReader r l) (KK:Unit×Lt.Reader->Prop) (KP:Value->Lt.Reader->Prop) (h:exP (Lt.yPhi r l) (fun z x=>KK (z,x)) KP):F_yPhi r l KK KP:=by
 obtain ⟨⟨hi,hw,hlg,_⟩,hne,hr⟩:=hp
 have hr:l.length<=1099511627776:=hr
 unfold F_yPhi
 unfold Lt.yPhi Lt.sPhi at h
 simp only [res_ite,res_3,res_2,res_0] at h
 dsimp only
 simp only [has_n hw (n:=4) (by decide) (by decide),exQ_name,exQ_arg,even_2,jn_app,jn_and,jn_imp,jn_ite,jn_const,and_self,true_and]
 by_cases hwh:r.abs.Where=5
 ·obtain ⟨hf,_,_,_,hb6⟩:=Inv_fun hi (by omega)
  obtain ⟨hbn,hph,_⟩:=Inv_block hi (by omega)
  have hf:r.p.Funcs≠[]:=hf
  have hf8:r.p.Funcs.length<=5000:=by have:r.p.Funcs.length<=8:=hi.2.1.2.2; omega
  have hb5:r.abs.curF.Blocks.length<=5000:=by omega
  have ef:r.p.Funcs.getD (r.p.Funcs.length - 1) default=r.abs.curF:=rfl
  have eb:r.abs.curF.Blocks.getD (r.abs.curF.Blocks.length - 1) default=r.abs.curB:=rfl
  have wl:IntKind.i64.wrap (r.long+1)=r.long+1:=wrap_i64 (by omega) (by omega)
  simp only [wrap_last hf hf8,last_ob hf,last_lt hf,Int.toNat_natCast,ef,wrap_last hbn hb5,last_lt hbn,last_ob hbn,eb,true_and,and_self,List.length_singleton,app_ok (show r.abs.curB.Phis.length<=5000 by omega) (show 40<=200 by omega),wl,show l.getD 1 default=Lt.w1 l from rfl]
  refine ifk (fun hc=>by simp [hwh] at hc) (fun _=>fun _=>?_)
  by_cases h4:4<=l.length/\l.length % 2=0
  ·obtain ⟨n,hn⟩:∃ n,l.length=2+2*(n+1):=⟨l.length / 2 - 2,by omega⟩
   rw [if_pos (by simp; omega)]
   refine ⟨by decide,ifk (fun hc=>by simp at hc; omega) (fun _=>⟨⟨by decide,by omega⟩,?_⟩)⟩
   cases hnm:Lt.rName (Lt.w1 l) with
   | false=>rw [if_pos (by rw [hnm]; simp)] at h; simpa using h
   | true=>
    rw [if_pos rfl]
    refine pairs_run l 2 false (fun acc=>(⟨Lt.w1 l,acc.map fun x=>⟨x.Name,x.A⟩⟩:Lt.Phi)) _ (KP (Lt.flt 3) r) (fun x=>if 256<x.length\/1024<=r.long then KP (Lt.flt 2) r else KK ((),⟨(r.abs.block (fun b=>{ b with Phis:=b.Phis++[⟨Lt.w1 l,x.map fun x=>⟨x.Name,x.A⟩⟩] })).P,r.at_,4,r.first,r.long+1⟩)) (fun R i acc h1 ha hR=>?_) (fun R acc ha hR=>?_) (n+1) hn (fun hc=>?_) (fun hc=>?_)
    ·simp only [lt_t (show i<l.length by omega),if_true,Int.toNat_natCast,show IntKind.i64.wrap ((i:Int)+1)=((i+1:Nat):Int) from wrap_succ (by omega),show IntKind.i64.wrap ((i:Int)+2)=((i+2:Nat):Int) by rw [wrap_i64 (by omega) (by omega)]; rfl]
     refine fun _=>⟨⟨Int.natCast_nonneg i,by omega⟩,⟨Int.natCast_nonneg _,h1⟩,?_⟩
     refine ifk (fun c1=>?_) (fun c1=>?_)
     ·rw [if_pos c1] at hR
      refine ifk (fun c2=>?_) (fun c2=>?_)
      ·rw [if_pos c2] at hR
       refine ⟨⟨by rw [List.length_map]; omega,by rw [List.length_map]; omega⟩,kk hR ?_⟩
       rw [List.map_append]; rfl
      ·rw [if_neg c2] at hR; exact hR
     ·rw [if_neg c1] at hR; exact hR
    ·simp only [lt_f,Bool.false_eq_true,if_false]
     refine fun _ _=>?_
     rw [List.length_map,wrap_i64 (by omega) (by omega)]
     refine ifk (fun c1=>?_) (fun c1=>ifk (fun c2=>?_) (fun c2=>fun _ _=>?_))
     ·rw [if_pos (by simp at c1; omega)] at hR; exact hR
     ·rw [if_pos (by simp at c2; omega)] at hR; exact hR
     ·rw [if_neg (by simp at c1 c2; omega)] at hR
      have e4:r.where_=4:=by
       have:=has_n hw (n:=4) (by decide) (by decide)
       rw [hwh] at this
       simpa [Lt.yHas] using this
      rw [e4]
      exact hR
    ·rw [if_pos (by rw [show Lt.sPairs l 2 false=Lt.sPairs l ((2:Nat):Int) false from rfl,hc]; simp)] at h
     exact h
    ·have hlen:=sPairs_len (l:=l) (f:=2) (objs:=false) hc (by decide)
     rw [if_neg (by rw [show (Lt.sPairs l 2 false).2=true from hc,hnm,hwh,decide_eq_false (show ¬ (Lt.sPairs l 2 false).1.length=0 by omega)]; simp)] at h
     exact h
  ·have h3:KP (Lt.flt 3) r:=by
    rw [if_pos ?_] at h
    ·exact h
    ·by_cases hok:(Lt.sPairs l 2 false).2=true
     ·have hlen:=sPairs_len (l:=l) (f:=2) (objs:=false) hok (by decide)
      rw [decide_eq_true (show (Lt.sPairs l 2 false).1.length=0 by omega)]; simp
     ·rw [Bool.eq_false_iff.2 hok]; simp
   refine ifk (fun c1=>⟨by decide,ifk (fun _=>h3) (fun c2=>?_)⟩) (fun _=>ifk (fun _=>h3) (fun hc=>by simp at hc))
   simp at c1 c2
   omega
 ·rw [if_pos (by simp [hwh])] at h
  exact ifk (fun _=>h) (fun hc=>by simp [hwh] at hc)
theorem law_yFrame (r:Lt.Reader) (l:List (List UInt8)) (hp:Lt.preReader r l) (KK:Unit×Lt.Reader->Prop) (KP:Value->Lt.Reader->Prop) (h:exP (Lt.yFrame r l) (fun z x=>KK (z,x)) KP):F_yFrame r l KK KP:=by
 obtain ⟨⟨hi,hw,hlg,_⟩,hne,hr⟩:=hp
 have hr:l.length<=1099511627776:=hr
 unfold F_yFrame
 unfold Lt.yFrame Lt.sAt at h
 simp only [res_ite,res_3,res_2,res_0] at h
 dsimp only
 simp only [has_n hw (n:=6) (by decide) (by decide),exQ_name,exQ_arg,exQ_number,even_2,jn_app,jn_and,jn_imp,jn_ite,jn_const,and_self,true_and]
 by_cases hwh:r.abs.Where=7
 ·obtain ⟨hf,_,_,_,hb6⟩:=Inv_fun hi (by omega)
  obtain ⟨hbn,hph,hcd,_⟩:=Inv_block hi (by omega)
  obtain ⟨hcn,hfr,_⟩:=Inv_instr hi (by omega) (by omega)
  have hf:r.p.Funcs≠[]:=hf
  have hf8:r.p.Funcs.length<=5000:=by have:r.p.Funcs.length<=8:=hi.2.1.2.2; omega
  have hb5:r.abs.curF.Blocks.length<=5000:=by omega
  have hc5:r.abs.curB.Code.length<=5000:=by omega
  have ef:r.p.Funcs.getD (r.p.Funcs.length - 1) default=r.abs.curF:=rfl
  have eb:r.abs.curF.Blocks.getD (r.abs.curF.Blocks.length - 1) default=r.abs.curB:=rfl
  have ei:r.abs.curB.Code.getD (r.abs.curB.Code.length - 1) default=r.abs.curI:=rfl
  simp only [wrap_last hf hf8,last_ob hf,last_lt hf,Int.toNat_natCast,ef,wrap_last hbn hb5,last_lt hbn,last_ob hbn,eb,wrap_last hcn hc5,last_lt hcn,last_ob hcn,ei,true_and,and_self,List.length_singleton,app_ok (show r.abs.curI.Frames.length<=5000 by omega) (show 64<=200 by omega),show l.getD 1 default=Lt.w1 l from rfl,show l.getD 2 default=Lt.w2 l from rfl,show l.getD 3 default=Lt.w3 l from rfl]
  refine ifk (fun hc=>by simp [hwh] at hc) (fun _=>fun _=>?_)
  by_cases h4:4<=l.length/\l.length % 2=0
  ·obtain ⟨n,hn⟩:∃ n,l.length=4+2*n:=⟨l.length / 2 - 2,by omega⟩
   rw [if_pos (by simp; omega)]
   refine ⟨by decide,ifk (fun hc=>by simp at hc; omega) (fun _=>⟨⟨by decide,by omega⟩,⟨by decide,by omega⟩,⟨by decide,by omega⟩,?_⟩)⟩
   cases hn1:Lt.rName (Lt.w1 l) with
   | false=>rw [if_pos (by rw [hn1]; simp)] at h; simpa using h
   | true=>
   cases hn2:Lt.rName (Lt.w2 l) with
   | false=>rw [if_pos (by rw [hn2]; simp)] at h; simpa using h
   | true=>
   cases hn3:((Lt.sNum (Lt.w3 l)).2&&decide (0<=(Lt.sNum (Lt.w3 l)).1)&&decide ((Lt.sNum (Lt.w3 l)).1<=1024)) with
   | false=>rw [if_pos (by rw [hn3]; simp)] at h; simpa using h
   | true=>
    rw [if_pos rfl,if_pos rfl,if_pos rfl]
    refine pairs_run l 4 true (fun acc=>(⟨Lt.w1 l,Lt.w2 l,(Lt.sNum (Lt.w3 l)).1,acc⟩:Lt.Frame)) _ (KP (Lt.flt 3) r) (fun x=>if 16<x.length\/16<=r.abs.curI.Frames.length then KP (Lt.flt 2) r else KK ((),⟨(r.abs.instr (fun y=>{ y with Frames:=y.Frames++[⟨Lt.w1 l,Lt.w2 l,(Lt.sNum (Lt.w3 l)).1,x⟩] })).P,r.at_,6,r.first,r.long⟩)) (fun R i acc h1 ha hR=>?_) (fun R acc ha hR=>?_) n hn (fun hc=>?_) (fun hc=>?_)
    ·simp only [lt_t (show i<l.length by omega),if_true,Int.toNat_natCast,show IntKind.i64.wrap ((i:Int)+1)=((i+1:Nat):Int) from wrap_succ (by omega),show IntKind.i64.wrap ((i:Int)+2)=((i+2:Nat):Int) by rw [wrap_i64 (by omega) (by omega)]; rfl]
     refine fun _=>⟨⟨Int.natCast_nonneg i,by omega⟩,⟨Int.natCast_nonneg _,h1⟩,?_⟩
     refine ifk (fun c1=>?_) (fun c1=>?_)
     ·rw [if_pos c1] at hR
      refine ifk (fun c2=>?_) (fun c2=>?_)
      ·rw [if_pos c2] at hR
       exact ⟨⟨by omega,by omega⟩,hR⟩
      ·rw [if_neg c2] at hR; exact hR
     ·rw [if_neg c1] at hR; exact hR
    ·simp only [lt_f,Bool.false_eq_true,if_false]
     refine fun _ _=>?_
     rw [wrap_i64 (by omega) (by omega)]
     refine ifk (fun c1=>?_) (fun c1=>fun _ _ _ _=>ifk (fun c2=>?_) (fun c2=>?_))
     ·rw [if_pos (by simp at c1; omega)] at hR; exact hR
     ·rw [if_pos (by simp at c2; omega)] at hR; exact hR
     ·rw [if_neg (by simp at c1 c2; omega)] at hR
      have e4:r.where_=6:=by
       have:=has_n hw (n:=6) (by decide) (by decide)
       rw [hwh] at this
       simpa [Lt.yHas] using this
      rw [e4]
      exact hR
    ·rw [if_pos (by rw [show Lt.sPairs l 4 true=Lt.sPairs l ((4:Nat):Int) true from rfl,hc]; simp)] at h
     exact h
    ·rw [if_neg (by rw [show (Lt.sPairs l 4 true).2=true from hc,hn1,hn2,hn3,hwh]; simp)] at h
     exact h
  ·have h3:KP (Lt.flt 3) r:=by
    rw [if_pos ?_] at h
    ·exact h
    ·by_cases hok:(Lt.sPairs l 4 true).2=true
     ·have hlen:=sPairs_len (l:=l) (f:=4) (objs:=true) hok (by decide)
      omega
     ·rw [Bool.eq_false_iff.2 hok]; simp
   refine ifk (fun c1=>⟨by decide,ifk (fun _=>h3) (fun c2=>?_)⟩) (fun _=>ifk (fun _=>h3) (fun hc=>by simp at hc))
   simp at c1 c2
   omega
 ·rw [if_pos (by simp [hwh])] at h
  exact ifk (fun _=>h) (fun hc=>by simp [hwh] at hc)
theorem law_yObject (r:Lt.Reader) (l:List (List UInt8)) (hp:Lt.preReader r l) (KK:Unit×Lt.Reader->Prop) (KP:Value->Lt.Reader->Prop) (h:exP (Lt.yObject r l) (fun z x=>KK (z,x)) KP):F_yObject r l KK KP:=by
 obtain ⟨⟨hi,hw,hlg,_⟩,hne,hr⟩:=hp
 have hr:l.length<=1099511627776:=hr
 unfold F_yObject
 unfold Lt.yObject Lt.sObj at h
 simp only [res_ite,res_3,res_20] at h
 dsimp only
 simp only [has_67 hw,exQ_name,exQ_args,jn_app,jn_and,jn_imp,jn_ite,jn_const,and_self,true_and]
 by_cases hwh:7<=r.abs.Where/\r.abs.Where<=8
 ·obtain ⟨hf,_,_,_,hb6⟩:=Inv_fun hi (by omega)
  obtain ⟨hbn,hph,hcd,_⟩:=Inv_block hi (by omega)
  obtain ⟨hcn,_,hob⟩:=Inv_instr hi (by omega) (by omega)
  have hf:r.p.Funcs≠[]:=hf
  have hf8:r.p.Funcs.length<=5000:=by have:r.p.Funcs.length<=8:=hi.2.1.2.2; omega
  have hb5:r.abs.curF.Blocks.length<=5000:=by omega
  have hc5:r.abs.curB.Code.length<=5000:=by omega
  have ef:r.p.Funcs.getD (r.p.Funcs.length - 1) default=r.abs.curF:=rfl
  have eb:r.abs.curF.Blocks.getD (r.abs.curF.Blocks.length - 1) default=r.abs.curB:=rfl
  have ei:r.abs.curB.Code.getD (r.abs.curB.Code.length - 1) default=r.abs.curI:=rfl
  have hin:r.abs.ins=true:=by unfold Lt.Read.ins; simp; omega
  have ed:(l.drop 2).take (l.length - 2)=l.drop 2:=List.take_of_length_le (by rw [List.length_drop]; omega)
  simp only [wrap_last hf hf8,last_ob hf,last_lt hf,Int.toNat_natCast,ef,wrap_last hbn hb5,last_lt hbn,last_ob hbn,eb,wrap_last hcn hc5,last_lt hcn,last_ob hcn,ei,ed,true_and,and_self,List.length_singleton,app_ok (show r.abs.curI.Objs.length<=5000 by omega) (show 40<=200 by omega),show l.getD 1 default=Lt.w1 l from rfl]
  refine ifk (fun hc=>by rw [hin] at hc; simp at hc; omega) (fun _=>fun _=>?_)
  rw [if_neg (by rw [hin]; simp),decide_eq_true hwh.1] at h
  simp only [Bool.true_and] at h
  by_cases h2:2<=l.length
  ·rw [if_pos (by simp; omega)]
   by_cases h10:l.length<=10
   ·refine ifk (fun hc=>by simp at hc; omega) (fun _=>⟨⟨by decide,by omega⟩,by decide,⟨h2,Nat.le_refl _⟩,?_⟩)
    rw [decide_eq_true h2,decide_eq_true h10] at h
    simp only [Bool.true_and] at h
    cases hn1:Lt.rName (Lt.w1 l) with
    | false=>rw [if_pos (by rw [hn1]; simp)] at h; simpa using h
    | true=>
     rw [if_pos rfl]
     refine ⟨by show (l.drop 2).length<=1099511627776; rw [List.length_drop]; omega,?_⟩
     cases hn2:(Lt.sArgs (l.drop 2) true).2 with
     | false=>rw [if_pos (by rw [hn2]; simp)] at h; simpa using h
     | true=>
      rw [if_pos rfl]
      rw [if_neg (by rw [hn1,hn2]; simp)] at h
      refine fun _ _ _ _=>ifk (fun c=>?_) (fun c=>?_)
      ·rw [if_pos (by simp at c; omega)] at h; exact h
      ·rw [if_neg (by simp at c; omega)] at h; exact h
   ·refine ifk (fun _=>?_) (fun hc=>by simp at hc; omega)
    rw [if_pos (by rw [decide_eq_false h10]; simp)] at h; exact h
  ·rw [if_neg (by simp; omega),if_pos (by decide)]
   rw [if_pos (by rw [decide_eq_false h2]; simp)] at h; exact h
 ·have hc:(decide (7<=r.abs.Where)&&r.abs.ins)=false:=by unfold Lt.Read.ins; simp; omega
  have h3:KP (Lt.flt 3) r:=by
   by_cases hin:r.abs.ins=false
   ·rw [if_pos hin] at h; exact h
   ·rw [if_neg hin] at h
    rw [if_pos ?_] at h
    ·exact h
    ·have:decide (7<=r.abs.Where)=false:=by
      cases hh:r.abs.ins <;> simp_all
     rw [this]; rfl
  rw [hc]
  exact ifk (fun _=>h3) (fun hc=>by simp at hc)
end Go.Am
end

section
namespace Go.Am
open Go
set_option linter.unusedVariables false
set_option linter.unusedSimpArgs false
theorem res_some {α:Type} {r:Lt.Reader} {w:Int} (K:Unit->Lt.Reader->Prop) (KP:Value->Lt.Reader->Prop) (o:Option α) (X:α->Lt.Read) (Y:Lt.Read) :
  exP (Lt.yRes r (match o with | some t=>(0,X t) | none=>(3,Y)) w) K KP=match o with | some t=>K () ⟨(X t).P,r.at_,w,r.first,(X t).Long⟩ | none=>KP (Lt.flt 3) r:=by cases o <;> rfl
theorem law_yEnd (r:Lt.Reader) (l:List (List UInt8)) (hp:Lt.preReader r l) (KK:Unit×Lt.Reader->Prop) (KP:Value->Lt.Reader->Prop) (h:exP (Lt.yEnd r l) (fun z x=>KK (z,x)) KP):F_yEnd r l KK KP:=by
 obtain ⟨⟨hi,hw,hlg,_⟩,hne,hr⟩:=hp
 have hr:l.length<=1099511627776:=hr
 have h0:0<l.length:=List.length_pos_iff.2 hne
 unfold F_yEnd
 unfold Lt.yEnd at h
 simp only [res_ite,res_3,res_some] at h
 dsimp only
 dsimp +instances only [Lt.numGet]
 simp only [has_in hw,exQ_name,exQ_arg,jn_app,jn_and,jn_imp,jn_ite,jn_const,and_self,true_and]
 cases hin:r.abs.ins with
 | false=>rw [if_pos hin] at h; exact h
 | true=>
 rw [if_neg (by rw [hin]; simp)] at h
 have hwh:5<=r.abs.Where/\r.abs.Where<=8:=by unfold Lt.Read.ins at hin; simpa using hin
 obtain ⟨hf,_,_,_,hb6⟩:=Inv_fun hi (by omega)
 obtain ⟨hbn,hph,hcd,_⟩:=Inv_block hi (by omega)
 have hf:r.p.Funcs≠[]:=hf
 have hf8:r.p.Funcs.length<=5000:=by have:r.p.Funcs.length<=8:=hi.2.1.2.2; omega
 have hb5:r.abs.curF.Blocks.length<=5000:=by omega
 have ef:r.p.Funcs.getD (r.p.Funcs.length - 1) default=r.abs.curF:=rfl
 have eb:r.abs.curF.Blocks.getD (r.abs.curF.Blocks.length - 1) default=r.abs.curB:=rfl
 simp only [wrap_last hf hf8,last_ob hf,last_lt hf,Int.toNat_natCast,ef,wrap_last hbn hb5,last_lt hbn,last_ob hbn,eb,true_and,and_self,implies_true,forall_const,show l.getD 0 default=Lt.w0 l from rfl,show l.getD 1 default=Lt.w1 l from rfl,show l.getD 2 default=Lt.w2 l from rfl,show l.getD 3 default=Lt.w3 l from rfl]
 refine ifk (fun hc=>by simp at hc) (fun _=>⟨⟨by decide,h0⟩,?_⟩)
 refine ifk (fun e1=>?_) (fun e1=>ifk (fun e2=>?_) (fun e2=>ifk (fun e3=>?_) (fun e3=>?_)))
 ·have e1:Lt.w0 l=Lt.kJump:=by simpa using e1
  have hT:Lt.yTerm l=if (decide (l.length=2)&&Lt.rName (Lt.w1 l))=true then some ⟨1,⟨0,[],0⟩,[Lt.w1 l],0⟩ else none:=by
   unfold Lt.yTerm Lt.sTerm; rw [if_pos (Or.inl e1),if_pos e1]
  rw [hT] at h
  refine fun _=>ifk (fun c=>?_) (fun c=>?_)
  ·rw [if_neg (by simp at c; simp; omega)] at h; exact h
  ·have h2:l.length=2:=by simp at c; omega
   refine ⟨⟨by decide,by omega⟩,ifk (fun c1=>?_) (fun c1=>?_)⟩
   ·rw [if_pos (by rw [c1]; simpa using h2)] at h; exact fun _ _=>h
   ·rw [if_neg (by rw [Bool.eq_false_iff.2 c1]; simp)] at h; exact h
 ·have n1:¬ Lt.w0 l=Lt.kJump:=by simpa using e1
  have e2:Lt.w0 l=Lt.kBranch:=by simpa using e2
  have hT:Lt.yTerm l=if (decide (l.length=4)&&(Lt.rName (Lt.w2 l)&&Lt.rName (Lt.w3 l))&&Lt.argOk false (Lt.w1 l))=true then some ⟨2,(Lt.sArg (Lt.w1 l)).1,[Lt.w2 l,Lt.w3 l],0⟩ else none:=by
   unfold Lt.yTerm Lt.sTerm; rw [if_pos (Or.inr (Or.inl e2)),if_neg n1,if_pos e2]
  rw [hT] at h
  refine fun _=>ifk (fun c=>?_) (fun c=>?_)
  ·rw [if_neg (by simp at c; simp; omega)] at h; exact h
  ·have h2:l.length=4:=by simp at c; omega
   refine ⟨⟨by decide,by omega⟩,⟨by decide,by omega⟩,⟨by decide,by omega⟩,ifk (fun c1=>ifk (fun c2=>ifk (fun c3=>?_) (fun c3=>?_)) (fun c2=>?_)) (fun c1=>?_)⟩
   ·rw [if_pos (by rw [c1,c2,c3]; simpa using h2)] at h; exact fun _ _=>h
   ·rw [if_neg (by rw [Bool.eq_false_iff.2 c3]; simp)] at h; exact h
   ·rw [if_neg (by rw [Bool.eq_false_iff.2 c2]; simp)] at h; exact h
   ·rw [if_neg (by rw [Bool.eq_false_iff.2 c1]; simp)] at h; exact h
 ·have n1:¬ Lt.w0 l=Lt.kJump:=by simpa using e1
  have n2:¬ Lt.w0 l=Lt.kBranch:=by simpa using e2
  have e3:Lt.w0 l=Lt.kRet:=by simpa using e3
  have hT:Lt.yTerm l=if (decide (l.length=2)&&Lt.argOk false (Lt.w1 l))=true then some ⟨3,(Lt.sArg (Lt.w1 l)).1,[],0⟩ else none:=by
   unfold Lt.yTerm Lt.sTerm; rw [if_pos (Or.inr (Or.inr e3)),if_neg n1,if_neg n2,if_pos e3]
  rw [hT] at h
  refine fun _=>ifk (fun c=>?_) (fun c=>?_)
  ·rw [if_neg (by simp at c; simp; omega)] at h; exact h
  ·have h2:l.length=2:=by simp at c; omega
   refine ⟨⟨by decide,by omega⟩,ifk (fun c1=>?_) (fun c1=>?_)⟩
   ·rw [if_pos (by rw [c1]; simpa using h2)] at h; exact fun _ _=>h
   ·rw [if_neg (by rw [Bool.eq_false_iff.2 c1]; simp)] at h; exact h
 ·have n1:¬ Lt.w0 l=Lt.kJump:=by simpa using e1
  have n2:¬ Lt.w0 l=Lt.kBranch:=by simpa using e2
  have n3:¬ Lt.w0 l=Lt.kRet:=by simpa using e3
  have hT:Lt.yTerm l=if (decide (l.length=2)&&(Lt.sNum (Lt.w1 l)).2)=true then some ⟨4,⟨0,[],0⟩,[],(Lt.sNum (Lt.w1 l)).1⟩ else none:=by
   unfold Lt.yTerm; rw [if_neg (fun hh=>hh.elim n1 (fun hh=>hh.elim n2 n3))]
  rw [hT] at h
  refine fun _=>ifk (fun c=>?_) (fun c=>?_)
  ·rw [if_neg (by simp at c; simp; omega)] at h; exact h
  ·have h2:l.length=2:=by simp at c; omega
   refine ⟨⟨by decide,by omega⟩,ifk (fun c1=>?_) (fun c1=>?_)⟩
   ·have c1:(Lt.sNum (Lt.w1 l)).2=false:=by simpa using c1
    rw [if_neg (by rw [c1]; simp)] at h; exact h
   ·have c1:(Lt.sNum (Lt.w1 l)).2=true:=by simpa using c1
    rw [if_pos (by rw [c1]; simpa using h2)] at h; exact fun _ _=>h
theorem sArgs_cons (w:List UInt8) (l:List (List UInt8)) (o:Bool):Lt.sArgs (w::l) o=if Lt.argOk o w=true then (if (Lt.sArgs l o).2=true then ((Lt.sArg w).1::(Lt.sArgs l o).1,true) else ([],false)) else ([],false):=by
 unfold Lt.sArgs
 cases h1:Lt.argOk o w <;> cases h2:l.all (Lt.argOk o) <;> simp [h1,h2]
theorem law_yCode (r:Lt.Reader) (l:List (List UInt8)) (hp:Lt.preReader r l) (KK:Unit×Lt.Reader->Prop) (KP:Value->Lt.Reader->Prop) (h:exP (Lt.yCode r l) (fun z x=>KK (z,x)) KP):F_yCode r l KK KP:=by
 obtain ⟨⟨hi,hw,hlg,_⟩,hne,hr⟩:=hp
 have hr:l.length<=1099511627776:=hr
 have h0:0<l.length:=List.length_pos_iff.2 hne
 have e0:Lt.sCodeM r.abs l=if (Lt.sEq l&&!Lt.rName (Lt.w0 l))=true then (3,r.abs) else codeR r.abs (if Lt.sEq l then Lt.w0 l else []) (if Lt.sEq l then l.drop 2 else l):=rfl
 unfold F_yCode
 unfold Lt.yCode at h
 rw [e0] at h
 dsimp only
 simp only [has_in hw,exQ_name,exQ_arg,exQ_args]
 cases hin:r.abs.ins with
 | false=>
  have h3:KP (Lt.flt 3) r:=by
   unfold codeR at h
   rw [if_pos hin] at h
   split at h <;> exact h
  exact h3
 | true=>
 have hwh:5<=r.abs.Where/\r.abs.Where<=8:=by unfold Lt.Read.ins at hin; simpa using hin
 obtain ⟨hf,_,_,_,hb6⟩:=Inv_fun hi (by omega)
 obtain ⟨hbn,hph,hcd,_⟩:=Inv_block hi (by omega)
 have hf:r.p.Funcs≠[]:=hf
 have hf8:r.p.Funcs.length<=5000:=by have:r.p.Funcs.length<=8:=hi.2.1.2.2; omega
 have hb5:r.abs.curF.Blocks.length<=5000:=by omega
 have hc5:r.abs.curB.Code.length<=5000:=by omega
 have ef:r.p.Funcs.getD (r.p.Funcs.length - 1) default=r.abs.curF:=rfl
 have eb:r.abs.curF.Blocks.getD (r.abs.curF.Blocks.length - 1) default=r.abs.curB:=rfl
 have l1:∀ x:Lt.Instr,([x]:List Lt.Instr).length=1:=fun _=>rfl
 have wl:IntKind.i64.wrap (r.long+1)=r.long+1:=wrap_i64 (by omega) (by omega)
 simp only [wrap_last hf hf8,last_ob hf,last_lt hf,Int.toNat_natCast,ef,wrap_last hbn hb5,last_lt hbn,last_ob hbn,eb,l1,app_ok hc5 (show 112<=200 by omega),wl,true_and,and_self,show l.getD 0 default=Lt.w0 l from rfl,show l.getD 1 default=Lt.w1 l from rfl]
 refine ifk (fun hc=>by simp at hc) (fun _=>?_)
 refine fun J1 hJ1=>?_
 have key:∀ (l':List (List UInt8)) (dst:List UInt8),0<l'.length->l'.length<=1099511627776->exP (Lt.yRes r (codeR r.abs dst l') ((codeR r.abs dst l').2.Where - 1)) (fun z x=>KK (z,x)) KP->J1 (l',⟨0,dst,[],[],[],[]⟩):=by
  intro l' dst h0' hr' hk
  refine hJ1 _ ?_
  clear hJ1 h e0 J1
  have hk:match Lt.sInstr dst l' with
    | none=>KP (Lt.flt 3) r
    | some x=>if 1024<=r.long then KP (Lt.flt 2) r else KK ((),⟨(r.abs.block (fun b=>{ b with Code:=b.Code++[x] })).P,r.at_,(if x.Op=31\/x.Op=34 then 7 else 6) - 1,r.first,r.long+1⟩):=by
   unfold codeR at hk
   rw [if_neg (by rw [hin]; simp)] at hk
   cases hs:Lt.sInstr dst l' with
   | none=>rw [hs] at hk; exact hk
   | some x=>
    rw [hs] at hk
    simp only [show r.abs.Long=r.long from rfl] at hk ⊢
    by_cases hl:1024<=r.long
    ·rw [if_pos hl] at hk ⊢; exact hk
    ·rw [if_neg hl] at hk ⊢; exact hk
  unfold Lt.sInstr Lt.sRest at hk
  have ew:l'.getD 0 default=Lt.w0 l':=rfl
  refine ⟨⟨by decide,h0'⟩,?_⟩
  unfold Lt.yOp
  simp only [ew]
  obtain ⟨_,_,e3,e4,e5,e6⟩:=rOf_eq (Lt.sOp (Lt.w0 l')).1
  simp only [<- e3,<- e4,<- e5,<- e6]
  have h26:(Lt.sOp (Lt.w0 l')).1=26\/(Lt.sOp (Lt.w0 l')).1=27->(Lt.rOf (Lt.sOp (Lt.w0 l')).1).1.Named=true:=by
   rintro (e | e) <;> rw [e] <;> rfl
  generalize Lt.sOp (Lt.w0 l')=O at hk h26 ⊢
  obtain ⟨op,okop⟩:=O
  simp only at hk h26 ⊢
  generalize (Lt.rOf op).1=fm at hk h26 ⊢
  cases hok:okop with
  | false=>rw [hok] at hk; exact hk
  | true=>
  rw [hok] at hk
  refine ifk (fun hc=>by simp at hc) (fun _=>?_)
  refine ifk (fun hc=>?_) (fun hc=>?_)
  ·rw [if_pos (by clear hk; simpa using hc)] at hk; exact hk
  rw [if_neg (by clear hk; simpa using hc)] at hk
  have ed:(l'.drop 1).take (l'.length - 1)=l'.drop 1:=List.take_of_length_le (by rw [List.length_drop]; omega)
  rw [ed]
  refine ⟨by decide,⟨by omega,Nat.le_refl _⟩,fun J6 hJ6=>?_⟩
  have key2:∀ nm gs,(if (decide (fm.Least<=(gs.length:Int))&&decide ((gs.length:Int)<=fm.Most))=true then (if 1024<=r.long then KP (Lt.flt 2) r else KK ((),⟨(r.abs.block (fun b=>{ b with Code:=b.Code++[(⟨op,dst,nm,gs,[],[]⟩:Lt.Instr)] })).P,r.at_,(if op=31\/op=34 then 7 else 6) - 1,r.first,r.long+1⟩)) else KP (Lt.flt 3) r)->J6 ⟨op,dst,nm,gs,[],[]⟩:=by
   intro nm gs hk2
   refine hJ6 _ ?_
   clear hJ6 hk J6
   refine fun J18 hJ18=>fun _=>?_
   have hok:(decide (fm.Least<=(gs.length:Int))&&decide ((gs.length:Int)<=fm.Most))=true->J18 ():=by
    intro hb
    rw [if_pos hb] at hk2
    refine hJ18 () ?_
    refine ifk (fun hl=>?_) (fun hl=>?_)
    ·rw [if_pos (by simpa using hl)] at hk2; exact hk2
    rw [if_neg (by simpa using hl)] at hk2
    simp only [implies_true,forall_const,jn_app,jval,bor]
    refine fun _ _=>?_
    by_cases h31:op=31\/op=34
    ·rw [if_pos (by simpa using h31)]
     rw [if_pos h31] at hk2
     exact hk2
    ·rw [if_neg (by simpa using h31)]
     rw [if_neg h31] at hk2
     exact hk2
   refine ifk (fun c1=>ifk (fun c2=>?_) (fun c2=>?_)) (fun c1=>?_)
   ·rw [if_neg (by rw [c1]; simpa using c2)] at hk2; exact hk2
   ·exact hok (by rw [c1]; simpa using c2)
   ·rw [if_neg (by rw [Bool.eq_false_iff.2 c1]; simp)] at hk2; exact hk2
  clear hJ6
  refine fun J8 hJ8=>?_
  have g8:=hJ8 (decide (op=26)||decide (op=27)) ?_
  ·cases h26:decide (op=26) with
   | true=>rw [h26] at g8; exact g8
   | false=>rw [h26] at g8; exact g8
  clear hJ8 J8
  refine ifk (fun c=>?_) (fun c=>?_)
  ·have c:op=26\/op=27:=by simpa using c
   have hnm:=h26 c
   rw [if_pos c] at hk
   refine fun _=>ifk (fun c3=>?_) (fun c3=>?_)
   ·rw [if_pos (by rw [List.length_drop] at c3; simp at c3; omega)] at hk; exact hk
   have h3:3<=l'.length:=by rw [List.length_drop] at c3; simp at c3; omega
   rw [if_neg (by omega)] at hk
   simp only [hnm,Bool.true_and,sArgs_cons,Bool.not_not] at hk
   have ew2:(l'.drop 1).getD 1 default=Lt.w2 l':=by rw [List.getD,List.getElem?_drop]; rfl
   have ew1:((l'.drop 1).drop 0).take (1 - 0)=[Lt.w1 l']:=by
    rw [List.drop_zero,List.drop_eq_getElem_cons (show 1<l'.length by omega)]
    unfold Lt.w1
    rw [List.getD,List.getElem?_eq_getElem (show 1<l'.length by omega)]; rfl
   have ed3:((l'.drop 1).drop 2).take ((l'.drop 1).length - 2)=l'.drop 3:=by rw [List.drop_drop,List.take_of_length_le (by simp only [List.length_drop]; omega)]
   rw [ew2,ew1,ed3]
   refine ⟨⟨by decide,by rw [List.length_drop]; omega⟩,?_⟩
   have hE:∀ {P:Prop},(Lt.rName (Lt.w2 l')=false->KP (Lt.flt 3) r)/\(Lt.rName (Lt.w2 l')=true->P)->(if Lt.rName (Lt.w2 l')=true then P else KP (Lt.flt 3) r):=by
    intro P ⟨a,b⟩
    refine ifk b (fun hc=>a (Bool.eq_false_iff.2 hc))
   refine hE ⟨fun hn=>?_,fun hn=>?_⟩
   ·rw [hn] at hk; simpa using hk
   rw [hn] at hk
   refine ⟨by decide,⟨by decide,by rw [List.length_drop]; omega⟩,by decide,⟨by rw [List.length_drop]; omega,Nat.le_refl _⟩,fun _=>?_⟩
   refine nat_loop _ 1 (fun i x=>(i=0/\x=(([]:List Lt.Arg),(0:Int)))\/(i=1/\x=([(Lt.sArg (Lt.w1 l')).1],(1:Int))/\Lt.argOk false (Lt.w1 l')=true)) (fun R i x hi hx hR=>?_) (fun R x hx=>?_) _ (Or.inl ⟨rfl,rfl⟩)
   ·rcases hx with ⟨rfl,rfl⟩ | ⟨h1,_⟩
    ·show (if decide ((0:Int) < (([Lt.w1 l']:List (List UInt8)).length:Int))=true then _ else _)
     rw [if_pos (by simp)]
     refine ⟨⟨Int.le_refl _,Nat.one_pos⟩,?_⟩
     show (if Lt.argOk false (Lt.w1 l')=true then _ else _)
     refine ifk (fun ca=>?_) (fun ca=>?_)
     ·exact ⟨⟨by show 0+1<=_; decide,by show (0+1)*32<=_; decide⟩,hR _ (Or.inr ⟨rfl,rfl,ca⟩)⟩
     ·rw [if_neg ca] at hk; simpa using hk
    ·omega
   ·rcases hx with ⟨h1,_⟩ | ⟨_,rfl,ca⟩
    ·omega
    ·show (if decide ((1:Int) < (([Lt.w1 l']:List (List UInt8)).length:Int))=true then _ else _)
     rw [if_neg (by simp)]
     rw [if_pos ca] at hk
     refine ⟨by show (l'.drop 3).length<=1099511627776; rw [List.length_drop]; omega,?_⟩
     refine ifk (fun ca2=>?_) (fun ca2=>?_)
     ·rw [if_pos ca2] at hk
      have hlen:(Lt.sArgs (l'.drop 3) false).1.length<=1099511627776:=by
       unfold Lt.sArgs; split
       ·rw [List.length_map,List.length_drop]; omega
       ·simp
      refine ⟨⟨by rw [List.length_singleton]; omega,by rw [List.length_singleton]; omega⟩,key2 _ _ ?_⟩
      rw [List.singleton_append]
      simp only [Bool.true_and] at hk
      refine ifk (fun cc=>?_) (fun cc=>?_)
      ·rw [if_pos cc] at hk; exact hk
      ·rw [if_neg cc] at hk; exact hk
     ·rw [if_neg ca2] at hk; simpa using hk
  ·have c:¬ (op=26\/op=27):=by simpa using c
   rw [if_neg c] at hk
   refine ifk (fun hnm=>?_) (fun hnm=>?_)
   ·rw [if_pos hnm] at hk
    refine fun _=>ifk (fun c3=>?_) (fun c3=>?_)
    ·rw [if_pos (by rw [List.length_drop] at c3; simp at c3; omega)] at hk; exact hk
    have h3:2<=l'.length:=by rw [List.length_drop] at c3; simp at c3; omega
    rw [if_neg (by omega)] at hk
    simp only [hnm,Bool.true_and,Bool.not_not] at hk
    have ew2:(l'.drop 1).getD 0 default=Lt.w1 l':=by rw [List.getD,List.getElem?_drop]; rfl
    have ed3:((l'.drop 1).drop 1).take ((l'.drop 1).length - 1)=l'.drop 2:=by rw [List.drop_drop,List.take_of_length_le (by simp only [List.length_drop]; omega)]
    rw [ew2,ed3]
    refine ⟨⟨by decide,by rw [List.length_drop]; omega⟩,?_⟩
    refine ifk (fun hn=>?_) (fun hn=>?_)
    ·rw [hn] at hk
     refine ⟨by decide,⟨by rw [List.length_drop]; omega,Nat.le_refl _⟩,by show (l'.drop 2).length<=1099511627776; rw [List.length_drop]; omega,?_⟩
     refine ifk (fun ca2=>key2 _ _ ?_) (fun ca2=>?_)
     ·rw [ca2] at hk
      simp only [Bool.true_and] at hk
      refine ifk (fun cc=>?_) (fun cc=>?_)
      ·rw [if_pos cc] at hk; exact hk
      ·rw [if_neg cc] at hk; exact hk
     ·rw [Bool.eq_false_iff.2 ca2] at hk; simpa using hk
    ·rw [Bool.eq_false_iff.2 hn] at hk; simpa using hk
   ·rw [if_neg hnm] at hk
    have hnm:fm.Named=false:=Bool.eq_false_iff.2 hnm
    simp only [hnm,Bool.false_and,Bool.not_false,Bool.and_true] at hk
    refine ⟨by show (l'.drop 1).length<=1099511627776; rw [List.length_drop]; omega,?_⟩
    refine ifk (fun ca2=>key2 _ _ ?_) (fun ca2=>?_)
    ·rw [ca2] at hk
     simp only [Bool.true_and] at hk
     refine ifk (fun cc=>?_) (fun cc=>?_)
     ·rw [if_pos cc] at hk; exact hk
     ·rw [if_neg cc] at hk; exact hk
    ·rw [Bool.eq_false_iff.2 ca2] at hk; simpa using hk
 have es:((decide (2 < (l.length:Int)))&&(decide (Lt.w1 l=[61])))=Lt.sEq l:=by
  unfold Lt.sEq; rw [show decide (2 < (l.length:Int))=decide (2<l.length) from decide_eq_decide.2 (by omega)]
 refine fun J3 hJ3=>?_
 have hE:=hJ3 (Lt.sEq l) ?_
 ·refine fun _=>ifk (fun hc=>⟨⟨by decide,by simp at hc; omega⟩,?_⟩) (fun hc=>?_)
  ·rw [<- es,hc,Bool.true_and] at hE; exact hE
  ·rw [<- es,Bool.eq_false_iff.2 hc,Bool.false_and] at hE; exact hE
 show (if Lt.sEq l=true then _ else _)
 by_cases hs:Lt.sEq l=true
 ·rw [if_pos hs]
  rw [hs] at h
  have h2:2<l.length:=by unfold Lt.sEq at hs; simp only [Bool.and_eq_true,decide_eq_true_eq] at hs; exact hs.1
  refine ⟨⟨by decide,h0⟩,?_⟩
  refine ifk (fun hc=>⟨by decide,⟨by omega,Nat.le_refl _⟩,?_⟩) (fun hc=>?_)
  ·rw [hc] at h
   have ed:(l.drop 2).take (l.length - 2)=l.drop 2:=List.take_of_length_le (by rw [List.length_drop]; omega)
   rw [ed]
   exact key _ _ (by rw [List.length_drop]; omega) (by rw [List.length_drop]; omega) h
  ·rw [Bool.eq_false_iff.2 hc] at h
   exact h
 ·rw [if_neg hs]
  rw [Bool.eq_false_iff.2 hs] at h
  exact key _ _ h0 hr h
end Go.Am
end

section
namespace Go.Am
open Go
set_option linter.unusedVariables false
set_option linter.unusedSimpArgs false
theorem ff {r:Lt.Read}:¬ ((false,(0:Int)),r).1.1=true:=fun h=>by simp at h
theorem kind_eq (w:List UInt8):Lt.sKind w=Lt.kind w:=by
 unfold Lt.sKind Lt.kind
 rw [rName_eq,Bool.or_assoc]
theorem last_snoc {α:Type} [Inhabited α] (l:List α) (x:α) (f:α->α):Lt.last (l++[x]) f=l++[f x]:=by
 unfold Lt.last
 rw [getD_snoc,set_snoc]
def stF (p:Lt.Program) (fs:List Lt.Func) (f:Lt.Func) (w n:Int):Lt.Read:=⟨{ p with Funcs:=fs++[f] },w,n⟩
def stB (p:Lt.Program) (fs:List Lt.Func) (f:Lt.Func) (bs:List Lt.Block) (b:Lt.Block) (w n:Int):Lt.Read:=stF p fs { f with Blocks:=bs++[b] } w n
def stI (p:Lt.Program) (fs:List Lt.Func) (f:Lt.Func) (bs:List Lt.Block) (b:Lt.Block) (cs:List Lt.Instr) (x:Lt.Instr) (w n:Int):Lt.Read:=stB p fs f bs { b with Code:=cs++[x] } w n
section
variable (p:Lt.Program) (fs:List Lt.Func) (f:Lt.Func) (bs:List Lt.Block) (b:Lt.Block) (cs:List Lt.Instr) (x:Lt.Instr) (w n:Int)
theorem func_st (g:Lt.Func->Lt.Func):(stF p fs f w n).func g=stF p fs (g f) w n:=by
 unfold Lt.Read.func stF
 rw [last_snoc]
theorem block_st (g:Lt.Block->Lt.Block):(stB p fs f bs b w n).block g=stB p fs f bs (g b) w n:=by
 unfold Lt.Read.block stB
 rw [func_st]
 simp only [last_snoc]
theorem instr_st (g:Lt.Instr->Lt.Instr):(stI p fs f bs b cs x w n).instr g=stI p fs f bs b cs (g x) w n:=by
 unfold Lt.Read.instr stI
 rw [block_st]
 simp only [last_snoc]
theorem curF_st:(stF p fs f w n).curF=f:=by unfold Lt.Read.curF stF; exact getD_snoc _ _
theorem curB_st:(stB p fs f bs b w n).curB=b:=by
 unfold Lt.Read.curB stB; rw [curF_st]; exact getD_snoc _ _
theorem curI_st:(stI p fs f bs b cs x w n).curI=x:=by
 unfold Lt.Read.curI stI; rw [curB_st]; exact getD_snoc _ _
end
end Go.Am
end

section
namespace Go.Am
open Go
set_option linter.unusedVariables false
set_option linter.unusedSimpArgs false
theorem longs_snoc (bs:List Lt.Block) (b:Lt.Block):longs (bs++[b])=longs bs+(b.Phis.length+b.Code.length):=by simp [longs]
theorem blocks_mk:∀ (l:List Lt.Block) (n:Nat),n+longs l<=1024->(∀ b∈l,Lt.block b=true)->Lt.blocks l n=true
 | [],_,_,_=>rfl
 | b::r,n,h,hb=>by
  have e:longs (b::r)=(b.Phis.length+b.Code.length)+longs r:=by simp [longs]
  rw [e] at h
  rw [Lt.blocks,hb b (by simp),blocks_mk r _ (by omega) (fun x hx=>hb x (by simp [hx]))]
  simp; omega
def headOk (f:Lt.Func):Prop:=Lt.Name f.Name=true/\Lt.kind f.Result=true/\Lt.typed f.Params 6=true/\Lt.typed f.Vars 1024=true
structure Open (f:Lt.Func) (bs:List Lt.Block) (b:Lt.Block) (w n:Int):Prop where
 hd:headOk f
 len:bs.length+1<=256
 long:n=((longs bs+(b.Phis.length+b.Code.length):Nat):Int)
 most:n<=1024
 bl:bs.all Lt.block=true
 nm:Lt.Name b.Name=true
 ph:b.Phis.all Lt.phi=true
 cd:b.Code.all Lt.instr=true
 fin:w=9->Lt.showEnd b.End=true
 ins:6<=w->w<=8->∃ cs c,b.Code=cs++[c]/\(7<=w->c.Op=31\/c.Op=34)
theorem part_mk {f:Lt.Func} {bs:List Lt.Block} {b:Lt.Block} {w n:Int} (hw:5<=w) (h:Open f bs b w n):Lt.fnPart { f with Blocks:=bs++[b] } w n:=by
 have hl:=h.long
 have hm:=h.most
 refine ⟨h.hd,⟨by simpa using h.len,by omega,hm⟩,fun _=>by omega,fun _=>⟨bs,b,rfl,h.bl,?_,⟨h.nm,h.ph,h.cd⟩,h.fin,h.ins⟩⟩
 have:=longs_snoc bs b
 unfold longs at this
 rw [hl]
 unfold longs
 rw [this]
theorem part_open {f:Lt.Func} {w n:Int} (hw:5<=w) (h:Lt.fnPart f w n):∃ bs b,f.Blocks=bs++[b]/\Open f bs b w n:=by
 obtain ⟨h1,⟨h2,h3,h4⟩,_,h5⟩:=h
 obtain ⟨bs,b,e,hb,hn,⟨k1,k2,k3⟩,hf,hi⟩:=h5 hw
 refine ⟨bs,b,e,⟨h1,by rw [e] at h2; simpa using h2,?_,h4,hb,k1,k2,k3,hf,hi⟩⟩
 rw [hn,e]
 have:=longs_snoc bs b
 unfold longs at this ⊢
 rw [this]
theorem part_fin {f:Lt.Func} {n:Int} (h:Lt.fnPart f 9 n):Lt.showFunction f=true:=by
 obtain ⟨bs,b,e,o⟩:=part_open (by omega) h
 obtain ⟨h1,h2,h3,h4⟩:=o.hd
 have hl:=o.long
 have hm:=o.most
 have hn:=o.len
 unfold Lt.showFunction
 have hb:∀ x∈f.Blocks,Lt.block x=true:=by
  rw [e]
  intro x hx
  rcases List.mem_append.1 hx with hx | hx
  ·exact List.all_eq_true.1 o.bl x hx
  ·rw [List.mem_singleton.1 hx]
   unfold Lt.block
   rw [o.nm,o.fin rfl,o.ph,o.cd]; rfl
 have hbl:Lt.blocks f.Blocks 0=true:=by
  refine blocks_mk _ _ ?_ hb
  rw [e,longs_snoc]; omega
 have hne:decide (f.Blocks=[])=false:=by rw [e]; simp
 have hle:decide (f.Blocks.length<=256)=true:=by rw [e]; simp; omega
 rw [h1,h2,h3,h4,hbl,hne,hle]; rfl
theorem out_all {r:Lt.Read} (h:Lt.Inv r) (ho:r.out=true):r.P.Funcs.all Lt.showFunction=true:=by
 obtain ⟨_,_,_,_,h2,h3⟩:=h
 have ho:r.Where<=2\/r.Where=9:=by simpa [Lt.Read.out] using ho
 rcases ho with ho | ho
 ·exact h2 ho
 ·obtain ⟨fs,f,e,hf,hp⟩:=h3 (by omega)
  rw [ho] at hp
  rw [e,List.all_append,hf]
  simp [part_fin hp]
theorem inv_st {p:Lt.Program} {fs:List Lt.Func} {f f':Lt.Func} {w w' n n':Int} (h:Lt.Inv (stF p fs f w n)) (hw:3<=w) (h1:3<=w') (h2:w'<=9) (hp:Lt.fnPart f' w' n'):Lt.Inv (stF p fs f' w' n'):=by
 obtain ⟨_,⟨a1,a2,a3⟩,⟨a4,a5,a6⟩,_,_,a7⟩:=h
 obtain ⟨fs0,f0,e,hf,_⟩:=a7 hw
 have e:fs++[f]=fs0++[f0]:=e
 obtain ⟨e1,_⟩:=List.append_inj' e rfl
 subst e1
 have a3:(fs++[f]).length<=8:=a3
 refine ⟨⟨by show 0<=w'; omega,h2⟩,⟨a1,a2,by show (fs++[f']).length<=8; simpa using a3⟩,⟨a4,a5,a6⟩,fun h=>?_,fun h=>?_,fun _=>⟨fs,f',rfl,hf,hp⟩⟩
 ·have:w'=1:=h
  omega
 ·have:w'<=2:=h
  omega
theorem inv_open {r:Lt.Read} (h:Lt.Inv r) (hw:3<=r.Where):∃ p fs f,r=stF p fs f r.Where r.Long/\Lt.fnPart f r.Where r.Long:=by
 obtain ⟨_,_,_,_,_,a7⟩:=h
 obtain ⟨fs,f,e,_,hp⟩:=a7 hw
 refine ⟨r.P,fs,f,?_,hp⟩
 unfold stF
 rw [<- e]
theorem inv_open5 {r:Lt.Read} (h:Lt.Inv r) (hw:5<=r.Where):∃ p fs f bs b,r=stB p fs f bs b r.Where r.Long/\Open f bs b r.Where r.Long:=by
 obtain ⟨p,fs,f,e,hp⟩:=inv_open h (by omega)
 obtain ⟨bs,b,e2,o⟩:=part_open hw hp
 refine ⟨p,fs,f,bs,b,?_,o⟩
 unfold stB
 rw [<- e2]; exact e
theorem inv_mk5 {p:Lt.Program} {fs:List Lt.Func} {f:Lt.Func} {bs bs':List Lt.Block} {b b':Lt.Block} {w w' n n':Int} (h:Lt.Inv (stB p fs f bs b w n)) (hw:5<=w) (h1:5<=w') (h2:w'<=9) (o:Open f bs' b' w' n'):Lt.Inv (stB p fs f bs' b' w' n'):=
 inv_st h (by omega) (by omega) h2 (part_mk h1 o)
theorem typed_snoc {l:List Lt.Var} {v:Lt.Var} {k:Nat} (h:Lt.typed l k=true) (hl:l.length<k) (h1:Lt.Name v.Name=true) (h2:Lt.kind v.Type_=true):Lt.typed (l++[v]) k=true:=by
 unfold Lt.typed at h ⊢
 simp only [Bool.and_eq_true] at h
 rw [List.all_append,h.2]
 simp [h1,h2]; omega
theorem typed_back {l:List (List UInt8)} (h:Lt.sTyped l=true):Lt.Name (Lt.w1 l)=true/\Lt.kind (Lt.w2 l)=true:=by
 unfold Lt.sTyped at h
 rw [rName_eq,kind_eq] at h
 simp only [Bool.and_eq_true] at h
 exact h.2
theorem snoc_of {α:Type} {l:List α} (h:l≠[]):∃ i x,l=i++[x]:=⟨l.dropLast,l.getLast h,(List.dropLast_concat_getLast h).symm⟩
theorem Inv_mk {s:Bool} {cs:List Lt.Class} {gs:List Lt.Var} {es:List Lt.Extern} {fs:List Lt.Func} {w n:Int} (h0:0<=w) (h9:w<=9) (a1:cs.length<=8) (a2:es.length<=8) (a3:fs.length<=8) (a4:Lt.typed gs 8=true) (a5:cs.all Lt.classRight=true) (a6:es.all Lt.externRight=true)
  (a7:w=1->cs≠[]) (a8:w<=2->fs.all Lt.showFunction=true) (a9:3<=w->∃ fs0 f,fs=fs0++[f]/\fs0.all Lt.showFunction=true/\Lt.fnPart f w n):Lt.Inv ⟨⟨s,cs,gs,es,fs⟩,w,n⟩:=⟨⟨h0,h9⟩,⟨a1,a2,a3⟩,⟨a4,a5,a6⟩,a7,a8,a9⟩
theorem inv_class {r:Lt.Read} {l:List (List UInt8)} (h:Lt.Inv r) (hz:(Lt.sClass r l).1=0):Lt.Inv (Lt.sClass r l).2:=by
 unfold Lt.sClass at hz ⊢
 split at hz
 ·cases hz
 rename_i c1; rw [if_neg c1]
 split at hz
 ·cases hz
 rename_i c2; rw [if_neg c2]
 simp only [Bool.not_eq_false,Bool.and_eq_true,rName_eq] at c1
 have hf:=out_all h c1.1.1
 obtain ⟨_,⟨a1,a2,a3⟩,⟨a4,a5,a6⟩,_⟩:=h
 refine Inv_mk (by decide) (by decide) (by simp; omega) a2 a3 a4 ?_ a6 (fun _=>by simp) (fun _=>hf) (fun h=>absurd h (by decide))
 rw [List.all_append,a5]
 simp only [List.all_cons,List.all_nil,Bool.and_true,Bool.true_and]
 unfold Lt.classRight
 rw [c1.2]; rfl
theorem inv_field {r:Lt.Read} {l:List (List UInt8)} (h:Lt.Inv r) (hz:(Lt.sField r l).1=0):Lt.Inv (Lt.sField r l).2:=by
 unfold Lt.sField at hz ⊢
 split at hz
 ·cases hz
 rename_i c1; rw [if_neg c1]
 split at hz
 ·cases hz
 rename_i c2; rw [if_neg c2]
 simp only [Bool.not_eq_false,Bool.and_eq_true,decide_eq_true_eq] at c1
 obtain ⟨c1,ct⟩:=c1
 obtain ⟨t1,t2⟩:=typed_back ct
 obtain ⟨a0,⟨a1,a2,a3⟩,⟨a4,a5,a6⟩,a7,a8,a9⟩:=h
 obtain ⟨i,c,e⟩:=snoc_of (a7 c1)
 rw [e,getD_snoc] at c2
 rw [e] at a5 a1
 rw [List.all_append] at a5
 simp only [Bool.and_eq_true,List.all_cons,List.all_nil,and_true] at a5
 obtain ⟨p1,p2⟩:=a5
 unfold Lt.classRight at p2
 simp only [Bool.and_eq_true] at p2
 have key:Lt.last r.P.Classes (fun c=>{ c with Fields:=c.Fields++[⟨Lt.w1 l,Lt.w2 l⟩] })=i++[{ c with Fields:=c.Fields++[⟨Lt.w1 l,Lt.w2 l⟩] }]:=by rw [e,last_snoc]
 show Lt.Inv ⟨⟨r.P.SSA,Lt.last r.P.Classes (fun c=>{ c with Fields:=c.Fields++[⟨Lt.w1 l,Lt.w2 l⟩] }),r.P.Globals,r.P.Externs,r.P.Funcs⟩,r.Where,r.Long⟩
 rw [key]
 refine Inv_mk a0.1 a0.2 (by simpa using a1) a2 a3 a4 ?_ a6 (fun _=>by simp) a8 (fun h=>by omega)
 ·rw [List.all_append,p1]
  simp only [List.all_cons,List.all_nil,Bool.and_true,Bool.true_and]
  unfold Lt.classRight
  have:=typed_snoc (k:=8) (v:=⟨Lt.w1 l,Lt.w2 l⟩) p2.2 (by omega) t1 t2
  rw [p2.1]; simpa using this
theorem limit_0 {n k:Nat} (h:(if k<=n then (2:Int) else 0)=0):n<k:=by
 split at h
 ·cases h
 ·omega
theorem inv_global {r:Lt.Read} {l:List (List UInt8)} (h:Lt.Inv r) (hz:(Lt.sGlobal r l).1=0):Lt.Inv (Lt.sGlobal r l).2:=by
 unfold Lt.sGlobal at hz ⊢
 split at hz
 ·cases hz
 rename_i c1; rw [if_neg c1]
 have c2:=limit_0 hz
 simp only [Bool.not_eq_false,Bool.and_eq_true] at c1
 obtain ⟨t1,t2⟩:=typed_back c1.2
 have hf:=out_all h c1.1
 obtain ⟨_,⟨a1,a2,a3⟩,⟨a4,a5,a6⟩,_⟩:=h
 exact Inv_mk (w:=2) (by decide) (by decide) a1 a2 a3 (typed_snoc (k:=8) a4 c2 t1 t2) a5 a6 (fun h=>absurd h (by decide)) (fun _=>hf) (fun h=>absurd h (by decide))
theorem inv_extern {r:Lt.Read} {l:List (List UInt8)} (h:Lt.Inv r) (hz:(Lt.sExtern r l).1=0):Lt.Inv (Lt.sExtern r l).2:=by
 unfold Lt.sExtern at hz ⊢
 split at hz
 ·cases hz
 rename_i c1; rw [if_neg c1]
 have c2:=limit_0 hz
 simp only [Bool.not_eq_false,Bool.and_eq_true,rName_eq] at c1
 have hf:=out_all h c1.1.1.1
 obtain ⟨_,⟨a1,a2,a3⟩,⟨a4,a5,a6⟩,_⟩:=h
 refine Inv_mk (w:=2) (by decide) (by decide) a1 (by simp; omega) a3 a4 a5 ?_ (fun h=>absurd h (by decide)) (fun _=>hf) (fun h=>absurd h (by decide))
 rw [List.all_append,a6]
 simp only [List.all_cons,List.all_nil,Bool.and_true,Bool.true_and]
 unfold Lt.externRight
 rw [c1.1.2,c1.2.1.2,c1.2.2]; rfl
theorem inv_func {r:Lt.Read} {l:List (List UInt8)} (h:Lt.Inv r) (hz:(Lt.sFunc r l).1=0):Lt.Inv (Lt.sFunc r l).2:=by
 unfold Lt.sFunc at hz ⊢
 split at hz
 ·cases hz
 rename_i c1; rw [if_neg c1]
 have c2:=limit_0 hz
 simp only [Bool.not_eq_false,Bool.and_eq_true] at c1
 obtain ⟨t1,t2⟩:=typed_back c1.2
 have hf:=out_all h c1.1
 obtain ⟨_,⟨a1,a2,a3⟩,⟨a4,a5,a6⟩,_⟩:=h
 exact Inv_mk (w:=3) (n:=0) (by decide) (by decide) a1 a2 (by simp; omega) a4 a5 a6 (fun h=>absurd h (by decide)) (fun h=>absurd h (by decide)) (fun _=>⟨r.P.Funcs,_,rfl,hf,⟨⟨t1,t2,by simp [Lt.typed],by simp [Lt.typed]⟩,⟨by simp,by decide,by decide⟩,fun _=>⟨rfl,rfl⟩,fun h=>absurd h (by decide)⟩⟩)
theorem inv_param {r:Lt.Read} {l:List (List UInt8)} (h:Lt.Inv r) (hz:(Lt.sParam r l).1=0):Lt.Inv (Lt.sParam r l).2:=by
 unfold Lt.sParam at hz ⊢
 split at hz
 ·cases hz
 rename_i c1; rw [if_neg c1]
 have c2:=limit_0 hz
 simp only [Bool.not_eq_false,Bool.and_eq_true,decide_eq_true_eq] at c1
 obtain ⟨c1,ct⟩:=c1
 obtain ⟨t1,t2⟩:=typed_back ct
 obtain ⟨p,fs,f,e,hp⟩:=inv_open h (by omega)
 rw [e,curF_st] at c2
 rw [e] at h
 obtain ⟨⟨k1,k2,k3,k4⟩,k5,k6,_⟩:=hp
 have key:=inv_st (f':={ f with Params:=f.Params++[⟨Lt.w1 l,Lt.w2 l⟩] }) (w':=3) (n':=r.Long) h (by omega) (by omega) (by omega) ⟨⟨k1,k2,typed_snoc (k:=6) k3 c2 t1 t2,k4⟩,k5,fun _=>k6 (by omega),fun h=>absurd h (by decide)⟩
 have e2:r.func (fun f=>{ f with Params:=f.Params++[⟨Lt.w1 l,Lt.w2 l⟩] })=stF p fs { f with Params:=f.Params++[⟨Lt.w1 l,Lt.w2 l⟩] } 3 r.Long:=by
  rw [e,func_st,c1]; rfl
 rw [e2]; exact key
theorem inv_var {r:Lt.Read} {l:List (List UInt8)} (h:Lt.Inv r) (hz:(Lt.sVar r l).1=0):Lt.Inv (Lt.sVar r l).2:=by
 unfold Lt.sVar at hz ⊢
 split at hz
 ·cases hz
 rename_i c1; rw [if_neg c1]
 have c2:=limit_0 hz
 simp only [Bool.not_eq_false,Bool.and_eq_true,decide_eq_true_eq,Bool.or_eq_true] at c1
 obtain ⟨c1,ct⟩:=c1
 obtain ⟨t1,t2⟩:=typed_back ct
 obtain ⟨p,fs,f,e,hp⟩:=inv_open h (by omega)
 rw [e,curF_st] at c2
 rw [e] at h
 obtain ⟨⟨k1,k2,k3,k4⟩,k5,k6,_⟩:=hp
 have key:=inv_st (f':={ f with Vars:=f.Vars++[⟨Lt.w1 l,Lt.w2 l⟩] }) (w':=4) (n':=r.Long) h (by omega) (by omega) (by omega) ⟨⟨k1,k2,k3,typed_snoc (k:=1024) k4 c2 t1 t2⟩,k5,fun _=>k6 (by omega),fun h=>absurd h (by decide)⟩
 have e2:r.func (fun f=>{ f with Vars:=f.Vars++[⟨Lt.w1 l,Lt.w2 l⟩] })=stF p fs { f with Vars:=f.Vars++[⟨Lt.w1 l,Lt.w2 l⟩] } r.Where r.Long:=by
  rw [e,func_st]; rfl
 rw [e2]; exact key
theorem inv_block {r:Lt.Read} {l:List (List UInt8)} (h:Lt.Inv r) (hz:(Lt.sBlock r l).1=0):Lt.Inv (Lt.sBlock r l).2:=by
 unfold Lt.sBlock at hz ⊢
 split at hz
 ·cases hz
 rename_i c1; rw [if_neg c1]
 have c2:=limit_0 hz
 simp only [Bool.not_eq_false,Bool.and_eq_true,decide_eq_true_eq,Bool.or_eq_true,rName_eq] at c1
 obtain ⟨⟨c1,_⟩,cn⟩:=c1
 obtain ⟨p,fs,f,e,hp⟩:=inv_open h (by omega)
 rw [e,curF_st] at c2
 rw [e] at h
 have e2:r.func (fun f=>{ f with Blocks:=f.Blocks++[⟨Lt.w1 l,[],[],⟨0,⟨0,[],0⟩,[],0⟩⟩] })=stF p fs { f with Blocks:=f.Blocks++[⟨Lt.w1 l,[],[],⟨0,⟨0,[],0⟩,[],0⟩⟩] } r.Where r.Long:=by
  rw [e,func_st]; rfl
 rw [e2]
 have hall:f.Blocks.all Lt.block=true/\r.Long=((longs f.Blocks:Nat):Int)/\r.Long<=1024:=by
  by_cases h9:r.Where=9
  ·rw [h9] at hp
   have hs:=func_ok (part_fin hp)
   obtain ⟨bs,b,eb,o⟩:=part_open (by omega) hp
   exact ⟨List.all_eq_true.2 hs.bl,by rw [o.long,eb,longs_snoc],o.most⟩
  ·obtain ⟨_,_,k6,_⟩:=hp
   obtain ⟨k7,k8⟩:=k6 (by omega)
   rw [k7,k8]
   exact ⟨rfl,rfl,by decide⟩
 refine inv_st h (by omega) (by omega) (by omega) (part_mk (by omega) ⟨hp.1,by omega,?_,hall.2.2,hall.1,cn,rfl,rfl,fun h=>absurd h (by decide),fun h=>absurd h (by decide)⟩)
 show r.Long=_
 rw [hall.2.1]; simp
theorem pairs_back {objs:Bool} {l:List (List UInt8)} {k:Int} (h:(Lt.sPairs l k objs).2=true):(∀ b∈(Lt.sPairs l k objs).1,Lt.Name b.Name=true/\Lt.argRight objs b.A=true)/\((Lt.sPairs l k objs).1.flatMap fun b=>[b.Name,Lt.wordPut b.A])=l.drop k.toNat:=by
 unfold Lt.sPairs at h ⊢
 split at h
 ·cases h
 rename_i hc; rw [if_neg hc]
 cases hg:Lt.sPairsG objs (l.drop k.toNat) with
 | none=>rw [hg] at h; cases h
 | some x=>exact pairsG_back hg
theorem inv_phi {r:Lt.Read} {l:List (List UInt8)} (h:Lt.Inv r) (hz:(Lt.sPhi r l).1=0):Lt.Inv (Lt.sPhi r l).2:=by
 unfold Lt.sPhi at hz ⊢
 split at hz
 ·cases hz
 rename_i c1; rw [if_neg c1]
 split at hz
 ·cases hz
 rename_i c2; rw [if_neg c2]
 simp only [Bool.not_eq_false,Bool.and_eq_true,decide_eq_true_eq,Bool.not_eq_true',decide_eq_false_iff_not,rName_eq] at c1
 obtain ⟨⟨⟨c1,cp⟩,ce⟩,cn⟩:=c1
 obtain ⟨p,fs,f,bs,b,e,o⟩:=inv_open5 h (by omega)
 rw [e] at h
 have e2:({ r.block (fun b=>{ b with Phis:=b.Phis++[⟨Lt.w1 l,(Lt.sPairs l 2 false).1.map fun x=>⟨x.Name,x.A⟩⟩] }) with Long:=r.Long+1 }:Lt.Read)=stB p fs f bs { b with Phis:=b.Phis++[⟨Lt.w1 l,(Lt.sPairs l 2 false).1.map fun x=>⟨x.Name,x.A⟩⟩] } 5 (r.Long+1):=by
  have:r.block (fun b=>{ b with Phis:=b.Phis++[⟨Lt.w1 l,(Lt.sPairs l 2 false).1.map fun x=>⟨x.Name,x.A⟩⟩] })=stB p fs f bs { b with Phis:=b.Phis++[⟨Lt.w1 l,(Lt.sPairs l 2 false).1.map fun x=>⟨x.Name,x.A⟩⟩] } r.Where r.Long:=by
   rw [e,block_st]; rfl
  rw [this,c1]; rfl
 rw [e2]
 have hl:=o.long
 refine inv_mk5 h (by omega) (by omega) (by omega) ⟨o.hd,o.len,?_,by omega,o.bl,o.nm,?_,o.cd,fun h=>absurd h (by decide),fun h=>absurd h (by decide)⟩
 ·simp only [List.length_append,List.length_cons,List.length_nil]; omega
 ·rw [List.all_append,o.ph]
  simp only [List.all_cons,List.all_nil,Bool.and_true,Bool.true_and]
  unfold Lt.phi
  have hp:=(pairs_back cp).1
  have e1:decide (((Lt.sPairs l 2 false).1.map fun x=>(⟨x.Name,x.A⟩:Lt.In))=[])=false:=by
   simp only [decide_eq_false_iff_not,List.map_eq_nil_iff]
   intro e; rw [e] at ce; exact ce rfl
  have e3:((Lt.sPairs l 2 false).1.map fun x=>(⟨x.Name,x.A⟩:Lt.In)).all Lt.inRight=true:=by
   rw [List.all_map,List.all_eq_true]
   intro x hx
   show (Lt.Name x.Name&&Lt.argRight false x.A)=true
   rw [(hp x hx).1,(hp x hx).2]; rfl
  rw [cn,e1,e3]
  simp; omega
theorem sInstr_back {dst:List UInt8} {l:List (List UInt8)} {x:Lt.Instr} (h:Lt.sInstr dst l=some x) (hd:dst≠[]->Lt.Name dst=true):Lt.instr x=true/\x.Frames=[]/\x.Objs=[]:=by
 unfold Lt.sInstr at h
 split at h
 ·cases h
 rename_i c1
 simp only [Bool.not_eq_false,Bool.and_eq_true,beq_iff_eq] at c1
 obtain ⟨_,o2,o3⟩:=sOp_back c1.1
 obtain ⟨_,e2,e3,e4,e5,e6⟩:=rOf_eq (Lt.sOp (Lt.w0 l)).1
 rw [e3] at c1
 split at h
 ·cases h
 rename_i nm rest hr
 split at h
 ·rename_i c2
  simp only [Bool.and_eq_true,decide_eq_true_eq] at c2
  obtain ⟨⟨⟨c2,c3⟩,c4⟩,c5⟩:=c2
  rw [e4,rName_eq] at c3
  rw [e5] at c4
  rw [e6] at c5
  simp only [Option.some.injEq] at h
  subst h
  refine ⟨?_,rfl,rfl⟩
  have hsa:=(sArgs_back c2).1
  have hN:(Lt.Of (Lt.sOp (Lt.w0 l)).1).1.Named=!decide (nm=[]):=by
   unfold Lt.sRest at hr
   cases hn:(Lt.Of (Lt.sOp (Lt.w0 l)).1).1.Named with
   | true=>
    rw [hn] at c3
    have:Lt.Name nm=true:=by simpa using c3
    cases nm with
    | nil=>cases this
    | cons a r=>rfl
   | false=>
    split at hr
    ·rename_i hc
     have h26:(Lt.Of 26).1.Named=true:=by decide +kernel
     have h27:(Lt.Of 27).1.Named=true:=by decide +kernel
     rcases hc with e | e <;> rw [e] at hn
     ·rw [h26] at hn; cases hn
     ·rw [h27] at hn; cases hn
    ·rw [e4,hn,if_neg (by decide)] at hr
     simp only [Option.some.injEq,Prod.mk.injEq] at hr
     rw [<- hr.1]; rfl
  unfold Lt.instr
  dsimp only
  rw [o3,hsa,c1.2,<- hN,decide_eq_true c4,decide_eq_true c5,c3]
  have h1:(!(!decide (dst=[])&&!Lt.Name dst))=true:=by
   by_cases hc:dst=[]
   ·simp [hc]
   ·simp [hd hc]
  have h2:(if (Lt.sOp (Lt.w0 l)).1≠31/\(Lt.sOp (Lt.w0 l)).1≠34 then decide (([]:List Lt.Frame)=[])&&decide (([]:List Lt.Virt)=[]) else ([]:List Lt.Frame).all Lt.frame&&([]:List Lt.Virt).all Lt.virt)=true:=by
   split <;> rfl
  rw [h1,h2]
  simp
 ·cases h
theorem inv_code {r:Lt.Read} {l:List (List UInt8)} (h:Lt.Inv r) (hz:(Lt.sCodeM r l).1=0):Lt.Inv (Lt.sCodeM r l).2:=by
 unfold Lt.sCodeM at hz ⊢
 split at hz
 ·cases hz
 rename_i c0; rw [if_neg c0]
 split at hz
 ·cases hz
 rename_i c1; rw [if_neg c1]
 cases hs:Lt.sInstr (if Lt.sEq l then Lt.w0 l else []) (if Lt.sEq l then l.drop 2 else l) with
 | none=>rw [hs] at hz; cases hz
 | some x=>
  rw [hs] at hz
  simp only at hz ⊢
  split at hz
  ·cases hz
  rename_i c2; rw [if_neg c2]
  have hin:5<=r.Where/\r.Where<=8:=by simpa [Lt.Read.ins] using c1
  obtain ⟨hx,hf,ho⟩:=sInstr_back hs (by
   rw [rName_eq] at c0
   cases he:Lt.sEq l with
   | true=>rw [he] at c0; intro _; rw [if_pos rfl]; simpa using c0
   | false=>intro h; exact absurd (if_neg (by decide)) h)
  obtain ⟨p,fs,f,bs,b,e,o⟩:=inv_open5 h (by omega)
  rw [e] at h
  have e2:({ r.block (fun b=>{ b with Code:=b.Code++[x] }) with Where:=if x.Op=31\/x.Op=34 then 7 else 6,Long:=r.Long+1 }:Lt.Read)=stB p fs f bs { b with Code:=b.Code++[x] } (if x.Op=31\/x.Op=34 then 7 else 6) (r.Long+1):=by
   have:r.block (fun b=>{ b with Code:=b.Code++[x] })=stB p fs f bs { b with Code:=b.Code++[x] } r.Where r.Long:=by
    rw [e,block_st]; rfl
   rw [this]; rfl
  rw [e2]
  have hl:=o.long
  have hw:∀ {k:Int},k=(if x.Op=31\/x.Op=34 then (7:Int) else 6)->5<=k/\k<=8/\(7<=k->x.Op=31\/x.Op=34):=by
   rintro k rfl
   split
   ·rename_i hc; exact ⟨by omega,by omega,fun _=>hc⟩
   ·exact ⟨by omega,by omega,fun h=>by omega⟩
  obtain ⟨w1,w2,w3⟩:=hw rfl
  refine inv_mk5 h (by omega) w1 (by omega) ⟨o.hd,o.len,?_,by omega,o.bl,o.nm,o.ph,?_,fun h=>by omega,fun _ _=>⟨b.Code,x,rfl,w3⟩⟩
  ·simp only [List.length_append,List.length_cons,List.length_nil]; omega
  ·rw [List.all_append,o.cd]
   simp [hx]
theorem instr_with {c:Lt.Instr} {fr:List Lt.Frame} {ob:List Lt.Virt} (h:Lt.instr c=true) (ho:c.Op=31\/c.Op=34) (h1:fr.length<=16) (h2:ob.length<=99) (h3:∀ x∈fr,Lt.frame x=true) (h4:∀ x∈ob,Lt.virt x=true):Lt.instr { c with Frames:=fr,Objs:=ob }=true:=by
 unfold Lt.instr at h ⊢
 simp only [Bool.and_eq_true] at h ⊢
 obtain ⟨⟨k1,⟨⟨⟨k2,k3⟩,k4⟩,_⟩,_⟩,_⟩:=h
 refine ⟨⟨k1,⟨⟨⟨k2,k3⟩,k4⟩,by simpa using h1⟩,by simpa using h2⟩,?_⟩
 rw [if_neg (by omega),Bool.and_eq_true,List.all_eq_true,List.all_eq_true]
 exact ⟨h3,h4⟩
theorem inv_at {r:Lt.Read} {l:List (List UInt8)} (h:Lt.Inv r) (hz:(Lt.sAt r l).1=0):Lt.Inv (Lt.sAt r l).2:=by
 unfold Lt.sAt at hz ⊢
 split at hz
 ·cases hz
 rename_i c1; rw [if_neg c1]
 split at hz
 ·cases hz
 rename_i c2; rw [if_neg c2]
 simp only [Bool.not_eq_false,Bool.and_eq_true,decide_eq_true_eq,rName_eq] at c1
 obtain ⟨⟨⟨⟨c1,cp⟩,cf⟩,cb⟩,⟨cn,c0⟩,c9⟩:=c1
 obtain ⟨p,fs,f,bs,b,e,o⟩:=inv_open5 h (by omega)
 obtain ⟨cs,c,ec,hop⟩:=o.ins (by omega) (by omega)
 have hop:=hop (by omega)
 have e':r=stI p fs f bs b cs c r.Where r.Long:=by
  unfold stI; rw [<- ec]; exact e
 have hc:=o.cd
 rw [ec,List.all_append] at hc
 simp only [Bool.and_eq_true,List.all_cons,List.all_nil,and_true] at hc
 have hio:=instr_ok hc.2
 rw [e',curI_st] at c2
 rw [e] at h
 have e2:r.instr (fun x=>{ x with Frames:=x.Frames++[⟨Lt.w1 l,Lt.w2 l,(Lt.sNum (Lt.w3 l)).1,(Lt.sPairs l 4 true).1⟩] })=stI p fs f bs b cs { c with Frames:=c.Frames++[⟨Lt.w1 l,Lt.w2 l,(Lt.sNum (Lt.w3 l)).1,(Lt.sPairs l 4 true).1⟩] } r.Where r.Long:=by
  rw [e',instr_st]; rfl
 rw [e2]
 have hl:=o.long
 refine inv_mk5 h (by omega) (by omega) (by omega) ⟨o.hd,o.len,?_,o.most,o.bl,o.nm,o.ph,?_,fun h=>by omega,fun _ _=>⟨cs,_,rfl,fun _=>hop⟩⟩
 ·rw [hl,ec]; simp
 ·rw [List.all_append,hc.1]
  simp only [List.all_cons,List.all_nil,Bool.and_true,Bool.true_and]
  refine instr_with (c:=c) (ob:=c.Objs) hc.2 hop (by simp; omega) hio.objs (fun x hx=>?_) hio.ob
  rcases List.mem_append.1 hx with hx | hx
  ·exact hio.fr x hx
  ·rw [List.mem_singleton.1 hx]
   have hp:=(pairs_back cp).1
   unfold Lt.frame
   have e3:(Lt.sPairs l 4 true).1.all Lt.bindRight=true:=by
    rw [List.all_eq_true]
    intro x hx
    show (Lt.Name x.Name&&Lt.argRight true x.A)=true
    rw [(hp x hx).1,(hp x hx).2]; rfl
   simp only
   rw [cf,cb,e3,decide_eq_true c0,decide_eq_true c9,decide_eq_true (show (Lt.sPairs l 4 true).1.length<=16 by omega)]; rfl
theorem inv_obj {r:Lt.Read} {l:List (List UInt8)} (h:Lt.Inv r) (hi:r.ins=true) (hz:(Lt.sObj r l).1=0):Lt.Inv (Lt.sObj r l).2:=by
 unfold Lt.sObj at hz ⊢
 split at hz
 ·cases hz
 rename_i c1; rw [if_neg c1]
 have c2:=limit_0 hz
 have hin:5<=r.Where/\r.Where<=8:=by simpa [Lt.Read.ins] using hi
 simp only [Bool.not_eq_false,Bool.and_eq_true,decide_eq_true_eq,rName_eq] at c1
 obtain ⟨⟨⟨⟨c1,c3⟩,c4⟩,cn⟩,ca⟩:=c1
 obtain ⟨p,fs,f,bs,b,e,o⟩:=inv_open5 h (by omega)
 obtain ⟨cs,c,ec,hop⟩:=o.ins (by omega) (by omega)
 have hop:=hop (by omega)
 have e':r=stI p fs f bs b cs c r.Where r.Long:=by
  unfold stI; rw [<- ec]; exact e
 have hc:=o.cd
 rw [ec,List.all_append] at hc
 simp only [Bool.and_eq_true,List.all_cons,List.all_nil,and_true] at hc
 have hio:=instr_ok hc.2
 rw [e',curI_st] at c2
 rw [e] at h
 have e2:({ r.instr (fun x=>{ x with Objs:=x.Objs++[⟨Lt.w1 l,(Lt.sArgs (l.drop 2) true).1⟩] }) with Where:=8 }:Lt.Read)=stI p fs f bs b cs { c with Objs:=c.Objs++[⟨Lt.w1 l,(Lt.sArgs (l.drop 2) true).1⟩] } 8 r.Long:=by
  have:r.instr (fun x=>{ x with Objs:=x.Objs++[⟨Lt.w1 l,(Lt.sArgs (l.drop 2) true).1⟩] })=stI p fs f bs b cs { c with Objs:=c.Objs++[⟨Lt.w1 l,(Lt.sArgs (l.drop 2) true).1⟩] } r.Where r.Long:=by
   rw [e',instr_st]; rfl
  rw [this]; rfl
 rw [e2]
 have hl:=o.long
 refine inv_mk5 h (by omega) (by omega) (by omega) ⟨o.hd,o.len,?_,o.most,o.bl,o.nm,o.ph,?_,fun h=>by omega,fun _ _=>⟨cs,_,rfl,fun _=>hop⟩⟩
 ·rw [hl,ec]; simp
 ·rw [List.all_append,hc.1]
  simp only [List.all_cons,List.all_nil,Bool.and_true,Bool.true_and]
  refine instr_with (c:=c) (fr:=c.Frames) hc.2 hop hio.frames (by simp; omega) hio.fr (fun x hx=>?_)
  rcases List.mem_append.1 hx with hx | hx
  ·exact hio.ob x hx
  ·rw [List.mem_singleton.1 hx]
   obtain ⟨k1,k2,_⟩:=sArgs_back ca
   rw [List.length_drop] at k2
   unfold Lt.virt
   simp only
   rw [cn,k1]
   simp; omega
theorem sTerm_back {l:List (List UInt8)} {t:Lt.Term} (h:Lt.sTerm l=some t):Lt.showEnd t=true:=by
 unfold Lt.sTerm at h
 split at h
 ·split at h
  ·rename_i c
   simp only [Bool.and_eq_true,rName_eq] at c
   simp only [Option.some.injEq] at h; subst h
   simp [Lt.showEnd,Lt.noArg]
   exact c.2
  ·cases h
 split at h
 ·split at h
  ·rename_i c
   simp only [Bool.and_eq_true,rName_eq] at c
   simp only [Option.some.injEq] at h; subst h
   have:=argOk_back c.2
   simp [Lt.showEnd]
   exact ⟨c.1.2,this⟩
  ·cases h
 split at h
 ·split at h
  ·rename_i c
   simp only [Bool.and_eq_true] at c
   simp only [Option.some.injEq] at h; subst h
   have:=argOk_back c.2
   simp [Lt.showEnd]
   exact this
  ·cases h
 split at h
 ·split at h
  ·simp only [Option.some.injEq] at h; subst h
   simp [Lt.showEnd,Lt.noArg]
  ·cases h
 ·cases h
theorem inv_end {r:Lt.Read} {l:List (List UInt8)} (h:Lt.Inv r) (hi:r.ins=true) (hz:(Lt.sEnd r l).1=0):Lt.Inv (Lt.sEnd r l).2:=by
 have hin:5<=r.Where/\r.Where<=8:=by simpa [Lt.Read.ins] using hi
 unfold Lt.sEnd at hz ⊢
 cases hs:Lt.sTerm l with
 | none=>rw [hs] at hz; cases hz
 | some t=>
  have ht:=sTerm_back hs
  obtain ⟨p,fs,f,bs,b,e,o⟩:=inv_open5 h (by omega)
  rw [e] at h
  have e2:({ r.block (fun b=>{ b with End:=t }) with Where:=9 }:Lt.Read)=stB p fs f bs { b with End:=t } 9 r.Long:=by
   have:r.block (fun b=>{ b with End:=t })=stB p fs f bs { b with End:=t } r.Where r.Long:=by
    rw [e,block_st]; rfl
   rw [this]; rfl
  show Lt.Inv ({ r.block (fun b=>{ b with End:=t }) with Where:=9 }:Lt.Read)
  rw [e2]
  exact inv_mk5 h (by omega) (by omega) (by omega) ⟨o.hd,o.len,o.long,o.most,o.bl,o.nm,o.ph,o.cd,fun _=>ht,fun h1 h2=>absurd h2 (by omega)⟩
theorem inv_head {r:Lt.Read} {l:List (List UInt8)} (h:Lt.Inv r) (hz:(Lt.sHeadM r l).1.2=0):Lt.Inv (Lt.sHeadM r l).2:=by
 unfold Lt.sHeadM at hz ⊢
 split at hz
 ·rename_i c; rw [if_pos c]; exact inv_class h hz
 rename_i c; rw [if_neg c]
 split at hz
 ·rename_i c; rw [if_pos c]; exact inv_field h hz
 rename_i c; rw [if_neg c]
 split at hz
 ·rename_i c; rw [if_pos c]; exact inv_global h hz
 rename_i c; rw [if_neg c]
 split at hz
 ·rename_i c; rw [if_pos c]; exact inv_extern h hz
 rename_i c; rw [if_neg c]
 split at hz
 ·rename_i c; rw [if_pos c]; exact inv_func h hz
 rename_i c; rw [if_neg c]; exact h
theorem inv_part {r:Lt.Read} {l:List (List UInt8)} (h:Lt.Inv r) (hz:(Lt.sPartM r l).1.2=0):Lt.Inv (Lt.sPartM r l).2:=by
 unfold Lt.sPartM at hz ⊢
 split at hz
 ·rename_i c; rw [if_pos c]; exact inv_param h hz
 rename_i c; rw [if_neg c]
 split at hz
 ·rename_i c; rw [if_pos c]; exact inv_var h hz
 rename_i c; rw [if_neg c]
 split at hz
 ·rename_i c; rw [if_pos c]; exact inv_block h hz
 rename_i c; rw [if_neg c]
 split at hz
 ·rename_i c; rw [if_pos c]; exact inv_phi h hz
 rename_i c; rw [if_neg c]; exact h
theorem inv_state {r:Lt.Read} {l:List (List UInt8)} (h:Lt.Inv r) (hz:(Lt.sStateM r l).1.2=0):Lt.Inv (Lt.sStateM r l).2:=by
 unfold Lt.sStateM at hz ⊢
 split at hz
 ·rename_i c; rw [if_pos c]
  split at hz
  ·cases hz
  rename_i ci; rw [if_neg ci]
  have hi:r.ins=true:=by simpa using ci
  split at hz
  ·rename_i c; rw [if_pos c]; exact inv_at h hz
  rename_i c; rw [if_neg c]
  split at hz
  ·rename_i c; rw [if_pos c]; exact inv_obj h hi hz
  rename_i c; rw [if_neg c]; exact inv_end h hi hz
 rename_i c; rw [if_neg c]; exact h
theorem inv_line {r:Lt.Read} {l:List (List UInt8)} {b:Bool} (h:Lt.Inv r) (hz:(Lt.sLineM r l b).1=0):Lt.Inv (Lt.sLineM r l b).2:=by
 unfold Lt.sLineM at hz ⊢
 split at hz
 ·rename_i c; rw [if_pos c]; exact inv_code h hz
 rename_i c; rw [if_neg c]
 split at hz
 ·rename_i c; rw [if_pos c]
  split at hz
  ·cases hz
  rename_i c; rw [if_neg c]; exact h
 rename_i c; rw [if_neg c]
 split at hz
 ·rename_i c; rw [if_pos c]; exact inv_head h hz
 rename_i c; rw [if_neg c]
 split at hz
 ·rename_i c; rw [if_pos c]; exact inv_part h hz
 rename_i c; rw [if_neg c]
 split at hz
 ·rename_i c; rw [if_pos c]; exact inv_state h hz
 rename_i c; rw [if_neg c]; exact inv_code h hz
theorem inv_0:Lt.Inv ⟨⟨false,[],[],[],[]⟩,0,0⟩:=⟨⟨by decide,by decide⟩,⟨by decide,by decide,by decide⟩,⟨rfl,rfl,rfl⟩,fun h=>absurd h (by decide),fun _=>rfl,fun h=>absurd h (by decide)⟩
end Go.Am
end

section
namespace Go.Am
open Go
set_option linter.unusedVariables false
set_option linter.unusedSimpArgs false
def hd (p:Lt.Program):Nat:=p.Classes.length+p.Globals.length+p.Externs.length
def Rel (w:Int) (r:Lt.Reader) (x:Lt.Read):Prop:=
 (r.heads<hd x.P/\((w=1/\x.Where=1)\/(w=0/\x.Where=2))) \/
 (¬ r.heads<hd x.P/\(0<=x.Long/\x.Long<=1024)/\((2<=w/\w<=7/\x.Where=w+1)\/(w=0/\x.Where=9))) \/
 (¬ r.heads<hd x.P/\w=r.where_/\x.Where=r.abs.Where/\x.Long=r.long)
theorem long_0 {r:Lt.Reader} (h:r.inv) (hw:3<=r.abs.Where):0<=r.long:=by
 obtain ⟨_,_,_,h4⟩:=h
 refine h4.2 ⟨fun e=>?_,by omega⟩
 unfold Lt.Reader.abs at hw
 rw [e] at hw
 simp at hw
section
variable {r:Lt.Reader} {l:List (List UInt8)}
theorem rel_class (hz:(Lt.sClass r.abs l).1=0):Rel 1 r (Lt.sClass r.abs l).2:=by
 unfold Lt.sClass at hz ⊢
 split at hz
 ·simp at hz
 ·rename_i h1
  rw [if_neg h1]
  split at hz
  ·simp at hz
  ·rename_i h2
   rw [if_neg h2]
   refine .inl ⟨?_,.inl ⟨rfl,rfl⟩⟩
   simp only [hd,Lt.Reader.heads,abs_P,List.length_append,List.length_singleton]; omega
theorem rel_field (hz:(Lt.sField r.abs l).1=0):Rel r.where_ r (Lt.sField r.abs l).2:=by
 unfold Lt.sField at hz ⊢
 split at hz
 ·simp at hz
 ·rename_i h1
  rw [if_neg h1]
  split at hz
  ·simp at hz
  ·rename_i h2
   rw [if_neg h2]
   refine .inr (.inr ⟨?_,rfl,rfl,rfl⟩)
   simp only [hd,Lt.Reader.heads,abs_P,Lt.last,List.length_set]; omega
theorem rel_global (hz:(Lt.sGlobal r.abs l).1=0):Rel 0 r (Lt.sGlobal r.abs l).2:=by
 unfold Lt.sGlobal at hz ⊢
 split at hz
 ·simp at hz
 ·rename_i h1
  rw [if_neg h1]
  refine .inl ⟨?_,.inr ⟨rfl,rfl⟩⟩
  simp only [hd,Lt.Reader.heads,abs_P,List.length_append,List.length_singleton]; omega
theorem rel_extern (hz:(Lt.sExtern r.abs l).1=0):Rel 0 r (Lt.sExtern r.abs l).2:=by
 unfold Lt.sExtern at hz ⊢
 split at hz
 ·simp at hz
 ·rename_i h1
  rw [if_neg h1]
  refine .inl ⟨?_,.inr ⟨rfl,rfl⟩⟩
  simp only [hd,Lt.Reader.heads,abs_P,List.length_append,List.length_singleton]; omega
theorem rel_func (hz:(Lt.sFunc r.abs l).1=0):Rel 2 r (Lt.sFunc r.abs l).2:=by
 unfold Lt.sFunc at hz ⊢
 split at hz
 ·simp at hz
 ·rename_i h1
  rw [if_neg h1]
  exact .inr (.inl ⟨Nat.lt_irrefl _,⟨Int.le_refl _,show (0:Int)<=1024 by decide⟩,.inl ⟨by decide,by decide,rfl⟩⟩)
variable (h:r.inv)
theorem rel_param (hz:(Lt.sParam r.abs l).1=0):Rel r.where_ r (Lt.sParam r.abs l).2:=by
 unfold Lt.sParam at hz ⊢
 split at hz
 ·simp at hz
 ·rename_i h1
  rw [if_neg h1]
  exact .inr (.inr ⟨Nat.lt_irrefl _,rfl,rfl,rfl⟩)
include h
theorem rel_var (hz:(Lt.sVar r.abs l).1=0):Rel 3 r (Lt.sVar r.abs l).2:=by
 unfold Lt.sVar at hz ⊢
 split at hz
 ·simp at hz
 ·rename_i h1
  rw [if_neg h1]
  have hw:3<=r.abs.Where:=by simp at h1; omega
  exact .inr (.inl ⟨Nat.lt_irrefl _,⟨long_0 h hw,h.2.2.1.2⟩,.inl ⟨by decide,by decide,rfl⟩⟩)
theorem rel_block (hz:(Lt.sBlock r.abs l).1=0):Rel 4 r (Lt.sBlock r.abs l).2:=by
 unfold Lt.sBlock at hz ⊢
 split at hz
 ·simp at hz
 ·rename_i h1
  rw [if_neg h1]
  have hw:3<=r.abs.Where:=by simp at h1; omega
  exact .inr (.inl ⟨Nat.lt_irrefl _,⟨long_0 h hw,h.2.2.1.2⟩,.inl ⟨by decide,by decide,rfl⟩⟩)
theorem rel_phi (hz:(Lt.sPhi r.abs l).1=0):Rel 4 r (Lt.sPhi r.abs l).2:=by
 unfold Lt.sPhi at hz ⊢
 split at hz
 ·simp at hz
 ·rename_i h1
  rw [if_neg h1]
  split at hz
  ·simp at hz
  ·rename_i h2
   rw [if_neg h2]
   have hw:r.abs.Where=5:=by
    simp only [Bool.not_eq_false,Bool.and_eq_true,decide_eq_true_eq] at h1
    exact h1.1.1.1
   have h0:=long_0 h (by omega)
   have hl:¬ 1024<=r.long:=fun e=>h2 (.inr e)
   exact .inr (.inl ⟨Nat.lt_irrefl _,⟨by show 0<=r.long+1; omega,by show r.long+1<=1024; omega⟩,.inl ⟨by decide,by decide,hw⟩⟩)
theorem rel_code (hz:(Lt.sCodeM r.abs l).1=0):Rel ((Lt.sCodeM r.abs l).2.Where - 1) r (Lt.sCodeM r.abs l).2:=by
 unfold Lt.sCodeM at hz ⊢
 split at hz
 ·simp at hz
 ·rename_i h1
  rw [if_neg h1]
  split at hz
  ·simp at hz
  ·rename_i h2
   rw [if_neg h2]
   split at hz
   ·simp at hz
   ·rename_i x hx
    simp only [hx]
    split at hz
    ·simp at hz
    ·rename_i hl
     rw [if_neg hl]
     have hw:3<=r.abs.Where:=by
      have:r.abs.ins=true:=by simpa using h2
      unfold Lt.Read.ins at this
      simp at this; omega
     have h0:=long_0 h hw
     have hl:¬ 1024<=r.long:=hl
     refine .inr (.inl ⟨Nat.lt_irrefl _,⟨by show 0<=r.long+1; omega,by show r.long+1<=1024; omega⟩,.inl ?_⟩)
     dsimp only
     split <;> decide
theorem rel_at (hz:(Lt.sAt r.abs l).1=0):Rel 6 r (Lt.sAt r.abs l).2:=by
 unfold Lt.sAt at hz ⊢
 split at hz
 ·simp at hz
 ·rename_i h1
  rw [if_neg h1]
  split at hz
  ·simp at hz
  ·rename_i h2
   rw [if_neg h2]
   have hw:r.abs.Where=7:=by
    simp only [Bool.not_eq_false,Bool.and_eq_true,decide_eq_true_eq] at h1
    exact h1.1.1.1.1
   exact .inr (.inl ⟨Nat.lt_irrefl _,⟨long_0 h (by omega),h.2.2.1.2⟩,.inl ⟨by decide,by decide,hw⟩⟩)
theorem rel_obj (hz:(Lt.sObj r.abs l).1=0):Rel 7 r (Lt.sObj r.abs l).2:=by
 unfold Lt.sObj at hz ⊢
 split at hz
 ·simp at hz
 ·rename_i h1
  rw [if_neg h1]
  have hw:7<=r.abs.Where:=by
   simp only [Bool.not_eq_false,Bool.and_eq_true,decide_eq_true_eq] at h1
   exact h1.1.1.1.1
  exact .inr (.inl ⟨Nat.lt_irrefl _,⟨long_0 h (by omega),h.2.2.1.2⟩,.inl ⟨by decide,by decide,rfl⟩⟩)
theorem rel_end (hin:r.abs.ins=true) (hz:(Lt.sEnd r.abs l).1=0):Rel 0 r (Lt.sEnd r.abs l).2:=by
 have hw:3<=r.abs.Where:=by
  unfold Lt.Read.ins at hin
  simp at hin; omega
 unfold Lt.sEnd at hz ⊢
 split at hz
 ·exact .inr (.inl ⟨Nat.lt_irrefl _,⟨long_0 h hw,h.2.2.1.2⟩,.inr ⟨rfl,rfl⟩⟩)
 ·simp at hz
end
theorem res_congr {r:Lt.Reader} {x y:Int×Lt.Read} {w:Int} (h1:x.1=y.1) (h2:x.1=0->x.2=y.2):Lt.yRes r x w=Lt.yRes r y w:=by
 unfold Lt.yRes
 rw [<- h1]
 split
 ·rename_i h; rw [h2 h]
 ·rfl
theorem yTerm_eq {l:List (List UInt8)} (h:Lt.w0 l=Lt.kJump\/Lt.w0 l=Lt.kBranch\/Lt.w0 l=Lt.kRet\/Lt.w0 l=Lt.kTrap):Lt.yTerm l=Lt.sTerm l:=by
 unfold Lt.yTerm
 by_cases h3:Lt.w0 l=Lt.kJump\/Lt.w0 l=Lt.kBranch\/Lt.w0 l=Lt.kRet
 ·rw [if_pos h3]
 ·have e:Lt.w0 l=Lt.kTrap:=by
   rcases h with h | h | h | h
   ·exact absurd (.inl h) h3
   ·exact absurd (.inr (.inl h)) h3
   ·exact absurd (.inr (.inr h)) h3
   ·exact h
  rw [if_neg h3]
  unfold Lt.sTerm
  rw [if_neg (fun e=>h3 (.inl e)),if_neg (fun e=>h3 (.inr (.inl e))),if_neg (fun e=>h3 (.inr (.inr e))),if_pos e]
theorem body_eq (r:Lt.Reader) (l:List (List UInt8)) (h:r.inv):∃ w,Lt.yBody r l=Lt.yRes r (Lt.sLineM r.abs l r.first) w/\((Lt.sLineM r.abs l r.first).1=0->Rel w r (Lt.sLineM r.abs l r.first).2):=by
 have ff:∀ x:Lt.Read,¬ (((false,(0:Int)),x).1.1=true):=fun x=>by simp
 unfold Lt.yBody
 by_cases hs:Lt.sEq l=true
 ·have e:Lt.sLineM r.abs l r.first=Lt.sCodeM r.abs l:=by unfold Lt.sLineM; rw [if_pos hs]
  rw [e,if_pos hs]; exact ⟨_,rfl,rel_code h⟩
 rw [if_neg hs]
 by_cases n0:Lt.w0 l=Lt.kSsa
 ·have e:Lt.sLineM r.abs l r.first=if (r.first&&decide (l.length=1))=false then (3,r.abs) else (0,{ r.abs with P:={ r.p with SSA:=true } }):=by unfold Lt.sLineM; rw [if_neg hs,if_pos n0]; rfl
  rw [e,if_pos n0]
  refine ⟨_,rfl,fun hz=>?_⟩
  split at hz
  ·simp at hz
  ·rename_i hc
   rw [if_neg hc]
   exact .inr (.inr ⟨Nat.lt_irrefl _,rfl,rfl,rfl⟩)
 rw [if_neg n0]
 have e0:Lt.sLineM r.abs l r.first=if (Lt.sHeadM r.abs l).1.1 then ((Lt.sHeadM r.abs l).1.2,(Lt.sHeadM r.abs l).2) else if (Lt.sPartM r.abs l).1.1 then ((Lt.sPartM r.abs l).1.2,(Lt.sPartM r.abs l).2) else if (Lt.sStateM r.abs l).1.1 then ((Lt.sStateM r.abs l).1.2,(Lt.sStateM r.abs l).2) else Lt.sCodeM r.abs l:=by
  unfold Lt.sLineM; rw [if_neg hs,if_neg n0]
 rw [e0]
 unfold Lt.sHeadM
 by_cases n1:Lt.w0 l=Lt.kClass
 ·rw [if_pos n1,if_pos n1]; exact ⟨_,rfl,rel_class⟩
 rw [if_neg n1,if_neg n1]
 by_cases n2:Lt.w0 l=Lt.kField
 ·rw [if_pos n2,if_pos n2]; exact ⟨_,rfl,rel_field⟩
 rw [if_neg n2,if_neg n2]
 by_cases n3:Lt.w0 l=Lt.kGlobal
 ·rw [if_pos n3,if_pos n3]; exact ⟨_,rfl,rel_global⟩
 rw [if_neg n3,if_neg n3]
 by_cases n4:Lt.w0 l=Lt.kExtern
 ·rw [if_pos n4,if_pos n4]; exact ⟨_,rfl,rel_extern⟩
 rw [if_neg n4,if_neg n4]
 by_cases n5:Lt.w0 l=Lt.kFunc
 ·rw [if_pos n5,if_pos n5]; exact ⟨_,rfl,rel_func⟩
 rw [if_neg n5,if_neg n5,if_neg (ff _)]
 unfold Lt.sPartM
 by_cases n6:Lt.w0 l=Lt.kParam
 ·rw [if_pos n6,if_pos n6]; exact ⟨_,rfl,rel_param⟩
 rw [if_neg n6,if_neg n6]
 by_cases n7:Lt.w0 l=Lt.kVar
 ·rw [if_pos n7,if_pos n7]; exact ⟨_,rfl,rel_var h⟩
 rw [if_neg n7,if_neg n7]
 by_cases n8:Lt.w0 l=Lt.kBlock
 ·rw [if_pos n8,if_pos n8]; exact ⟨_,rfl,rel_block h⟩
 rw [if_neg n8,if_neg n8]
 by_cases n9:Lt.w0 l=Lt.kPhi
 ·rw [if_pos n9,if_pos n9]; exact ⟨_,rfl,rel_phi h⟩
 rw [if_neg n9,if_neg n9,if_neg (ff _)]
 have eS:(Lt.w0 l=Lt.kAt\/Lt.w0 l=Lt.kObj\/Lt.w0 l=Lt.kJump\/Lt.w0 l=Lt.kBranch\/Lt.w0 l=Lt.kRet\/Lt.w0 l=Lt.kTrap)->Lt.sStateM r.abs l=if r.abs.ins=false then ((true,3),r.abs) else if Lt.w0 l=Lt.kAt then ((true,(Lt.sAt r.abs l).1),(Lt.sAt r.abs l).2) else if Lt.w0 l=Lt.kObj then ((true,(Lt.sObj r.abs l).1),(Lt.sObj r.abs l).2) else ((true,(Lt.sEnd r.abs l).1),(Lt.sEnd r.abs l).2):=fun hh=>by
  unfold Lt.sStateM; rw [if_pos hh]
 by_cases n10:Lt.w0 l=Lt.kAt
 ·rw [if_pos n10,eS (.inl n10)]
  by_cases hin:r.abs.ins=false
  ·rw [if_pos hin]
   refine ⟨6,?_,fun hz=>by simp at hz⟩
   have:(Lt.sAt r.abs l).1=3:=by
    have:decide (r.abs.Where=7)=false:=by
     unfold Lt.Read.ins at hin
     simp at hin; simp; omega
    unfold Lt.sAt
    rw [this]; rfl
   exact res_congr this (fun hz=>by rw [this] at hz; simp at hz)
  ·rw [if_neg hin,if_pos n10]; exact ⟨_,rfl,rel_at h⟩
 rw [if_neg n10]
 by_cases n11:Lt.w0 l=Lt.kObj
 ·rw [if_pos n11,eS (.inr (.inl n11))]
  by_cases hin:r.abs.ins=false
  ·unfold Lt.yObject
   rw [if_pos hin,if_pos hin]
   exact ⟨7,rfl,fun hz=>by simp at hz⟩
  ·unfold Lt.yObject
   rw [if_neg hin,if_neg hin,if_neg n10,if_pos n11]; exact ⟨_,rfl,rel_obj h⟩
 rw [if_neg n11]
 by_cases n12:Lt.w0 l=Lt.kJump\/Lt.w0 l=Lt.kBranch\/Lt.w0 l=Lt.kRet\/Lt.w0 l=Lt.kTrap
 ·rw [if_pos n12,eS (.inr (.inr n12))]
  by_cases hin:r.abs.ins=false
  ·unfold Lt.yEnd
   rw [if_pos hin,if_pos hin]
   exact ⟨0,rfl,fun hz=>by simp at hz⟩
  ·unfold Lt.yEnd
   rw [if_neg hin,if_neg hin,if_neg n10,if_neg n11,yTerm_eq n12]
   refine ⟨0,res_congr ?_ ?_,rel_end h (by simpa using hin)⟩
   ·unfold Lt.sEnd; cases Lt.sTerm l <;> rfl
   ·unfold Lt.sEnd; cases Lt.sTerm l
    ·intro hz; simp at hz
    ·intro _; rfl
 have eN:Lt.sStateM r.abs l=((false,0),r.abs):=by
  unfold Lt.sStateM; rw [if_neg (fun hh=>hh.elim n10 (fun hh=>hh.elim n11 n12))]
 rw [if_neg n12,eN,if_neg (ff _)]
 exact ⟨_,rfl,rel_code h⟩
def Sim (a b:Lt.Read):Prop:=a.P=b.P/\(a=b\/(a.Where<=2/\b.Where<=2/\(a.Where=1 ↔ b.Where=1)))
theorem Inv_low {P:Lt.Program} {w n m:Int} (h:Lt.Inv ⟨P,w,n⟩) (hw:w<=2):Lt.Inv ⟨P,w,m⟩:=
 ⟨h.1,h.2.1,h.2.2.1,h.2.2.2.1,h.2.2.2.2.1,fun h3=>absurd h3 (by show ¬ 3<=w; omega)⟩
def lineR (r:Lt.Reader) (w:Int) (x:Lt.Read):Lt.Reader:=⟨x.P,r.at_,w,false,if r.heads<hd x.P then -1 else x.Long⟩
theorem lineR_inv {r:Lt.Reader} {w:Int} {x:Lt.Read} (h:r.inv) (hx:Lt.Inv x) (hr:Rel w r x):(lineR r w x).inv/\Sim (lineR r w x).abs x:=by
 obtain ⟨P,W,n⟩:=x
 obtain ⟨hi,hw,hl,hlw⟩:=h
 rcases hr with ⟨h1,⟨rfl,h2⟩ | ⟨rfl,h2⟩⟩ | ⟨h1,h2,⟨h3,h4,h5⟩ | ⟨rfl,h3⟩⟩ | ⟨h1,rfl,h3,h4⟩
 ·have h2:W=1:=h2
  subst h2
  have e:(lineR r 1 ⟨P,1,n⟩)=⟨P,r.at_,1,false,-1⟩:=by unfold lineR; rw [if_pos h1]
  rw [e]
  exact ⟨⟨show Lt.Inv ⟨P,1,-1⟩ from Inv_low hx (by decide),show (0:Int)<=1/\(1:Int)<=7 by decide,show (-1:Int) <= -1/\(-1:Int)<=1024 by decide,by simp⟩,rfl,.inr ⟨by simp [Lt.Reader.abs],by simp,by simp [Lt.Reader.abs]⟩⟩
 ·have h2:W=2:=h2
  subst h2
  have e:(lineR r 0 ⟨P,2,n⟩)=⟨P,r.at_,0,false,-1⟩:=by unfold lineR; rw [if_pos h1]
  rw [e]
  exact ⟨⟨show Lt.Inv ⟨P,2,-1⟩ from Inv_low hx (by decide),show (0:Int)<=0/\(0:Int)<=7 by decide,show (-1:Int) <= -1/\(-1:Int)<=1024 by decide,by simp [Lt.Reader.abs]⟩,rfl,.inr ⟨by simp [Lt.Reader.abs],by simp,by simp [Lt.Reader.abs]⟩⟩
 ·have h5:W=w+1:=h5
  have h2:0<=n/\n<=1024:=h2
  have e:(lineR r w ⟨P,W,n⟩)=⟨P,r.at_,w,false,n⟩:=by unfold lineR; rw [if_neg h1]
  have ea:(⟨P,r.at_,w,false,n⟩:Lt.Reader).abs=⟨P,W,n⟩:=by
   unfold Lt.Reader.abs; dsimp only; rw [if_neg (by omega),if_neg (by omega),h5]
  rw [e]
  refine ⟨⟨by rw [ea]; exact hx,⟨by show 0<=w; omega,h4⟩,⟨by show -1<=n; omega,h2.2⟩,?_⟩,by rw [ea]; exact ⟨rfl,.inl rfl⟩⟩
  rw [ea]
  show 0<=n ↔ w≠1/\W≠2
  omega
 ·have h3:W=9:=h3
  have h2:0<=n/\n<=1024:=h2
  have e:(lineR r 0 ⟨P,W,n⟩)=⟨P,r.at_,0,false,n⟩:=by unfold lineR; rw [if_neg h1]
  have ea:(⟨P,r.at_,0,false,n⟩:Lt.Reader).abs=⟨P,W,n⟩:=by
   unfold Lt.Reader.abs; dsimp only; rw [if_pos rfl,if_pos h2.1,h3]
  rw [e]
  refine ⟨⟨by rw [ea]; exact hx,show (0:Int)<=0/\(0:Int)<=7 by decide,⟨by show -1<=n; omega,h2.2⟩,?_⟩,by rw [ea]; exact ⟨rfl,.inl rfl⟩⟩
  rw [ea]
  show 0<=n ↔ (0:Int)≠1/\W≠2
  omega
 ·have h4:n=r.long:=h4
  have h3:W=r.abs.Where:=h3
  have e:(lineR r r.where_ ⟨P,W,n⟩)=⟨P,r.at_,r.where_,false,n⟩:=by unfold lineR; rw [if_neg h1]
  have ea:(⟨P,r.at_,r.where_,false,n⟩:Lt.Reader).abs=⟨P,W,n⟩:=by rw [h3,h4]; rfl
  rw [e]
  refine ⟨⟨by rw [ea]; exact hx,hw,by rw [h4]; exact hl,?_⟩,by rw [ea]; exact ⟨rfl,.inl rfl⟩⟩
  rw [ea,h3,h4]; exact hlw
theorem line_eq (r:Lt.Reader) (l:List (List UInt8)) (h:r.inv):∃ w,Lt.yLine r l=(if (Lt.sLineM r.abs l r.first).1=0 then (.ok (),lineR r w (Lt.sLineM r.abs l r.first).2) else (.error (Lt.flt (Lt.sLineM r.abs l r.first).1),r)) /\
  ((Lt.sLineM r.abs l r.first).1=0->(lineR r w (Lt.sLineM r.abs l r.first).2).inv/\Sim (lineR r w (Lt.sLineM r.abs l r.first).2).abs (Lt.sLineM r.abs l r.first).2):=by
 obtain ⟨w,h1,h2⟩:=body_eq r l h
 refine ⟨w,?_,fun hz=>lineR_inv h (inv_line h.1 hz) (h2 hz)⟩
 unfold Lt.yLine
 rw [h1]
 unfold Lt.yRes
 by_cases hz:(Lt.sLineM r.abs l r.first).1=0
 ·rw [if_pos hz,if_pos hz]; rfl
 ·rw [if_neg hz,if_neg hz]
end Go.Am
end

section
namespace Go.Am
open Go
set_option linter.unusedVariables false
set_option linter.unusedSimpArgs false
theorem cut_ok:∀ (s:List UInt8) (k:Lt.Cut) (B:Nat),(∀ x∈k.out,x.Words≠[]/\x.Words.length<=B)->k.l.length+s.length+1<=B->∀ x∈(Lt.sSplitG s k).1,x.Words≠[]/\x.Words.length<=B
 | s,k,B=>by
  have hw:∀ k:Lt.Cut,k.word.l.length<=k.l.length+1/\k.word.out=k.out:=by
   intro k
   refine ⟨?_,rfl⟩
   unfold Lt.Cut.word
   dsimp only
   split
   ·omega
   ·simp
  have hline:∀ k:Lt.Cut,(∀ x∈k.out,x.Words≠[]/\x.Words.length<=B)->k.l.length+1<=B->∀ x∈k.line.out,x.Words≠[]/\x.Words.length<=B:=by
   intro k h hl x hx
   unfold Lt.Cut.line at hx
   dsimp only at hx
   split at hx
   ·exact h x hx
   ·rename_i hne
    rcases List.mem_append.1 hx with hx | hx
    ·exact h x hx
    ·rw [List.mem_singleton.1 hx]
     exact ⟨hne,by have:=(hw k).1; show k.word.l.length<=B; omega⟩
  have hbyte:∀ (k:Lt.Cut) (c:UInt8),(k.byte c).l.length<=k.l.length+1/\(k.byte c).out=k.out:=by
   intro k c
   unfold Lt.Cut.byte
   split
   ·exact hw k
   ·split
    ·exact hw k
    ·exact ⟨by show k.l.length<=_; omega,rfl⟩
  induction s generalizing k with
  | nil=>
   intro h hl x hx
   rw [Lt.sSplitG] at hx
   split at hx
   ·cases hx
   ·exact hline k h (by simp at hl; omega) x hx
  | cons c r ih=>
   intro h hl x hx
   have hl':k.l.length+(r.length+1)+1<=B:=hl
   rw [Lt.sSplitG] at hx
   split at hx
   ·split at hx
    ·cases hx
    ·exact ih k.line (hline k h (by omega)) (by show 0+r.length+1<=B; omega) x hx
   ·have hb:=hbyte k c
    exact ih (k.byte c) (by rw [hb.2]; exact h) (by omega) x hx
theorem split_ok (s:List UInt8):∀ x∈(Lt.sSplit s).1,x.Words≠[]/\x.Words.length<=1099511627776:=by
 intro x hx
 unfold Lt.sSplit at hx
 split at hx
 ·cases hx
 ·rename_i hc
  exact cut_ok s _ _ (by simp) (by simp; omega) x hx
theorem law_sParse (s:List UInt8) (KK:Lt.Program×Int×Int->Prop) (h:KK (Lt.sParse s)):F_sParse s KK:=by
 unfold F_sParse; dsimp only
 unfold Lt.sParse at h
 have hok:=split_ok s
 generalize Lt.sSplit s=S at h hok ⊢
 obtain ⟨L,at_,why⟩:=S
 dsimp only at h hok ⊢
 refine ifk (fun hc=>?_) (fun hc=>?_)
 ·rw [if_neg (by simpa using hc)] at h; exact h
 rw [if_pos (by simpa using hc)] at h
 refine loop_len (fun hl=>?_)
 refine nat_loop _ L.length (fun i x=>∃ r,x=((i:Int),r)/\Lt.Inv r/\KK (Lt.sParseG (L.drop i) (decide ((i:Int)=0)) r)) (fun R i x hi hx hR=>?_) (fun R x hx=>?_) _ ⟨_,rfl,inv_0,h⟩
 ·obtain ⟨r,rfl,hI,hk⟩:=hx
  simp only [lt_t hi,if_true,Int.toNat_natCast]
  obtain ⟨o1,o2⟩:=hok _ (mem_getD L hi)
  refine ⟨⟨Int.natCast_nonneg i,hi⟩,⟨hI,o1,o2⟩,?_⟩
  rw [List.drop_eq_getElem_cons hi] at hk
  have e:L.getD i default=L[i]:=by rw [List.getD,List.getElem?_eq_getElem hi]; rfl
  rw [<- e,Lt.sParseG] at hk
  refine ifk (fun hc=>?_) (fun hc=>hR _ ⟨_,by rw [wrap_succ (by omega)],?_,?_⟩)
  ·rw [if_neg (by simpa using hc)] at hk
   exact ⟨⟨Int.natCast_nonneg i,hi⟩,hk⟩
  ·exact inv_line hI (by simpa using hc)
  ·rw [if_pos (by simpa using hc)] at hk
   have e0:decide (((i+1:Nat):Int)=0)=false:=by simp; omega
   rw [e0]; exact hk
 ·obtain ⟨r,rfl,hI,hk⟩:=hx
  simp only [lt_f,Bool.false_eq_true,if_false]
  rw [List.drop_length,Lt.sParseG] at hk
  simp only [jn_ite,jn_app]
  have eo:r.out=(decide (r.Where<=2)||decide (r.Where=9)):=rfl
  rw [eo] at hk
  cases h1:decide (r.Where<=2) with
  | true=>rw [h1] at hk; simpa using hk
  | false=>
   rw [h1] at hk
   cases h2:decide (r.Where=9) with
   | true=>rw [h2] at hk; simpa using hk
   | false=>rw [h2] at hk; simpa using hk
end Go.Am
end

section
namespace Go.Am
open Go
set_option linter.unusedVariables false
set_option linter.unusedSimpArgs false
theorem heads_wrap {p:Lt.Program} (h1:p.Classes.length<=8) (h2:p.Globals.length<=8) (h3:p.Externs.length<=8) :
  (IntKind.i64.wrap ((IntKind.i64.wrap ((p.Classes.length:Int)+(p.Globals.length:Int)))+(p.Externs.length:Int)))=((hd p:Nat):Int):=by
 rw [wrap_i64 (n:=(p.Classes.length:Int)+_) (by omega) (by omega),wrap_i64 (by omega) (by omega)]
 unfold hd; omega
def yFin (r:Lt.Reader) (X:Except Value Unit×Lt.Reader):Except Value Unit×Lt.Reader:=match X with
 | (.ok _,x)=>(.ok (),{ x with first:=false,long:=if r.heads<x.heads then -1 else x.long })
 | (.error v,x)=>(.error v,x)
theorem yGo_ok {r:Lt.Reader} {l:List (List UInt8)} (hp:Lt.preReader r l) {KK:Unit×Lt.Reader->Prop} {KP:Value->Lt.Reader->Prop} {X:Except Value Unit×Lt.Reader}
  (hX:X=Lt.yBody r l) (h:exP (Lt.yLine r l) (fun z x=>KK (z,x)) KP):yGo r l KK KP X:=by
 obtain ⟨hinv,hne,hr⟩:=id hp
 have hi:=hinv.1
 have b1:r.p.Classes.length<=8:=hi.2.1.1
 have b2:r.p.Globals.length<=8:=typed_le (k:=8) hi.2.2.1.1
 have b3:r.p.Externs.length<=8:=hi.2.1.2.1
 obtain ⟨w,h1,h2⟩:=body_eq r l hinv
 unfold yGo
 rw [hX]
 refine fun _ _ _=>⟨hp,?_⟩
 have e:Lt.yLine r l=yFin r (Lt.yBody r l):=rfl
 rw [e] at h
 by_cases hz:(Lt.sLineM r.abs l r.first).1=0
 ·have hx:=inv_line hi hz
  have e1:Lt.yBody r l=(.ok (),⟨(Lt.sLineM r.abs l r.first).2.P,r.at_,w,r.first,(Lt.sLineM r.abs l r.first).2.Long⟩):=by
   rw [h1]; unfold Lt.yRes; rw [if_pos hz]
  rw [e1] at h ⊢
  generalize (Lt.sLineM r.abs l r.first).2=x at hx h ⊢
  have c1:x.P.Classes.length<=8:=hx.2.1.1
  have c2:x.P.Globals.length<=8:=typed_le (k:=8) hx.2.2.1.1
  have c3:x.P.Externs.length<=8:=hx.2.1.2.1
  show joinP _ _
  simp only [jn_imp,jn_ite,jn_app]
  refine fun _ _ _=>?_
  rw [heads_wrap b1 b2 b3,heads_wrap c1 c2 c3]
  refine ifk (fun c=>?_) (fun c=>?_)
  ·have c:r.heads<hd x.P:=by simp at c; exact c
   have h:KK ((),⟨x.P,r.at_,w,false,if r.heads<hd x.P then -1 else x.Long⟩):=h
   rw [if_pos c] at h; exact h
  ·have c:¬ r.heads<hd x.P:=fun e=>c (by simpa using (show hd r.p<hd x.P from e))
   have h:KK ((),⟨x.P,r.at_,w,false,if r.heads<hd x.P then -1 else x.Long⟩):=h
   rw [if_neg c] at h; exact h
 ·have e1:Lt.yBody r l=(.error (Lt.flt (Lt.sLineM r.abs l r.first).1),r):=by
   rw [h1]; unfold Lt.yRes; rw [if_neg hz]
  rw [e1] at h ⊢
  exact h
theorem yWay_ok {r:Lt.Reader} {l:List (List UInt8)} (hp:Lt.preReader r l) {KK:Unit×Lt.Reader->Prop} {KP:Value->Lt.Reader->Prop} {X:Except Value Unit×Lt.Reader}
  (hX:(if Lt.sEq l then Lt.yCode r l else X)=Lt.yBody r l) (h:exP (Lt.yLine r l) (fun z x=>KK (z,x)) KP):yWay r l KK KP X:=by
 have es:((decide (2 < (l.length:Int)))&&(decide ((l.getD 1 default)=[61])))=Lt.sEq l:=by
  unfold Lt.sEq; rw [show decide (2 < (l.length:Int))=decide (2<l.length) from decide_eq_decide.2 (by omega)]
 refine fun J3 hJ3=>?_
 have hE:=hJ3 (Lt.sEq l) ?_
 ·refine fun _=>ifk (fun hc=>⟨⟨by decide,by simp at hc; omega⟩,?_⟩) (fun hc=>?_)
  ·rw [<- es,hc,Bool.true_and] at hE; exact hE
  ·rw [<- es,Bool.eq_false_iff.2 hc,Bool.false_and] at hE; exact hE
 refine ifk (fun hs=>?_) (fun hs=>?_)
 ·rw [if_pos hs] at hX; exact yGo_ok hp hX h
 ·rw [if_neg hs] at hX; exact yGo_ok hp hX h
theorem law_yLine (r:Lt.Reader) (l:List (List UInt8)) (hp:Lt.preReader r l) (KK:Unit×Lt.Reader->Prop) (KP:Value->Lt.Reader->Prop) (h:exP (Lt.yLine r l) (fun z x=>KK (z,x)) KP):F_yLine r l KK KP:=by
 unfold F_yLine
 refine ⟨⟨by decide,List.length_pos_iff.2 hp.2.1⟩,?_⟩
 have go:∀ X,(if Lt.sEq l then Lt.yCode r l else X)=Lt.yBody r l->yWay r l KK KP X:=fun X hX=>yWay_ok hp hX h
 clear h
 unfold Lt.yBody at go
 by_cases hs:Lt.sEq l=true
 ·simp only [if_pos hs,forall_const] at go
  simp only [go,ite_self]
 ·simp only [if_neg hs] at go
  simp only [decide_eq_true_eq,show l.getD 0 default=Lt.w0 l from rfl]
  refine ifk (fun c0=>go _ (by rw [if_pos c0])) (fun c0=>?_)
  rw [if_neg c0] at go
  refine ifk (fun c1=>go _ (by rw [if_pos c1])) (fun c1=>?_)
  rw [if_neg c1] at go
  refine ifk (fun c2=>go _ (by rw [if_pos c2])) (fun c2=>?_)
  rw [if_neg c2] at go
  refine ifk (fun c3=>go _ (by rw [if_pos c3])) (fun c3=>?_)
  rw [if_neg c3] at go
  refine ifk (fun c4=>go _ (by rw [if_pos c4])) (fun c4=>?_)
  rw [if_neg c4] at go
  refine ifk (fun c5=>go _ (by rw [if_pos c5])) (fun c5=>?_)
  rw [if_neg c5] at go
  refine ifk (fun c6=>go _ (by rw [if_pos c6])) (fun c6=>?_)
  rw [if_neg c6] at go
  refine ifk (fun c7=>go _ (by rw [if_pos c7])) (fun c7=>?_)
  rw [if_neg c7] at go
  refine ifk (fun c8=>go _ (by rw [if_pos c8])) (fun c8=>?_)
  rw [if_neg c8] at go
  refine ifk (fun c9=>go _ (by rw [if_pos c9])) (fun c9=>?_)
  rw [if_neg c9] at go
  refine ifk (fun c10=>go _ (by rw [if_pos c10])) (fun c10=>?_)
  rw [if_neg c10] at go
  refine ifk (fun c11=>go _ (by rw [if_pos c11])) (fun c11=>?_)
  rw [if_neg c11] at go
  refine ifk (fun c=>go _ (by rw [if_pos (.inl c)])) (fun c12=>?_)
  refine ifk (fun c=>go _ (by rw [if_pos (.inr (.inl c))])) (fun c13=>?_)
  refine ifk (fun c=>go _ (by rw [if_pos (.inr (.inr (.inl c)))])) (fun c14=>?_)
  refine ifk (fun c=>go _ (by rw [if_pos (.inr (.inr (.inr c)))])) (fun c15=>?_)
  exact go _ (by rw [if_neg (fun hh=>hh.elim c12 (fun hh=>hh.elim c13 (fun hh=>hh.elim c14 c15)))])
theorem Sim.out {a b:Lt.Read} (h:Sim a b):a.out=b.out:=by
 rcases h with ⟨_,rfl | ⟨h1,h2,_⟩⟩
 ·rfl
 ·unfold Lt.Read.out; simp [h1,h2]
theorem sim_line {a b:Lt.Read} (h:Sim a b) (l:List (List UInt8)) (first:Bool):(Lt.sLineM a l first).1=(Lt.sLineM b l first).1/\Sim (Lt.sLineM a l first).2 (Lt.sLineM b l first).2:=by
 obtain ⟨hP,rfl | ⟨h1,h2,h3⟩⟩:=h
 ·exact ⟨rfl,rfl,.inl rfl⟩
 obtain ⟨P,w,n⟩:=a
 obtain ⟨P',w',n'⟩:=b
 have hP:P=P':=hP
 subst hP
 have h1:w<=2:=h1
 have h2:w'<=2:=h2
 have h3:w=1 ↔ w'=1:=h3
 have s:∀ p:Lt.Program,Sim ⟨p,w,n⟩ ⟨p,w',n'⟩:=fun p=>⟨rfl,.inr ⟨h1,h2,h3⟩⟩
 have oa:(⟨P,w,n⟩:Lt.Read).out=true:=by unfold Lt.Read.out; simp [h1]
 have ob:(⟨P,w',n'⟩:Lt.Read).out=true:=by unfold Lt.Read.out; simp [h2]
 have ia:(⟨P,w,n⟩:Lt.Read).ins=false:=by unfold Lt.Read.ins; simp; omega
 have ib:(⟨P,w',n'⟩:Lt.Read).ins=false:=by unfold Lt.Read.ins; simp; omega
 have w1:decide (w=1)=decide (w'=1):=decide_eq_decide.2 h3
 have d3:decide (w=3)=false:=by simp; omega
 have d3':decide (w'=3)=false:=by simp; omega
 have d4:decide (w=4)=false:=by simp; omega
 have d4':decide (w'=4)=false:=by simp; omega
 have d5:decide (w=5)=false:=by simp; omega
 have d5':decide (w'=5)=false:=by simp; omega
 have d9:decide (w=9)=false:=by simp; omega
 have d9':decide (w'=9)=false:=by simp; omega
 have hc:(Lt.sCodeM ⟨P,w,n⟩ l).1=(Lt.sCodeM ⟨P,w',n'⟩ l).1/\Sim (Lt.sCodeM ⟨P,w,n⟩ l).2 (Lt.sCodeM ⟨P,w',n'⟩ l).2:=by
  unfold Lt.sCodeM
  rw [if_pos ia,if_pos ib]
  split <;> exact ⟨rfl,s P⟩
 have hh:(Lt.sHeadM ⟨P,w,n⟩ l).1=(Lt.sHeadM ⟨P,w',n'⟩ l).1/\Sim (Lt.sHeadM ⟨P,w,n⟩ l).2 (Lt.sHeadM ⟨P,w',n'⟩ l).2:=by
  unfold Lt.sHeadM
  split
  ·unfold Lt.sClass
   simp only [oa,ob]
   split
   ·exact ⟨rfl,s P⟩
   ·split
    ·exact ⟨rfl,s P⟩
    ·exact ⟨rfl,rfl,.inr ⟨show (1:Int)<=2 by decide,show (1:Int)<=2 by decide,by simp⟩⟩
  split
  ·unfold Lt.sField
   simp only [w1]
   split
   ·exact ⟨rfl,s P⟩
   ·split
    ·exact ⟨rfl,s P⟩
    ·exact ⟨rfl,s _⟩
  split
  ·unfold Lt.sGlobal
   simp only [oa,ob]
   split
   ·exact ⟨rfl,s P⟩
   ·exact ⟨rfl,rfl,.inr ⟨show (2:Int)<=2 by decide,show (2:Int)<=2 by decide,by simp⟩⟩
  split
  ·unfold Lt.sExtern
   simp only [oa,ob]
   split
   ·exact ⟨rfl,s P⟩
   ·exact ⟨rfl,rfl,.inr ⟨show (2:Int)<=2 by decide,show (2:Int)<=2 by decide,by simp⟩⟩
  split
  ·unfold Lt.sFunc
   simp only [oa,ob]
   split
   ·exact ⟨rfl,s P⟩
   ·exact ⟨rfl,rfl,.inl rfl⟩
  ·exact ⟨rfl,s P⟩
 have hp:(Lt.sPartM ⟨P,w,n⟩ l).1=(Lt.sPartM ⟨P,w',n'⟩ l).1/\Sim (Lt.sPartM ⟨P,w,n⟩ l).2 (Lt.sPartM ⟨P,w',n'⟩ l).2:=by
  unfold Lt.sPartM
  split
  ·unfold Lt.sParam
   simp only [d3,d3',Bool.false_and,if_true]
   exact ⟨trivial,s P⟩
  split
  ·unfold Lt.sVar
   simp only [d3,d3',d4,d4',Bool.or_false,Bool.false_and,if_true]
   exact ⟨trivial,s P⟩
  split
  ·unfold Lt.sBlock
   simp only [d3,d3',d4,d4',d9,d9',Bool.or_false,Bool.false_and,if_true]
   exact ⟨trivial,s P⟩
  split
  ·unfold Lt.sPhi
   simp only [d5,d5',Bool.false_and,if_true]
   exact ⟨trivial,s P⟩
  ·exact ⟨rfl,s P⟩
 have ht:(Lt.sStateM ⟨P,w,n⟩ l).1=(Lt.sStateM ⟨P,w',n'⟩ l).1/\Sim (Lt.sStateM ⟨P,w,n⟩ l).2 (Lt.sStateM ⟨P,w',n'⟩ l).2:=by
  unfold Lt.sStateM
  rw [if_pos ia,if_pos ib]
  split <;> exact ⟨rfl,s P⟩
 unfold Lt.sLineM
 split
 ·exact hc
 split
 ·split
  ·exact ⟨rfl,s P⟩
  ·exact ⟨rfl,s _⟩
 rw [hh.1]
 split
 ·exact ⟨rfl,hh.2⟩
 rw [hp.1]
 split
 ·exact ⟨rfl,hp.2⟩
 rw [ht.1]
 split
 ·exact ⟨rfl,ht.2⟩
 ·exact hc
def c3 (n:Int):Prop:=n=0\/n=2\/n=3
theorem c3_0:c3 0:=.inl rfl
theorem c3_2:c3 2:=.inr (.inl rfl)
theorem c3_3:c3 3:=.inr (.inr rfl)
theorem c3_if (c:Prop) [Decidable c]:c3 (if c then 2 else 0):=by
 split
 ·exact c3_2
 ·exact c3_0
theorem c3_code (r:Lt.Read) (l:List (List UInt8)):c3 (Lt.sCodeM r l).1:=by
 unfold Lt.sCodeM
 split
 ·exact c3_3
 split
 ·exact c3_3
 split
 ·exact c3_3
 split
 ·exact c3_2
 ·exact c3_0
theorem c3_head (r:Lt.Read) (l:List (List UInt8)):c3 (Lt.sHeadM r l).1.2:=by
 unfold Lt.sHeadM
 split
 ·unfold Lt.sClass
  split
  ·exact c3_3
  split
  ·exact c3_2
  ·exact c3_0
 split
 ·unfold Lt.sField
  split
  ·exact c3_3
  split
  ·exact c3_2
  ·exact c3_0
 split
 ·unfold Lt.sGlobal
  split
  ·exact c3_3
  ·exact c3_if _
 split
 ·unfold Lt.sExtern
  split
  ·exact c3_3
  ·exact c3_if _
 split
 ·unfold Lt.sFunc
  split
  ·exact c3_3
  ·exact c3_if _
 ·exact c3_0
theorem c3_part (r:Lt.Read) (l:List (List UInt8)):c3 (Lt.sPartM r l).1.2:=by
 unfold Lt.sPartM
 split
 ·unfold Lt.sParam
  split
  ·exact c3_3
  ·exact c3_if _
 split
 ·unfold Lt.sVar
  split
  ·exact c3_3
  ·exact c3_if _
 split
 ·unfold Lt.sBlock
  split
  ·exact c3_3
  ·exact c3_if _
 split
 ·unfold Lt.sPhi
  split
  ·exact c3_3
  split
  ·exact c3_2
  ·exact c3_0
 ·exact c3_0
theorem c3_state (r:Lt.Read) (l:List (List UInt8)):c3 (Lt.sStateM r l).1.2:=by
 unfold Lt.sStateM
 split
 ·split
  ·exact c3_3
  split
  ·unfold Lt.sAt
   split
   ·exact c3_3
   split
   ·exact c3_2
   ·exact c3_0
  split
  ·unfold Lt.sObj
   split
   ·exact c3_3
   ·exact c3_if _
  ·unfold Lt.sEnd
   split
   ·exact c3_0
   ·exact c3_3
 ·exact c3_0
theorem line_code3 (r:Lt.Read) (l:List (List UInt8)) (b:Bool):c3 (Lt.sLineM r l b).1:=by
 unfold Lt.sLineM
 split
 ·exact c3_code r l
 split
 ·split
  ·exact c3_3
  ·exact c3_0
 split
 ·exact c3_head r l
 split
 ·exact c3_part r l
 split
 ·exact c3_state r l
 ·exact c3_code r l
theorem flt_ok (r:Lt.Read) (l:List (List UInt8)) (b:Bool):(Lit.int .i64 (Lt.sLineM r l b).1).wf=true:=by
 rcases line_code3 r l b with e | e | e <;> rw [e] <;> decide
theorem law_yParse (s:List UInt8) (KK:Lt.Program×Int×Int->Prop) (h:KK (Lt.yParse s)):F_yParse s KK:=by
 unfold F_yParse; dsimp only
 unfold Lt.yParse Lt.sParse at h
 have l1:(Lt.lSplit s).1=(Lt.sSplit s).1.map fun l=>(⟨l.N,l.Words⟩:Lt.Line):=rfl
 have l2:(Lt.lSplit s).2.1=(Lt.sSplit s).2.1:=rfl
 have l3:(Lt.lSplit s).2.2=(Lt.sSplit s).2.2:=rfl
 simp only [l1,l2,l3,jn_app,jn_and,and_self]
 refine ifk (fun hc=>?_) (fun hc=>?_)
 ·rw [if_neg (by simpa using hc)] at h; exact h
 rw [if_pos (by simpa using hc)] at h
 have hok:=split_ok s
 generalize (Lt.sSplit s).1=L at h hok
 rw [List.length_map]
 refine fun hl=>?_
 refine nat_loop _ L.length (fun i x=>∃ r d,x=((i:Int),r)/\r.inv/\Sim r.abs d/\r.first=decide (i=0)/\KK (Lt.sParseG (L.drop i) (decide (i=0)) d)) (fun R i x hi hx hR=>?_) (fun R x hx=>?_) _ ⟨_,⟨⟨false,[],[],[],[]⟩,0,0⟩,rfl,⟨?_,by decide,by decide,by decide⟩,⟨rfl,.inr ⟨by decide,by decide,by decide⟩⟩,rfl,h⟩
 ·obtain ⟨r,d,rfl,hinv,hs,hf,hk⟩:=hx
  have eg:(L.map fun l=>(⟨l.N,l.Words⟩:Lt.Line)).getD i default=⟨(L.getD i default).N,(L.getD i default).Words⟩:=by
   rw [List.getD,List.getD,List.getElem?_map,List.getElem?_eq_getElem hi]; rfl
  simp only [lt_t hi,if_true,Int.toNat_natCast,eg]
  obtain ⟨hne,hlen⟩:=hok _ (mem_getD L hi)
  rw [List.drop_eq_getElem_cons hi,show L[i]=L.getD i default by rw [List.getD,List.getElem?_eq_getElem hi]; rfl,Lt.sParseG] at hk
  generalize L.getD i default=ln at hk hne hlen ⊢
  have hinv':(⟨r.p,ln.N,r.where_,r.first,r.long⟩:Lt.Reader).inv:=hinv
  obtain ⟨w,e1,e2⟩:=line_eq _ ln.Words hinv'
  have ea:(⟨r.p,ln.N,r.where_,r.first,r.long⟩:Lt.Reader).abs=r.abs:=rfl
  rw [ea] at e1 e2
  have sl:=sim_line hs ln.Words r.first
  rw [<- hf,<- sl.1] at hk
  refine ⟨⟨Int.natCast_nonneg i,hi⟩,⟨hinv',hne,hlen⟩,?_⟩
  rw [e1]
  by_cases hz:(Lt.sLineM r.abs ln.Words r.first).1=0
  ·rw [if_pos hz]
   rw [if_pos hz] at hk
   obtain ⟨g1,g2⟩:=e2 hz
   refine hR _ ⟨_,_,by rw [wrap_succ (by omega)],g1,?_,by simp [lineR],by simpa using hk⟩
   obtain ⟨p1,p2⟩:=g2
   obtain ⟨q1,q2⟩:=sl.2
   refine ⟨p1.trans q1,?_⟩
   rcases p2 with p2 | ⟨a1,a2,a3⟩
   ·rw [p2]; exact q2
   ·rcases q2 with q2 | ⟨b1,b2,b3⟩
    ·rw [<- q2]; exact .inr ⟨a1,a2,a3⟩
    ·exact .inr ⟨a1,b2,a3.trans b3⟩
  ·rw [if_neg hz]
   rw [if_neg hz] at hk
   exact ⟨_,rfl,flt_ok _ _ _,hk⟩
 ·obtain ⟨r,d,rfl,hinv,hs,hf,hk⟩:=hx
  rw [List.drop_length,Lt.sParseG] at hk
  simp only [lt_f,Bool.false_eq_true,if_false]
  rw [has_01 hinv.2.1,hs.out]
  cases ho:d.out with
  | true=>rw [ho,<- hs.1] at hk; exact hk
  | false=>rw [ho] at hk; exact ⟨3,rfl,by decide,hk⟩
 ·exact ⟨⟨by decide,by decide⟩,⟨by decide,by decide,by decide⟩,⟨rfl,rfl,rfl⟩,fun h=>absurd h (by decide),fun _=>rfl,fun h=>absurd h (by decide)⟩
end Go.Am
end

section
namespace Go.Am
open Go
set_option linter.unusedVariables false
set_option linter.unusedSimpArgs false
theorem wrap_inR (n:Int):Lt.inR (IntKind.i64.wrap n):=half_inR n
def numF (n:Int) (c:UInt8):Int:=IntKind.i64.wrap ((IntKind.i64.wrap (n*10)) - (IntKind.i64.wrap (((UInt8.ofNat (IntKind.u8.wrap (((c.toNat:Nat):Int) - (((48:UInt8).toNat:Nat):Int))).toNat).toNat:Nat):Int)))
def isDig (c:UInt8):Bool:=decide (48<=c.toNat)&&decide (c.toNat<=57)
theorem numF_eq {m:Nat} {c:UInt8} (h1:48<=c.toNat) (h2:c.toNat<=57) (h3:10*m+(c.toNat - 48)<=9223372036854775808):numF (-(m:Int)) c=-((10*m+(c.toNat - 48):Nat):Int):=by
 unfold numF
 have e1:IntKind.u8.wrap (((c.toNat:Nat):Int) - (((48:UInt8).toNat:Nat):Int))=((c.toNat - 48:Nat):Int):=by
  have:(48:UInt8).toNat=48:=rfl
  rw [this]
  simp only [IntKind.wrap,IntKind.signed,IntKind.bits]
  simp
  omega
 rw [e1,Int.toNat_natCast]
 have e2:(UInt8.ofNat (c.toNat - 48)).toNat=c.toNat - 48:=by simp; omega
 rw [e2,wrap_i64 (n:=-(m:Int)*10) (by omega) (by omega),wrap_i64 (n:=((c.toNat - 48:Nat):Int)) (by omega) (by omega),wrap_i64 (by omega) (by omega)]
 omega
theorem digs_foldF:∀ (n:Nat),n<=9223372036854775808->(Lt.digs n).foldl numF 0=-(n:Int):=by
 intro n
 induction n using Nat.strongRecOn with
 | _ n ih=>
  intro hn
  have hd:∀ k:Nat,k < 10->(UInt8.ofNat (48+k)).toNat=48+k:=fun k hk=>by simp; omega
  by_cases h:n < 10
  ·rw [digs_small h]
   show numF (-((0:Nat):Int)) _=_
   rw [numF_eq (by rw [hd n h]; omega) (by rw [hd n h]; omega) (by rw [hd n h]; omega),hd n h]; omega
  ·rw [digs_big h,foldl_snoc,ih (n / 10) (by omega) (by omega)]
   have:=Nat.mod_lt n (show 10 > 0 by decide)
   rw [numF_eq (by rw [hd _ this]; omega) (by rw [hd _ this]; omega) (by rw [hd _ this]; omega),hd _ this]; omega
theorem foldF_inR:∀ (l:List UInt8) (b:Int),Lt.inR b->Lt.inR (l.foldl numF b)
 | [],b,h=>h
 | c::l,b,h=>foldF_inR l _ (wrap_inR _)
theorem sNum_no {s:List UInt8} (h:∀ n,Lt.inR n->Lt.numPut n≠s):Lt.sNum s=(0,false):=by
 unfold Lt.sNum
 rw [if_neg]
 exact h _ (half_inR _)
theorem num_shape {n:Int} (h:Lt.inR n) {s:List UInt8} (e:Lt.numPut n=s):s≠[]/\s.length<=20 /\
  (∀ a:Nat,(if decide (s.getD 0 0=45)=true then (1:Int) else 0)=(a:Int)->(s.drop a).all isDig=true/\(if decide ((a:Int)=0)=true then IntKind.i64.wrap (0 - (s.drop a).foldl numF 0) else (s.drop a).foldl numF 0)=n):=by
 have hl:=numPut_len h
 have hne:=digs_ne n.natAbs
 have hdd:=digs_digit n.natAbs
 unfold Lt.inR at h
 have hf:=digs_foldF n.natAbs (by omega)
 have ha:(Lt.digs n.natAbs).all isDig=true:=by
  rw [List.all_eq_true]
  intro c hc
  have:=hdd c hc
  unfold isDig; simp [this]
 refine ⟨by rw [<- e]; exact numPut_ne n,by rw [<- e]; omega,fun a hA=>?_⟩
 by_cases hn:n < 0
 ·have e1:s=45::Lt.digs n.natAbs:=by rw [<- e]; unfold Lt.numPut; rw [if_pos hn]; rfl
  rw [e1] at hA ⊢
  have:a=1:=by
   rw [if_pos (by simp)] at hA; omega
  subst this
  refine ⟨ha,?_⟩
  rw [if_neg (by decide),List.drop_succ_cons,List.drop_zero,hf]
  omega
 ·have e1:s=Lt.digs n.natAbs:=by rw [<- e]; unfold Lt.numPut; rw [if_neg hn]; rfl
  have h45:¬ s.getD 0 0=45:=by
   intro e2
   rw [e1] at e2
   cases hh:Lt.digs n.natAbs with
   | nil=>exact hne hh
   | cons b r=>
    rw [hh] at e2 hdd
    have:=hdd b (by simp)
    have e2:b=45:=e2
    subst e2
    simp at this
  have:a=0:=by
   rw [if_neg (by simpa using h45)] at hA; omega
  subst this
  rw [List.drop_zero,e1]
  refine ⟨ha,?_⟩
  rw [if_pos (by decide),hf,wrap_i64 (by omega) (by omega)]
  omega
theorem dec_byte (c d:UInt8):decide ((((c.toNat:Nat):Int))=((d.toNat:Nat):Int))=decide (c=d):=by
 by_cases hc:c=d
 ·subst hc; simp
 ·have:c.toNat≠d.toNat:=fun e=>hc (UInt8.toNat_inj.1 e)
  simp only [hc,decide_false,decide_eq_false_iff_not]; omega
theorem law_numGet (s:List UInt8) (KK:Int×Bool->Prop) (h:KK (Lt.numGet s)):F_numGet s KK:=by
 unfold F_numGet
 unfold Lt.numGet at h
 have no:(∀ n,Lt.inR n->Lt.numPut n≠s)->KK (0,false):=fun hn=>by rw [sNum_no hn] at h; exact h
 simp only [dec_byte,jn_app,jn_and,jn_ite,jval,bor]
 refine ifk (fun hc=>no (fun n hn e=>?_)) (fun hc=>?_)
 ·obtain ⟨h1,h2,_⟩:=num_shape hn e
  simp only [Bool.or_eq_true,decide_eq_true_eq] at hc
  rcases hc with hc | hc
  ·exact h1 hc
  ·omega
 simp only [Bool.or_eq_true,decide_eq_true_eq,not_or] at hc
 have h0:0<s.length:=List.length_pos_iff.2 hc.1
 refine ⟨⟨by decide,h0⟩,?_⟩
 obtain ⟨a,hA,ha⟩:∃ a:Nat,(if decide (s.getD 0 0=45)=true then (1:Int) else 0)=(a:Int)/\a<=1:=by
  by_cases h45:s.getD 0 0=45
  ·exact ⟨1,by simp only [h45,decide_true,if_true]; rfl,Nat.le_refl _⟩
  ·exact ⟨0,by simp only [h45,decide_false,Bool.false_eq_true,if_false]; rfl,by decide⟩
 have shape:∀ n,Lt.inR n->Lt.numPut n=s->(s.drop a).all isDig=true/\(if decide ((a:Int)=0)=true then IntKind.i64.wrap (0 - (s.drop a).foldl numF 0) else (s.drop a).foldl numF 0)=n:=fun n hn e=>(num_shape hn e).2.2 a hA
 rw [hA]
 refine nat_loop _ (s.length-a) (fun i x=>x=((((s.drop a).take i).foldl numF 0),((a+i:Nat):Int))/\((s.drop a).take i).all isDig=true) (fun R i x hi hx hR=>?_) (fun R x hx=>?_) _ ⟨rfl,rfl⟩
 ·obtain ⟨rfl,hall⟩:=hx
  have hlt:a+i<s.length:=by omega
  have hlt2:i < (s.drop a).length:=by rw [List.length_drop]; omega
  have eg:(s.drop a).getD i default=s.getD (a+i) 0:=by rw [List.getD,List.getElem?_drop]; rfl
  have et:=take_snoc (s.drop a) hlt2
  rw [eg] at et
  simp only [lt_t hlt,if_true,Int.toNat_natCast]
  have bad:¬ isDig (s.getD (a+i) 0)=true->KK (0,false):=fun hd=>no (fun n hn e=>by
   have:=(shape n hn e).1
   rw [<- List.take_append_drop (i+1) (s.drop a),et] at this
   simp only [List.all_append,List.all_cons,Bool.and_eq_true] at this
   exact hd this.1.2.1)
  have e48:(48:UInt8).toNat=48:=rfl
  have e57:(57:UInt8).toNat=57:=rfl
  refine fun _=>⟨⟨by omega,hlt⟩,?_⟩
  refine ifk (fun c1=>bad ?_) (fun c1=>⟨⟨by omega,hlt⟩,ifk (fun c2=>bad ?_) (fun c2=>⟨⟨by omega,hlt⟩,hR _ ⟨?_,?_⟩⟩)⟩)
  ·rw [e48] at c1
   unfold isDig; simp at c1 ⊢; omega
  ·rw [e57] at c2
   unfold isDig; simp at c2 ⊢; omega
  ·rw [et,foldl_snoc,wrap_succ (by omega)]; rfl
  ·rw [e48] at c1; rw [e57] at c2
   rw [et,List.all_append,hall]
   simp at c1 c2
   unfold isDig; simp; omega
 ·obtain ⟨rfl,hall⟩:=hx
  have e1:a+(s.length-a)=s.length:=by omega
  have e2:(s.drop a).take (s.length-a)=s.drop a:=List.take_of_length_le (by rw [List.length_drop]; omega)
  rw [e2] at hall
  rw [e1,e2]
  simp only [lt_f,Bool.false_eq_true,if_false]
  refine fun _=>?_
  have hin:Lt.inR (if decide ((a:Int)=0)=true then IntKind.i64.wrap (0 - (s.drop a).foldl numF 0) else (s.drop a).foldl numF 0):=by
   split
   ·exact wrap_inR _
   ·exact foldF_inR _ _ (by unfold Lt.inR; omega)
  generalize hv:(if decide ((a:Int)=0)=true then IntKind.i64.wrap (0 - (s.drop a).foldl numF 0) else (s.drop a).foldl numF 0)=v at hin shape ⊢
  refine ⟨hin,?_⟩
  by_cases hc:(!decide (Lt.numPut v=s))=true
  ·rw [if_pos hc]
   refine no (fun n hn e=>?_)
   have:=(shape n hn e).2
   subst this
   simp [e] at hc
  ·rw [if_neg hc]
   have e:Lt.numPut v=s:=by simpa using hc
   rw [<- e,sNum_put hin] at h
   exact h
def hexL:List UInt8:=[48,49,50,51,52,53,54,55,56,57,97,98,99,100,101,102]
theorem idx_ok (c:UInt8):Lt.gIndex hexL c < 0\/(0<=Lt.gIndex hexL c/\Lt.gIndex hexL c < 16/\hexN (Lt.gIndex hexL c).toNat=c):=by
 have:∀ k:Fin 256,Lt.gIndex hexL (UInt8.ofNat k.1) < 0\/(0<=Lt.gIndex hexL (UInt8.ofNat k.1)/\Lt.gIndex hexL (UInt8.ofNat k.1) < 16/\hexN (Lt.gIndex hexL (UInt8.ofNat k.1)).toNat=UInt8.ofNat k.1):=by decide +kernel
 have h:=this ⟨c.toNat,c.toNat_lt⟩
 rw [UInt8.ofNat_toNat] at h
 exact h
theorem idx_hex (k:Nat):¬ Lt.gIndex hexL (hexN k) < 0:=by
 have:∀ j:Fin 16,¬ Lt.gIndex hexL (hexN j.1) < 0:=by decide +kernel
 have h:=this ⟨k % 16,Nat.mod_lt _ (by decide)⟩
 have e:hexN (k % 16)=hexN k:=by unfold hexN; rw [Nat.mod_mod]
 rw [<- e]; exact h
theorem shl_or {u d:Nat} (hu:u < 1152921504606846976) (hd:d < 16) :
  (IntKind.u64.wrap ((BitVec.ofInt IntKind.u64.bits (IntKind.u64.wrap ((u:Int)*2 ^ (min (4:Int).toNat IntKind.u64.bits))) ||| BitVec.ofInt IntKind.u64.bits (IntKind.u64.wrap (d:Int))).toNat:Nat))=((16*u+d:Nat):Int):=by
 have e1:(u:Int)*2 ^ (min (4:Int).toNat IntKind.u64.bits)=((u*16:Nat):Int):=by
  have:min (4:Int).toNat IntKind.u64.bits=4:=by decide
  rw [this]; omega
 have w1:IntKind.u64.wrap ((u*16:Nat):Int)=((u*16:Nat):Int):=wrapu_small (by omega)
 have w2:IntKind.u64.wrap ((d:Nat):Int)=((d:Nat):Int):=wrapu_small (by omega)
 rw [e1,w1,w2]
 show IntKind.u64.wrap (((BitVec.ofInt 64 ((u*16:Nat):Int) ||| BitVec.ofInt 64 ((d:Nat):Int)).toNat:Nat):Int)=_
 have e2:∀ n:Nat,BitVec.ofInt 64 ((n:Nat):Int)=BitVec.ofNat 64 n:=fun n=>BitVec.ofInt_natCast ..
 rw [e2,e2,BitVec.toNat_or,BitVec.toNat_ofNat,BitVec.toNat_ofNat,Nat.mod_eq_of_lt (by omega),Nat.mod_eq_of_lt (by omega)]
 have e3:u*16 ||| d=16*u+d:=by
  have:=Nat.shiftLeft_add_eq_or_of_lt (i:=4) (b:=d) (by omega) u
  rw [Nat.shiftLeft_eq] at this
  rw [show u*16=u*2 ^ 4 from rfl,<- this]; omega
 rw [e3,wrapu_small (by omega)]
theorem sFlo_no {s:List UInt8} (h:∀ n,Lt.inR n->Lt.rFlo n≠s):Lt.sFlo s=(0,false):=by
 unfold Lt.sFlo
 rw [if_neg]
 exact fun hc=>h _ (wrap_inR _) hc.2
theorem hexR_inj {a b:Nat} (ha:a < 18446744073709551616) (hb:b < 18446744073709551616) (h:Lt.hexR 16 (a:Int) []=Lt.hexR 16 (b:Int) []):a=b:=by
 have e1:=hexR_fold 16 a [] ha (by omega)
 have e2:=hexR_fold 16 b [] hb (by omega)
 rw [h,e2] at e1
 have h16:(16:Nat) ^ 16=18446744073709551616:=by decide
 rw [h16,Nat.mod_eq_of_lt ha,Nat.mod_eq_of_lt hb] at e1
 simp only [List.foldl_nil] at e1
 omega
theorem law_floGet (s:List UInt8) (KK:Int×Bool->Prop) (h:KK (Lt.floGet s)):F_floGet s KK:=by
 unfold F_floGet
 unfold Lt.floGet at h
 have no:(∀ n,Lt.inR n->Lt.rFlo n≠s)->KK (0,false):=fun hn=>by rw [sFlo_no hn] at h; exact h
 have pre:∀ n,Lt.rFlo n=s->Lt.gCutP s [48,102]=(Lt.hexR 16 (IntKind.u64.wrap (Lt.rPlain n)) [],true):=by
  intro n e
  rw [<- e]; rfl
 have hexs:∀ n,(Lt.hexR 16 (IntKind.u64.wrap (Lt.rPlain n)) []).length=16/\∀ c∈Lt.hexR 16 (IntKind.u64.wrap (Lt.rPlain n)) [],¬ Lt.gIndex hexL c < 0:=by
  intro n
  refine ⟨by rw [hexR_len]; rfl,?_⟩
  rw [wrapu_eq,hexR_eq 16 _ [] (BitVec.isLt _)]
  intro c hc
  rw [List.append_nil] at hc
  obtain ⟨i,_,rfl⟩:=List.mem_map.1 hc
  exact idx_hex _
 have hp:(Lt.gCutP s [48,102]).2=true->s=[48,102]++(Lt.gCutP s [48,102]).1:=by
  unfold Lt.gCutP Go.Lib.trimPrefix
  intro hp
  have hp:Go.Lib.hasPrefix s [48,102]=true:=hp
  rw [if_pos hp]
  obtain ⟨t,ht⟩:=List.isPrefixOf_iff_prefix.1 hp
  rw [<- ht]; rfl
 change F_floGet s KK
 unfold F_floGet
 rw [show ([48,49,50,51,52,53,54,55,56,57,97,98,99,100,101,102]:List UInt8)=hexL from rfl]
 generalize Lt.gCutP s [48,102]=cp at pre hp ⊢
 obtain ⟨rest,ok⟩:=cp
 simp only at hp ⊢
 simp only [jn_app,jn_and,jn_ite,jval,bor]
 refine ifk (fun hc=>no (fun n hn e=>?_)) (fun hc=>?_)
 ·have hpe:=pre n e
  simp only [Prod.mk.injEq] at hpe
  rw [hpe.1,hpe.2,(hexs n).1] at hc
  simp at hc
 simp only [Bool.or_eq_true,Bool.not_eq_true',decide_eq_false_iff_not,not_or,Decidable.not_not,Bool.not_eq_false] at hc
 have hs:=hp hc.1
 have h16:rest.length=16:=by omega
 refine fun _=>?_
 refine nat_loop _ 16 (fun i x=>∃ u:Nat,x=((u:Int),(i:Int))/\u < 16 ^ i/\∀ l,Lt.hexR i (u:Int) l=rest.take i++l) (fun R i x hi hx hR=>?_) (fun R x hx=>?_) _ ⟨0,rfl,by decide,fun l=>rfl⟩
 ·obtain ⟨u,rfl,hu,hl⟩:=hx
  have hlt:i<rest.length:=by omega
  have et:rest.take (i+1)=rest.take i++[rest.getD i 0]:=take_snoc rest hlt
  have hm:rest.getD i 0∈rest:=mem_getD rest hlt
  simp only [lt_t hlt,if_true,Int.toNat_natCast]
  refine ⟨⟨Int.natCast_nonneg i,hlt⟩,ifk (fun hc1=>no (fun n hn e=>?_)) (fun hc1=>⟨by decide,hR _ ?_⟩)⟩
  ·have hpe:=pre n e
   simp only [Prod.mk.injEq] at hpe
   have hm':rest.getD i 0∈Lt.hexR 16 (IntKind.u64.wrap (Lt.rPlain n)) []:=by rw [<- hpe.1]; exact hm
   exact (hexs n).2 _ hm' (by simpa using hc1)
  ·rcases idx_ok (rest.getD i 0) with hneg | ⟨d0,d16,hd⟩
   ·exact absurd (decide_eq_true hneg) hc1
   have hp15:16 ^ i<=16 ^ 15:=Nat.pow_le_pow_right (by decide) (by omega)
   have h15:(16:Nat) ^ 15=1152921504606846976:=by decide
   obtain ⟨d,hdd⟩:=Int.eq_ofNat_of_zero_le d0
   rw [hdd] at hd d16 ⊢
   rw [Int.toNat_natCast] at hd
   refine ⟨16*u+d,?_,?_,fun l=>?_⟩
   ·rw [shl_or (by omega) (by omega),wrap_succ (by omega)]
   ·rw [Nat.pow_succ]; omega
   ·rw [Lt.hexR,show Int.tdiv ((16*u+d:Nat):Int) 16=(((16*u+d) / 16:Nat):Int) from rfl,show (16*u+d) / 16=u by omega,wrapu_small (by omega),hl,hexB_eq]
    have:hexN (16*u+d)=hexN d:=by unfold hexN; congr 1; omega
    rw [this,hd,et]; simp
 ·obtain ⟨u,rfl,hu,hl⟩:=hx
  have e16:(16:Nat) ^ 16=18446744073709551616:=by decide
  have hu:u < 18446744073709551616:=by omega
  have hr:=hl []
  rw [List.append_nil,List.take_of_length_le (by omega)] at hr
  have ew:IntKind.u64.wrap (IntKind.i64.wrap (u:Int))=(u:Int):=by
   simp only [IntKind.wrap,IntKind.signed,IntKind.bits]
   simp
   omega
  have e2:∀ n:Int,Lt.inR n->IntKind.i64.wrap (IntKind.u64.wrap n)=n:=by
   intro n hn
   unfold Lt.inR at hn
   simp only [IntKind.wrap,IntKind.signed,IntKind.bits]
   simp
   omega
  rw [show decide (((16:Nat):Int) < (rest.length:Int))=false by simp; omega]
  simp only [Bool.false_eq_true,if_false]
  by_cases hc1:(!decide (Lt.Plain (IntKind.i64.wrap (u:Int))=IntKind.i64.wrap (u:Int)))=true
  ·rw [if_pos hc1]
   refine no (fun n hn e=>?_)
   have hpe:=pre n e
   simp only [Prod.mk.injEq] at hpe
   have h1:=hpe.1
   rw [<- hr,wrapu_eq] at h1
   have h2:=hexR_inj hu (BitVec.isLt _) h1
   have h3:IntKind.i64.wrap (u:Int)=Lt.rPlain n:=by
    rw [h2,<- wrapu_eq,e2 _ (plain_inR hn)]
   have h4:Lt.rPlain (Lt.rPlain n)=Lt.rPlain n:=by
    unfold Lt.rPlain
    by_cases h:Lt.rIsNan n=true
    ·rw [if_pos h]; simp
    ·rw [if_neg h,if_neg h]
   rw [h3,<- plain_eq,h4] at hc1
   simp at hc1
  ·rw [if_neg hc1]
   have hpl:Lt.Plain (IntKind.i64.wrap (u:Int))=IntKind.i64.wrap (u:Int):=by simpa using hc1
   have e:Lt.rFlo (IntKind.i64.wrap (u:Int))=s:=by
    unfold Lt.rFlo
    rw [plain_eq,hpl,ew,hr,hs]
   rw [<- e,sFlo_put (wrap_inR _),plain_eq,hpl] at h
   exact h
theorem sNum_byte {s:List UInt8} (h:(Lt.sNum s).2=true):s≠[]/\∀ c∈s,c=45\/(48<=c.toNat/\c.toNat<=57):=by
 have e:=sNum_back h
 exact ⟨by rw [<- e]; exact numPut_ne _,by rw [<- e]; exact numPut_byte _⟩
theorem sNum_inR {s:List UInt8}:Lt.inR (Lt.sNum s).1:=by
 unfold Lt.sNum
 split
 ·exact half_inR _
 ·unfold Lt.inR; omega
theorem sFlo_back {s:List UInt8} (h:(Lt.sFlo s).2=true):(∃ r,s=48::102::r)/\Lt.Plain (Lt.sFlo s).1=(Lt.sFlo s).1/\Lt.floPut (Lt.sFlo s).1=s:=by
 unfold Lt.sFlo at h ⊢
 split at h
 ·rename_i hc
  rw [if_pos hc]
  have e:=sFlo_put (n:=Lt.sFloV s) (wrap_inR _)
  rw [hc.2] at e
  unfold Lt.sFlo at e
  rw [if_pos hc] at e
  simp only [Prod.mk.injEq,and_true] at e
  refine ⟨⟨_,by rw [<- hc.2]; rfl⟩,by rw [<- plain_eq]; exact e.symm,?_⟩
  rw [<- flo_eq]; exact hc.2
 ·cases h
theorem sFlo_inR {s:List UInt8}:Lt.inR (Lt.sFlo s).1:=by
 unfold Lt.sFlo
 split
 ·exact wrap_inR _
 ·unfold Lt.inR; omega
theorem right5 {n:Int}:Lt.wordRight ⟨5,[],n⟩=true ↔ 0<=n/\n<=999:=by
 unfold Lt.wordRight; simp
theorem sArg_eq (s:List UInt8):Lt.sArg s=if Lt.Name s=true then (⟨1,s,0⟩,true) else if (Lt.sNum s).2=true then (⟨2,[],(Lt.sNum s).1⟩,true) else if (Lt.sFlo s).2=true then (⟨3,[],(Lt.sFlo s).1⟩,true)
  else if s=[110,117,108,108] then (⟨4,[],0⟩,true) else if s.getD 0 0=35/\(Lt.sNum (s.drop 1)).2=true/\0<=(Lt.sNum (s.drop 1)).1/\(Lt.sNum (s.drop 1)).1<=999 then (⟨5,[],(Lt.sNum (s.drop 1)).1⟩,true) else (⟨0,[],0⟩,false):=by
 unfold Lt.sArg
 rw [try1]
 have t2:Lt.sTry s ⟨2,[],(Lt.sNum s).1⟩=(Lt.sNum s).2:=by
  rw [Bool.eq_iff_iff,sTry_iff,word2]
  constructor
  ·intro ⟨_,e⟩
   have:=sNum_put (n:=(Lt.sNum s).1) sNum_inR
   rw [e] at this
   rw [this]
  ·intro h
   exact ⟨rfl,sNum_back h⟩
 have t3:Lt.sTry s ⟨3,[],(Lt.sFlo s).1⟩=(Lt.sFlo s).2:=by
  rw [Bool.eq_iff_iff,sTry_iff]
  constructor
  ·intro ⟨hr,e⟩
   have hp:Lt.Plain (Lt.sFlo s).1=(Lt.sFlo s).1:=by unfold Lt.wordRight at hr; simpa using hr
   rw [word3 hp,<- flo_eq] at e
   have:=sFlo_put (n:=(Lt.sFlo s).1) sFlo_inR
   rw [e] at this
   rw [this]
  ·intro h
   obtain ⟨_,hp,e⟩:=sFlo_back h
   exact ⟨by unfold Lt.wordRight; simp [hp],by rw [word3 hp]; exact e⟩
 have t4:Lt.sTry s ⟨4,[],0⟩=decide (s=[110,117,108,108]):=by
  rw [Bool.eq_iff_iff,sTry_iff,word4,decide_eq_true_eq]
  exact ⟨fun h=>h.2.symm,fun h=>⟨rfl,h.symm⟩⟩
 have t5:Lt.sTry s ⟨5,[],(Lt.sNum (s.drop 1)).1⟩=decide (s.getD 0 0=35/\(Lt.sNum (s.drop 1)).2=true/\0<=(Lt.sNum (s.drop 1)).1/\(Lt.sNum (s.drop 1)).1<=999):=by
  rw [Bool.eq_iff_iff,sTry_iff,decide_eq_true_eq]
  constructor
  ·intro ⟨hr,e⟩
   have hb:0<=(Lt.sNum (s.drop 1)).1/\(Lt.sNum (s.drop 1)).1<=999:=right5.1 hr
   rw [word5 hb.1 hb.2] at e
   have e1:s.drop 1=Lt.numPut (Lt.sNum (s.drop 1)).1:=(congrArg (List.drop 1) e).symm
   have:=sNum_put (n:=(Lt.sNum (s.drop 1)).1) sNum_inR
   rw [<- e1] at this
   exact ⟨(congrArg (fun s=>List.getD s 0 0) e).symm,by rw [this],hb⟩
  ·intro ⟨h1,h2,h3,h4⟩
   refine ⟨right5.2 ⟨h3,h4⟩,?_⟩
   rw [word5 h3 h4,sNum_back h2]
   cases s with
   | nil=>simp at h1
   | cons a r=>
    have h1:a=35:=h1
    rw [h1]; rfl
 rw [t2,t3,t4,t5]
 simp only [decide_eq_true_eq]
theorem law_wordGet (s:List UInt8) (KK:Lt.Arg×Bool->Prop) (h:KK (Lt.wordGet s)):F_wordGet s KK:=by
 unfold F_wordGet
 unfold Lt.wordGet at h
 rw [sArg_eq] at h
 have ed:(s.drop 1).take (s.length - 1)=s.drop 1:=List.take_of_length_le (by rw [List.length_drop]; omega)
 have hnum:(Lt.sNum s).2=true->∃ a r,s=a::r/\(a=45\/(48<=a.toNat/\a.toNat<=57))/\∀ c∈r,c=45\/(48<=c.toNat/\c.toNat<=57):=by
  intro hn
  obtain ⟨h1,h2⟩:=sNum_byte hn
  cases s with
  | nil=>exact absurd rfl h1
  | cons a r=>exact ⟨a,r,rfl,h2 a (by simp),fun c hc=>h2 c (by simp [hc])⟩
 rw [ed]
 unfold Lt.numGet
 simp only [dec_byte]
 refine ifk (fun c1=>?_) (fun c1=>ifk (fun c2=>?_) (fun c2=>ifk (fun c3=>?_) (fun c3=>?_)))
 ·have c1:s=[]:=by simpa using c1
  subst c1
  exact kk h (by decide +kernel)
 ·have c2:s=[110,117,108,108]:=by simpa using c2
  subst c2
  exact kk h (by decide +kernel)
 ·rw [if_pos c3] at h; exact h
 have c1:s≠[]:=by simpa using c1
 have c2:¬ s=[110,117,108,108]:=by simpa using c2
 rw [if_neg c3,if_neg c2] at h
 refine ⟨⟨by decide,List.length_pos_iff.2 c1⟩,ifk (fun c4=>⟨by decide,⟨by have:=List.length_pos_iff.2 c1; omega,Nat.le_refl _⟩,?_⟩) (fun c4=>?_)⟩
 ·have c4:s.getD 0 0=35:=by simpa using c4
  have n1:¬ (Lt.sNum s).2=true:=by
   intro hn
   obtain ⟨a,r,rfl,ha,_⟩:=hnum hn
   have c4:a=35:=c4
   subst c4
   rcases ha with ha | ha
   ·exact absurd ha (by decide)
   ·exact absurd ha.1 (by decide)
  have n2:¬ (Lt.sFlo s).2=true:=by
   intro hn
   obtain ⟨⟨r,rfl⟩,_⟩:=sFlo_back hn
   exact absurd c4 (by show ¬ (48:UInt8)=35; decide)
  rw [if_neg n1,if_neg n2] at h
  simp only [jn_app,jn_ite,jval,bor]
  generalize Lt.sNum (s.drop 1)=x at h ⊢
  obtain ⟨n,ok⟩:=x
  by_cases hc:(!ok||(decide (n < 0)||decide (999<n)))=true
  ·rw [if_pos hc]
   rw [if_neg] at h
   ·exact h
   ·intro ⟨_,h2,h3,h4⟩
    simp only at h2 h3 h4
    simp [h2] at hc
    omega
  ·rw [if_neg hc]
   rw [if_pos] at h
   ·exact h
   ·simp only [Bool.or_eq_true,Bool.not_eq_true',decide_eq_true_eq,not_or,Bool.not_eq_false] at hc
    exact ⟨c4,hc.1,by simp only; omega,by simp only; omega⟩
 ·have c4:¬ s.getD 0 0=35:=by simpa using c4
  refine kk h ?_
  unfold Lt.wordNumber
  have n5:¬ (s.getD 0 0=35/\(Lt.sNum (s.drop 1)).2=true/\0<=(Lt.sNum (s.drop 1)).1/\(Lt.sNum (s.drop 1)).1<=999):=fun hh=>c4 hh.1
  by_cases n1:(Lt.sNum s).2=true
  ·have n2:¬ (Lt.sFlo s).2=true:=by
    intro hn
    obtain ⟨⟨r,e⟩,_⟩:=sFlo_back hn
    obtain ⟨a,r',e2,_,hall⟩:=hnum n1
    rw [e] at e2
    have:(102:UInt8)∈r':=by
     simp only [List.cons.injEq] at e2
     rw [<- e2.2]; simp
    rcases hall _ this with hh | hh
    ·exact absurd hh (by decide)
    ·exact absurd hh.2 (by decide)
   rw [if_pos n1,if_neg n2,if_pos n1]
  ·rw [if_neg n1,if_neg n5,if_neg n1]
end Go.Am
end
