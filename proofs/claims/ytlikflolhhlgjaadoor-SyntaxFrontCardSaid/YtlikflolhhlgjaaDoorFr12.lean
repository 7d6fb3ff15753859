/-
  Part 12: AmY8 · AmR6 · AmY9 · AmY10.
-/
import Derived.Test.YtlikflolhhlgjaaDoorFr11
set_option linter.unusedSimpArgs false
set_option linter.unusedVariables false
set_option linter.unusedSectionVars false
set_option linter.unnecessarySimpa false
section
namespace Go.Am
open Go
set_option linter.unusedVariables false
set_option linter.unusedSimpArgs false
def hd (p:Lt.Program):Nat:=p.Classes.length+p.Globals.length+p.Externs.length
def Rel (w:Int) (r:Lt.Reader) (x:Lt.Read):Prop:=
 (r.heads<hd x.P/\((w=1/\x.Where=1)\/(w=0/\x.Where=2))) \/
 (¬ r.heads<hd x.P/\(0<=x.Long/\x.Long<=1024)/\((2<=w/\w<=7/\x.Where=w+1)\/(w=0/\x.Where=9))) \/
 (¬ r.heads<hd x.P/\w=r.where_/\x.Where=r.abs.Where/\x.Long=r.long)
theorem long_0 {r:Lt.Reader} (h:r.inv) (hw:3<=r.abs.Where):0<=r.long:=by
 obtain ⟨_,_,_,h4⟩:=h
 refine h4.2 ⟨fun e=>?_,by omega⟩
 unfold Lt.Reader.abs at hw
 rw [e] at hw
 simp at hw
section
variable {r:Lt.Reader} {l:List (List UInt8)}
theorem rel_class (hz:(Lt.sClass r.abs l).1=0):Rel 1 r (Lt.sClass r.abs l).2:=by
 unfold Lt.sClass at hz ⊢
 split at hz
 ·simp at hz
 ·rename_i h1
  rw [if_neg h1]
  split at hz
  ·simp at hz
  ·rename_i h2
   rw [if_neg h2]
   refine .inl ⟨?_,.inl ⟨rfl,rfl⟩⟩
   simp only [hd,Lt.Reader.heads,abs_P,List.length_append,List.length_singleton]; omega
theorem rel_field (hz:(Lt.sField r.abs l).1=0):Rel r.where_ r (Lt.sField r.abs l).2:=by
 unfold Lt.sField at hz ⊢
 split at hz
 ·simp at hz
 ·rename_i h1
  rw [if_neg h1]
  split at hz
  ·simp at hz
  ·rename_i h2
   rw [if_neg h2]
   refine .inr (.inr ⟨?_,rfl,rfl,rfl⟩)
   simp only [hd,Lt.Reader.heads,abs_P,Lt.last,List.length_set]; omega
theorem rel_global (hz:(Lt.sGlobal r.abs l).1=0):Rel 0 r (Lt.sGlobal r.abs l).2:=by
 unfold Lt.sGlobal at hz ⊢
 split at hz
 ·simp at hz
 ·rename_i h1
  rw [if_neg h1]
  refine .inl ⟨?_,.inr ⟨rfl,rfl⟩⟩
  simp only [hd,Lt.Reader.heads,abs_P,List.length_append,List.length_singleton]; omega
theorem rel_extern (hz:(Lt.sExtern r.abs l).1=0):Rel 0 r (Lt.sExtern r.abs l).2:=by
 unfold Lt.sExtern at hz ⊢
 split at hz
 ·simp at hz
 ·rename_i h1
  rw [if_neg h1]
  refine .inl ⟨?_,.inr ⟨rfl,rfl⟩⟩
  simp only [hd,Lt.Reader.heads,abs_P,List.length_append,List.length_singleton]; omega
theorem rel_func (hz:(Lt.sFunc r.abs l).1=0):Rel 2 r (Lt.sFunc r.abs l).2:=by
 unfold Lt.sFunc at hz ⊢
 split at hz
 ·simp at hz
 ·rename_i h1
  rw [if_neg h1]
  exact .inr (.inl ⟨Nat.lt_irrefl _,⟨Int.le_refl _,show (0:Int)<=1024 by decide⟩,.inl ⟨by decide,by decide,rfl⟩⟩)
variable (h:r.inv)
theorem rel_param (hz:(Lt.sParam r.abs l).1=0):Rel r.where_ r (Lt.sParam r.abs l).2:=by
 unfold Lt.sParam at hz ⊢
 split at hz
 ·simp at hz
 ·rename_i h1
  rw [if_neg h1]
  exact .inr (.inr ⟨Nat.lt_irrefl _,rfl,rfl,rfl⟩)
include h
theorem rel_var (hz:(Lt.sVar r.abs l).1=0):Rel 3 r (Lt.sVar r.abs l).2:=by
 unfold Lt.sVar at hz ⊢
 split at hz
 ·simp at hz
 ·rename_i h1
  rw [if_neg h1]
  have hw:3<=r.abs.Where:=by simp at h1; omega
  exact .inr (.inl ⟨Nat.lt_irrefl _,⟨long_0 h hw,h.2.2.1.2⟩,.inl ⟨by decide,by decide,rfl⟩⟩)
theorem rel_block (hz:(Lt.sBlock r.abs l).1=0):Rel 4 r (Lt.sBlock r.abs l).2:=by
 unfold Lt.sBlock at hz ⊢
 split at hz
 ·simp at hz
 ·rename_i h1
  rw [if_neg h1]
  have hw:3<=r.abs.Where:=by simp at h1; omega
  exact .inr (.inl ⟨Nat.lt_irrefl _,⟨long_0 h hw,h.2.2.1.2⟩,.inl ⟨by decide,by decide,rfl⟩⟩)
theorem rel_phi (hz:(Lt.sPhi r.abs l).1=0):Rel 4 r (Lt.sPhi r.abs l).2:=by
 unfold Lt.sPhi at hz ⊢
 split at hz
 ·simp at hz
 ·rename_i h1
  rw [if_neg h1]
  split at hz
  ·simp at hz
  ·rename_i h2
   rw [if_neg h2]
   have hw:r.abs.Where=5:=by
    simp only [Bool.not_eq_false,Bool.and_eq_true,decide_eq_true_eq] at h1
    exact h1.1.1.1
   have h0:=long_0 h (by omega)
   have hl:¬ 1024<=r.long:=fun e=>h2 (.inr e)
   exact .inr (.inl ⟨Nat.lt_irrefl _,⟨by show 0<=r.long+1; omega,by show r.long+1<=1024; omega⟩,.inl ⟨by decide,by decide,hw⟩⟩)
theorem rel_code (hz:(Lt.sCodeM r.abs l).1=0):Rel ((Lt.sCodeM r.abs l).2.Where - 1) r (Lt.sCodeM r.abs l).2:=by
 unfold Lt.sCodeM at hz ⊢
 split at hz
 ·simp at hz
 ·rename_i h1
  rw [if_neg h1]
  split at hz
  ·simp at hz
  ·rename_i h2
   rw [if_neg h2]
   split at hz
   ·simp at hz
   ·rename_i x hx
    simp only [hx]
    split at hz
    ·simp at hz
    ·rename_i hl
     rw [if_neg hl]
     have hw:3<=r.abs.Where:=by
      have:r.abs.ins=true:=by simpa using h2
      unfold Lt.Read.ins at this
      simp at this; omega
     have h0:=long_0 h hw
     have hl:¬ 1024<=r.long:=hl
     refine .inr (.inl ⟨Nat.lt_irrefl _,⟨by show 0<=r.long+1; omega,by show r.long+1<=1024; omega⟩,.inl ?_⟩)
     dsimp only
     split <;> decide
theorem rel_at (hz:(Lt.sAt r.abs l).1=0):Rel 6 r (Lt.sAt r.abs l).2:=by
 unfold Lt.sAt at hz ⊢
 split at hz
 ·simp at hz
 ·rename_i h1
  rw [if_neg h1]
  split at hz
  ·simp at hz
  ·rename_i h2
   rw [if_neg h2]
   have hw:r.abs.Where=7:=by
    simp only [Bool.not_eq_false,Bool.and_eq_true,decide_eq_true_eq] at h1
    exact h1.1.1.1.1
   exact .inr (.inl ⟨Nat.lt_irrefl _,⟨long_0 h (by omega),h.2.2.1.2⟩,.inl ⟨by decide,by decide,hw⟩⟩)
theorem rel_obj (hz:(Lt.sObj r.abs l).1=0):Rel 7 r (Lt.sObj r.abs l).2:=by
 unfold Lt.sObj at hz ⊢
 split at hz
 ·simp at hz
 ·rename_i h1
  rw [if_neg h1]
  have hw:7<=r.abs.Where:=by
   simp only [Bool.not_eq_false,Bool.and_eq_true,decide_eq_true_eq] at h1
   exact h1.1.1.1.1
  exact .inr (.inl ⟨Nat.lt_irrefl _,⟨long_0 h (by omega),h.2.2.1.2⟩,.inl ⟨by decide,by decide,rfl⟩⟩)
theorem rel_end (hin:r.abs.ins=true) (hz:(Lt.sEnd r.abs l).1=0):Rel 0 r (Lt.sEnd r.abs l).2:=by
 have hw:3<=r.abs.Where:=by
  unfold Lt.Read.ins at hin
  simp at hin; omega
 unfold Lt.sEnd at hz ⊢
 split at hz
 ·exact .inr (.inl ⟨Nat.lt_irrefl _,⟨long_0 h hw,h.2.2.1.2⟩,.inr ⟨rfl,rfl⟩⟩)
 ·simp at hz
end
theorem res_congr {r:Lt.Reader} {x y:Int×Lt.Read} {w:Int} (h1:x.1=y.1) (h2:x.1=0->x.2=y.2):Lt.yRes r x w=Lt.yRes r y w:=by
 unfold Lt.yRes
 rw [<- h1]
 split
 ·rename_i h; rw [h2 h]
 ·rfl
theorem yTerm_eq {l:List (List UInt8)} (h:Lt.w0 l=Lt.kJump\/Lt.w0 l=Lt.kBranch\/Lt.w0 l=Lt.kRet\/Lt.w0 l=Lt.kTrap):Lt.yTerm l=Lt.sTerm l:=by
 unfold Lt.yTerm
 by_cases h3:Lt.w0 l=Lt.kJump\/Lt.w0 l=Lt.kBranch\/Lt.w0 l=Lt.kRet
 ·rw [if_pos h3]
 ·have e:Lt.w0 l=Lt.kTrap:=by
   rcases h with h | h | h | h
   ·exact absurd (.inl h) h3
   ·exact absurd (.inr (.inl h)) h3
   ·exact absurd (.inr (.inr h)) h3
   ·exact h
  rw [if_neg h3]
  unfold Lt.sTerm
  rw [if_neg (fun e=>h3 (.inl e)),if_neg (fun e=>h3 (.inr (.inl e))),if_neg (fun e=>h3 (.inr (.inr e))),if_pos e]
theorem body_eq (r:Lt.Reader) (l:List (List UInt8)) (h:r.inv):∃ w,Lt.yBody r l=Lt.yRes r (Lt.sLineM r.abs l r.first) w/\((Lt.sLineM r.abs l r.first).1=0->Rel w r (Lt.sLineM r.abs l r.first).2):=by
 have ff:∀ x:Lt.Read,¬ (((false,(0:Int)),x).1.1=true):=fun x=>by simp
 unfold Lt.yBody
 by_cases hs:Lt.sEq l=true
 ·have e:Lt.sLineM r.abs l r.first=Lt.sCodeM r.abs l:=by unfold Lt.sLineM; rw [if_pos hs]
  rw [e,if_pos hs]; exact ⟨_,rfl,rel_code h⟩
 rw [if_neg hs]
 by_cases n0:Lt.w0 l=Lt.kSsa
 ·have e:Lt.sLineM r.abs l r.first=if (r.first&&decide (l.length=1))=false then (3,r.abs) else (0,{ r.abs with P:={ r.p with SSA:=true } }):=by unfold Lt.sLineM; rw [if_neg hs,if_pos n0]; rfl
  rw [e,if_pos n0]
  refine ⟨_,rfl,fun hz=>?_⟩
  split at hz
  ·simp at hz
  ·rename_i hc
   rw [if_neg hc]
   exact .inr (.inr ⟨Nat.lt_irrefl _,rfl,rfl,rfl⟩)
 rw [if_neg n0]
 have e0:Lt.sLineM r.abs l r.first=if (Lt.sHeadM r.abs l).1.1 then ((Lt.sHeadM r.abs l).1.2,(Lt.sHeadM r.abs l).2) else if (Lt.sPartM r.abs l).1.1 then ((Lt.sPartM r.abs l).1.2,(Lt.sPartM r.abs l).2) else if (Lt.sStateM r.abs l).1.1 then ((Lt.sStateM r.abs l).1.2,(Lt.sStateM r.abs l).2) else Lt.sCodeM r.abs l:=by
  unfold Lt.sLineM; rw [if_neg hs,if_neg n0]
 rw [e0]
 unfold Lt.sHeadM
 by_cases n1:Lt.w0 l=Lt.kClass
 ·rw [if_pos n1,if_pos n1]; exact ⟨_,rfl,rel_class⟩
 rw [if_neg n1,if_neg n1]
 by_cases n2:Lt.w0 l=Lt.kField
 ·rw [if_pos n2,if_pos n2]; exact ⟨_,rfl,rel_field⟩
 rw [if_neg n2,if_neg n2]
 by_cases n3:Lt.w0 l=Lt.kGlobal
 ·rw [if_pos n3,if_pos n3]; exact ⟨_,rfl,rel_global⟩
 rw [if_neg n3,if_neg n3]
 by_cases n4:Lt.w0 l=Lt.kExtern
 ·rw [if_pos n4,if_pos n4]; exact ⟨_,rfl,rel_extern⟩
 rw [if_neg n4,if_neg n4]
 by_cases n5:Lt.w0 l=Lt.kFunc
 ·rw [if_pos n5,if_pos n5]; exact ⟨_,rfl,rel_func⟩
 rw [if_neg n5,if_neg n5,if_neg (ff _)]
 unfold Lt.sPartM
 by_cases n6:Lt.w0 l=Lt.kParam
 ·rw [if_pos n6,if_pos n6]; exact ⟨_,rfl,rel_param⟩
 rw [if_neg n6,if_neg n6]
 by_cases n7:Lt.w0 l=Lt.kVar
 ·rw [if_pos n7,if_pos n7]; exact ⟨_,rfl,rel_var h⟩
 rw [if_neg n7,if_neg n7]
 by_cases n8:Lt.w0 l=Lt.kBlock
 ·rw [if_pos n8,if_pos n8]; exact ⟨_,rfl,rel_block h⟩
 rw [if_neg n8,if_neg n8]
 by_cases n9:Lt.w0 l=Lt.kPhi
 ·rw [if_pos n9,if_pos n9]; exact ⟨_,rfl,rel_phi h⟩
 rw [if_neg n9,if_neg n9,if_neg (ff _)]
 have eS:(Lt.w0 l=Lt.kAt\/Lt.w0 l=Lt.kObj\/Lt.w0 l=Lt.kJump\/Lt.w0 l=Lt.kBranch\/Lt.w0 l=Lt.kRet\/Lt.w0 l=Lt.kTrap)->Lt.sStateM r.abs l=if r.abs.ins=false then ((true,3),r.abs) else if Lt.w0 l=Lt.kAt then ((true,(Lt.sAt r.abs l).1),(Lt.sAt r.abs l).2) else if Lt.w0 l=Lt.kObj then ((true,(Lt.sObj r.abs l).1),(Lt.sObj r.abs l).2) else ((true,(Lt.sEnd r.abs l).1),(Lt.sEnd r.abs l).2):=fun hh=>by
  unfold Lt.sStateM; rw [if_pos hh]
 by_cases n10:Lt.w0 l=Lt.kAt
 ·rw [if_pos n10,eS (.inl n10)]
  by_cases hin:r.abs.ins=false
  ·rw [if_pos hin]
   refine ⟨6,?_,fun hz=>by simp at hz⟩
   have:(Lt.sAt r.abs l).1=3:=by
    have:decide (r.abs.Where=7)=false:=by
     unfold Lt.Read.ins at hin
     simp at hin; simp; omega
    unfold Lt.sAt
    rw [this]; rfl
   exact res_congr this (fun hz=>by rw [this] at hz; simp at hz)
  ·rw [if_neg hin,if_pos n10]; exact ⟨_,rfl,rel_at h⟩
 rw [if_neg n10]
 by_cases n11:Lt.w0 l=Lt.kObj
 ·rw [if_pos n11,eS (.inr (.inl n11))]
  by_cases hin:r.abs.ins=false
  ·unfold Lt.yObject
   rw [if_pos hin,if_pos hin]
   exact ⟨7,rfl,fun hz=>by simp at hz⟩
  ·unfold Lt.yObject
   rw [if_neg hin,if_neg hin,if_neg n10,if_pos n11]; exact ⟨_,rfl,rel_obj h⟩
 rw [if_neg n11]
 by_cases n12:Lt.w0 l=Lt.kJump\/Lt.w0 l=Lt.kBranch\/Lt.w0 l=Lt.kRet\/Lt.w0 l=Lt.kTrap
 ·rw [if_pos n12,eS (.inr (.inr n12))]
  by_cases hin:r.abs.ins=false
  ·unfold Lt.yEnd
   rw [if_pos hin,if_pos hin]
   exact ⟨0,rfl,fun hz=>by simp at hz⟩
  ·unfold Lt.yEnd
   rw [if_neg hin,if_neg hin,if_neg n10,if_neg n11,yTerm_eq n12]
   refine ⟨0,res_congr ?_ ?_,rel_end h (by simpa using hin)⟩
   ·unfold Lt.sEnd; cases Lt.sTerm l <;> rfl
   ·unfold Lt.sEnd; cases Lt.sTerm l
    ·intro hz; simp at hz
    ·intro _; rfl
 have eN:Lt.sStateM r.abs l=((false,0),r.abs):=by
  unfold Lt.sStateM; rw [if_neg (fun hh=>hh.elim n10 (fun hh=>hh.elim n11 n12))]
 rw [if_neg n12,eN,if_neg (ff _)]
 exact ⟨_,rfl,rel_code h⟩
def Sim (a b:Lt.Read):Prop:=a.P=b.P/\(a=b\/(a.Where<=2/\b.Where<=2/\(a.Where=1 ↔ b.Where=1)))
theorem Inv_low {P:Lt.Program} {w n m:Int} (h:Lt.Inv ⟨P,w,n⟩) (hw:w<=2):Lt.Inv ⟨P,w,m⟩:=
 ⟨h.1,h.2.1,h.2.2.1,h.2.2.2.1,h.2.2.2.2.1,fun h3=>absurd h3 (by show ¬ 3<=w; omega)⟩
def lineR (r:Lt.Reader) (w:Int) (x:Lt.Read):Lt.Reader:=⟨x.P,r.at_,w,false,if r.heads<hd x.P then -1 else x.Long⟩
theorem lineR_inv {r:Lt.Reader} {w:Int} {x:Lt.Read} (h:r.inv) (hx:Lt.Inv x) (hr:Rel w r x):(lineR r w x).inv/\Sim (lineR r w x).abs x:=by
 obtain ⟨P,W,n⟩:=x
 obtain ⟨hi,hw,hl,hlw⟩:=h
 rcases hr with ⟨h1,⟨rfl,h2⟩ | ⟨rfl,h2⟩⟩ | ⟨h1,h2,⟨h3,h4,h5⟩ | ⟨rfl,h3⟩⟩ | ⟨h1,rfl,h3,h4⟩
 ·have h2:W=1:=h2
  subst h2
  have e:(lineR r 1 ⟨P,1,n⟩)=⟨P,r.at_,1,false,-1⟩:=by unfold lineR; rw [if_pos h1]
  rw [e]
  exact ⟨⟨show Lt.Inv ⟨P,1,-1⟩ from Inv_low hx (by decide),show (0:Int)<=1/\(1:Int)<=7 by decide,show (-1:Int) <= -1/\(-1:Int)<=1024 by decide,by simp⟩,rfl,.inr ⟨by simp [Lt.Reader.abs],by simp,by simp [Lt.Reader.abs]⟩⟩
 ·have h2:W=2:=h2
  subst h2
  have e:(lineR r 0 ⟨P,2,n⟩)=⟨P,r.at_,0,false,-1⟩:=by unfold lineR; rw [if_pos h1]
  rw [e]
  exact ⟨⟨show Lt.Inv ⟨P,2,-1⟩ from Inv_low hx (by decide),show (0:Int)<=0/\(0:Int)<=7 by decide,show (-1:Int) <= -1/\(-1:Int)<=1024 by decide,by simp [Lt.Reader.abs]⟩,rfl,.inr ⟨by simp [Lt.Reader.abs],by simp,by simp [Lt.Reader.abs]⟩⟩
 ·have h5:W=w+1:=h5
  have h2:0<=n/\n<=1024:=h2
  have e:(lineR r w ⟨P,W,n⟩)=⟨P,r.at_,w,false,n⟩:=by unfold lineR; rw [if_neg h1]
  have ea:(⟨P,r.at_,w,false,n⟩:Lt.Reader).abs=⟨P,W,n⟩:=by
   unfold Lt.Reader.abs; dsimp only; rw [if_neg (by omega),if_neg (by omega),h5]
  rw [e]
  refine ⟨⟨by rw [ea]; exact hx,⟨by show 0<=w; omega,h4⟩,⟨by show -1<=n; omega,h2.2⟩,?_⟩,by rw [ea]; exact ⟨rfl,.inl rfl⟩⟩
  rw [ea]
  show 0<=n ↔ w≠1/\W≠2
  omega
 ·have h3:W=9:=h3
  have h2:0<=n/\n<=1024:=h2
  have e:(lineR r 0 ⟨P,W,n⟩)=⟨P,r.at_,0,false,n⟩:=by unfold lineR; rw [if_neg h1]
  have ea:(⟨P,r.at_,0,false,n⟩:Lt.Reader).abs=⟨P,W,n⟩:=by
   unfold Lt.Reader.abs; dsimp only; rw [if_pos rfl,if_pos h2.1,h3]
  rw [e]
  refine ⟨⟨by rw [ea]; exact hx,show (0:Int)<=0/\(0:Int)<=7 by decide,⟨by show -1<=n; omega,h2.2⟩,?_⟩,by rw [ea]; exact ⟨rfl,.inl rfl⟩⟩
  rw [ea]
  show 0<=n ↔ (0:Int)≠1/\W≠2
  omega
 ·have h4:n=r.long:=h4
  have h3:W=r.abs.Where:=h3
  have e:(lineR r r.where_ ⟨P,W,n⟩)=⟨P,r.at_,r.where_,false,n⟩:=by unfold lineR; rw [if_neg h1]
  have ea:(⟨P,r.at_,r.where_,false,n⟩:Lt.Reader).abs=⟨P,W,n⟩:=by rw [h3,h4]; rfl
  rw [e]
  refine ⟨⟨by rw [ea]; exact hx,hw,by rw [h4]; exact hl,?_⟩,by rw [ea]; exact ⟨rfl,.inl rfl⟩⟩
  rw [ea,h3,h4]; exact hlw
theorem line_eq (r:Lt.Reader) (l:List (List UInt8)) (h:r.inv):∃ w,Lt.yLine r l=(if (Lt.sLineM r.abs l r.first).1=0 then (.ok (),lineR r w (Lt.sLineM r.abs l r.first).2) else (.error (Lt.flt (Lt.sLineM r.abs l r.first).1),r)) /\
  ((Lt.sLineM r.abs l r.first).1=0->(lineR r w (Lt.sLineM r.abs l r.first).2).inv/\Sim (lineR r w (Lt.sLineM r.abs l r.first).2).abs (Lt.sLineM r.abs l r.first).2):=by
 obtain ⟨w,h1,h2⟩:=body_eq r l h
 refine ⟨w,?_,fun hz=>lineR_inv h (inv_line h.1 hz) (h2 hz)⟩
 unfold Lt.yLine
 rw [h1]
 unfold Lt.yRes
 by_cases hz:(Lt.sLineM r.abs l r.first).1=0
 ·rw [if_pos hz,if_pos hz]; rfl
 ·rw [if_neg hz,if_neg hz]
end Go.Am
end

section
namespace Go.Am
open Go
set_option linter.unusedVariables false
set_option linter.unusedSimpArgs false
theorem cut_ok:∀ (s:List UInt8) (k:Lt.Cut) (B:Nat),(∀ x∈k.out,x.Words≠[]/\x.Words.length<=B)->k.l.length+s.length+1<=B->∀ x∈(Lt.sSplitG s k).1,x.Words≠[]/\x.Words.length<=B
 | s,k,B=>by
  have hw:∀ k:Lt.Cut,k.word.l.length<=k.l.length+1/\k.word.out=k.out:=by
   intro k
   refine ⟨?_,rfl⟩
   unfold Lt.Cut.word
   dsimp only
   split
   ·omega
   ·simp
  have hline:∀ k:Lt.Cut,(∀ x∈k.out,x.Words≠[]/\x.Words.length<=B)->k.l.length+1<=B->∀ x∈k.line.out,x.Words≠[]/\x.Words.length<=B:=by
   intro k h hl x hx
   unfold Lt.Cut.line at hx
   dsimp only at hx
   split at hx
   ·exact h x hx
   ·rename_i hne
    rcases List.mem_append.1 hx with hx | hx
    ·exact h x hx
    ·rw [List.mem_singleton.1 hx]
     exact ⟨hne,by have:=(hw k).1; show k.word.l.length<=B; omega⟩
  have hbyte:∀ (k:Lt.Cut) (c:UInt8),(k.byte c).l.length<=k.l.length+1/\(k.byte c).out=k.out:=by
   intro k c
   unfold Lt.Cut.byte
   split
   ·exact hw k
   ·split
    ·exact hw k
    ·exact ⟨by show k.l.length<=_; omega,rfl⟩
  induction s generalizing k with
  | nil=>
   intro h hl x hx
   rw [Lt.sSplitG] at hx
   split at hx
   ·cases hx
   ·exact hline k h (by simp at hl; omega) x hx
  | cons c r ih=>
   intro h hl x hx
   have hl':k.l.length+(r.length+1)+1<=B:=hl
   rw [Lt.sSplitG] at hx
   split at hx
   ·split at hx
    ·cases hx
    ·exact ih k.line (hline k h (by omega)) (by show 0+r.length+1<=B; omega) x hx
   ·have hb:=hbyte k c
    exact ih (k.byte c) (by rw [hb.2]; exact h) (by omega) x hx
theorem split_ok (s:List UInt8):∀ x∈(Lt.sSplit s).1,x.Words≠[]/\x.Words.length<=1099511627776:=by
 intro x hx
 unfold Lt.sSplit at hx
 split at hx
 ·cases hx
 ·rename_i hc
  exact cut_ok s _ _ (by simp) (by simp; omega) x hx
end Go.Am
end

section
namespace Go.Am
open Go
set_option linter.unusedVariables false
set_option linter.unusedSimpArgs false
theorem heads_wrap {p:Lt.Program} (h1:p.Classes.length<=8) (h2:p.Globals.length<=8) (h3:p.Externs.length<=8) :
  (IntKind.i64.wrap ((IntKind.i64.wrap ((p.Classes.length:Int)+(p.Globals.length:Int)))+(p.Externs.length:Int)))=((hd p:Nat):Int):=by
 rw [wrap_i64 (n:=(p.Classes.length:Int)+_) (by omega) (by omega),wrap_i64 (by omega) (by omega)]
 unfold hd; omega
def yFin (r:Lt.Reader) (X:Except Value Unit×Lt.Reader):Except Value Unit×Lt.Reader:=match X with
 | (.ok _,x)=>(.ok (),{ x with first:=false,long:=if r.heads<x.heads then -1 else x.long })
 | (.error v,x)=>(.error v,x)
theorem yGo_ok {r:Lt.Reader} {l:List (List UInt8)} (hp:Lt.preReader r l) {KK:Unit×Lt.Reader->Prop} {KP:Value->Lt.Reader->Prop} {X:Except Value Unit×Lt.Reader}
  (hX:X=Lt.yBody r l) (h:exP (Lt.yLine r l) (fun z x=>KK (z,x)) KP):yGo r l KK KP X:=by
 obtain ⟨hinv,hne,hr⟩:=id hp
 have hi:=hinv.1
 have b1:r.p.Classes.length<=8:=hi.2.1.1
 have b2:r.p.Globals.length<=8:=typed_le (k:=8) hi.2.2.1.1
 have b3:r.p.Externs.length<=8:=hi.2.1.2.1
 obtain ⟨w,h1,h2⟩:=body_eq r l hinv
 unfold yGo
 rw [hX]
 refine fun _ _ _=>⟨hp,?_⟩
 have e:Lt.yLine r l=yFin r (Lt.yBody r l):=rfl
 rw [e] at h
 by_cases hz:(Lt.sLineM r.abs l r.first).1=0
 ·have hx:=inv_line hi hz
  have e1:Lt.yBody r l=(.ok (),⟨(Lt.sLineM r.abs l r.first).2.P,r.at_,w,r.first,(Lt.sLineM r.abs l r.first).2.Long⟩):=by
   rw [h1]; unfold Lt.yRes; rw [if_pos hz]
  rw [e1] at h ⊢
  generalize (Lt.sLineM r.abs l r.first).2=x at hx h ⊢
  have c1:x.P.Classes.length<=8:=hx.2.1.1
  have c2:x.P.Globals.length<=8:=typed_le (k:=8) hx.2.2.1.1
  have c3:x.P.Externs.length<=8:=hx.2.1.2.1
  show joinP _ _
  simp only [jn_imp,jn_ite,jn_app]
  refine fun _ _ _=>?_
  rw [heads_wrap b1 b2 b3,heads_wrap c1 c2 c3]
  refine ifk (fun c=>?_) (fun c=>?_)
  ·have c:r.heads<hd x.P:=by simp at c; exact c
   have h:KK ((),⟨x.P,r.at_,w,false,if r.heads<hd x.P then -1 else x.Long⟩):=h
   rw [if_pos c] at h; exact h
  ·have c:¬ r.heads<hd x.P:=fun e=>c (by simpa using (show hd r.p<hd x.P from e))
   have h:KK ((),⟨x.P,r.at_,w,false,if r.heads<hd x.P then -1 else x.Long⟩):=h
   rw [if_neg c] at h; exact h
 ·have e1:Lt.yBody r l=(.error (Lt.flt (Lt.sLineM r.abs l r.first).1),r):=by
   rw [h1]; unfold Lt.yRes; rw [if_neg hz]
  rw [e1] at h ⊢
  exact h
theorem yWay_ok {r:Lt.Reader} {l:List (List UInt8)} (hp:Lt.preReader r l) {KK:Unit×Lt.Reader->Prop} {KP:Value->Lt.Reader->Prop} {X:Except Value Unit×Lt.Reader}
  (hX:(if Lt.sEq l then Lt.yCode r l else X)=Lt.yBody r l) (h:exP (Lt.yLine r l) (fun z x=>KK (z,x)) KP):yWay r l KK KP X:=by
 have es:((decide (2 < (l.length:Int)))&&(decide ((l.getD 1 default)=[61])))=Lt.sEq l:=by
  unfold Lt.sEq; rw [show decide (2 < (l.length:Int))=decide (2<l.length) from decide_eq_decide.2 (by omega)]
 refine fun J3 hJ3=>?_
 have hE:=hJ3 (Lt.sEq l) ?_
 ·refine fun _=>ifk (fun hc=>⟨⟨by decide,by simp at hc; omega⟩,?_⟩) (fun hc=>?_)
  ·rw [<- es,hc,Bool.true_and] at hE; exact hE
  ·rw [<- es,Bool.eq_false_iff.2 hc,Bool.false_and] at hE; exact hE
 refine ifk (fun hs=>?_) (fun hs=>?_)
 ·rw [if_pos hs] at hX; exact yGo_ok hp hX h
 ·rw [if_neg hs] at hX; exact yGo_ok hp hX h
theorem law_yLine (r:Lt.Reader) (l:List (List UInt8)) (hp:Lt.preReader r l) (KK:Unit×Lt.Reader->Prop) (KP:Value->Lt.Reader->Prop) (h:exP (Lt.yLine r l) (fun z x=>KK (z,x)) KP):F_yLine r l KK KP:=by
 unfold F_yLine
 refine ⟨⟨by decide,List.length_pos_iff.2 hp.2.1⟩,?_⟩
 have go:∀ X,(if Lt.sEq l then Lt.yCode r l else X)=Lt.yBody r l->yWay r l KK KP X:=fun X hX=>yWay_ok hp hX h
 clear h
 unfold Lt.yBody at go
 by_cases hs:Lt.sEq l=true
 ·simp only [if_pos hs,forall_const] at go
  simp only [go,ite_self]
 ·simp only [if_neg hs] at go
  simp only [decide_eq_true_eq,show l.getD 0 default=Lt.w0 l from rfl]
  refine ifk (fun c0=>go _ (by rw [if_pos c0])) (fun c0=>?_)
  rw [if_neg c0] at go
  refine ifk (fun c1=>go _ (by rw [if_pos c1])) (fun c1=>?_)
  rw [if_neg c1] at go
  refine ifk (fun c2=>go _ (by rw [if_pos c2])) (fun c2=>?_)
  rw [if_neg c2] at go
  refine ifk (fun c3=>go _ (by rw [if_pos c3])) (fun c3=>?_)
  rw [if_neg c3] at go
  refine ifk (fun c4=>go _ (by rw [if_pos c4])) (fun c4=>?_)
  rw [if_neg c4] at go
  refine ifk (fun c5=>go _ (by rw [if_pos c5])) (fun c5=>?_)
  rw [if_neg c5] at go
  refine ifk (fun c6=>go _ (by rw [if_pos c6])) (fun c6=>?_)
  rw [if_neg c6] at go
  refine ifk (fun c7=>go _ (by rw [if_pos c7])) (fun c7=>?_)
  rw [if_neg c7] at go
  refine ifk (fun c8=>go _ (by rw [if_pos c8])) (fun c8=>?_)
  rw [if_neg c8] at go
  refine ifk (fun c9=>go _ (by rw [if_pos c9])) (fun c9=>?_)
  rw [if_neg c9] at go
  refine ifk (fun c10=>go _ (by rw [if_pos c10])) (fun c10=>?_)
  rw [if_neg c10] at go
  refine ifk (fun c11=>go _ (by rw [if_pos c11])) (fun c11=>?_)
  rw [if_neg c11] at go
  refine ifk (fun c=>go _ (by rw [if_pos (.inl c)])) (fun c12=>?_)
  refine ifk (fun c=>go _ (by rw [if_pos (.inr (.inl c))])) (fun c13=>?_)
  refine ifk (fun c=>go _ (by rw [if_pos (.inr (.inr (.inl c)))])) (fun c14=>?_)
  refine ifk (fun c=>go _ (by rw [if_pos (.inr (.inr (.inr c)))])) (fun c15=>?_)
  exact go _ (by rw [if_neg (fun hh=>hh.elim c12 (fun hh=>hh.elim c13 (fun hh=>hh.elim c14 c15)))])
theorem Sim.out {a b:Lt.Read} (h:Sim a b):a.out=b.out:=by
 rcases h with ⟨_,rfl | ⟨h1,h2,_⟩⟩
 ·rfl
 ·unfold Lt.Read.out; simp [h1,h2]
theorem sim_line {a b:Lt.Read} (h:Sim a b) (l:List (List UInt8)) (first:Bool):(Lt.sLineM a l first).1=(Lt.sLineM b l first).1/\Sim (Lt.sLineM a l first).2 (Lt.sLineM b l first).2:=by
 obtain ⟨hP,rfl | ⟨h1,h2,h3⟩⟩:=h
 ·exact ⟨rfl,rfl,.inl rfl⟩
 obtain ⟨P,w,n⟩:=a
 obtain ⟨P',w',n'⟩:=b
 have hP:P=P':=hP
 subst hP
 have h1:w<=2:=h1
 have h2:w'<=2:=h2
 have h3:w=1 ↔ w'=1:=h3
 have s:∀ p:Lt.Program,Sim ⟨p,w,n⟩ ⟨p,w',n'⟩:=fun p=>⟨rfl,.inr ⟨h1,h2,h3⟩⟩
 have oa:(⟨P,w,n⟩:Lt.Read).out=true:=by unfold Lt.Read.out; simp [h1]
 have ob:(⟨P,w',n'⟩:Lt.Read).out=true:=by unfold Lt.Read.out; simp [h2]
 have ia:(⟨P,w,n⟩:Lt.Read).ins=false:=by unfold Lt.Read.ins; simp; omega
 have ib:(⟨P,w',n'⟩:Lt.Read).ins=false:=by unfold Lt.Read.ins; simp; omega
 have w1:decide (w=1)=decide (w'=1):=decide_eq_decide.2 h3
 have d3:decide (w=3)=false:=by simp; omega
 have d3':decide (w'=3)=false:=by simp; omega
 have d4:decide (w=4)=false:=by simp; omega
 have d4':decide (w'=4)=false:=by simp; omega
 have d5:decide (w=5)=false:=by simp; omega
 have d5':decide (w'=5)=false:=by simp; omega
 have d9:decide (w=9)=false:=by simp; omega
 have d9':decide (w'=9)=false:=by simp; omega
 have hc:(Lt.sCodeM ⟨P,w,n⟩ l).1=(Lt.sCodeM ⟨P,w',n'⟩ l).1/\Sim (Lt.sCodeM ⟨P,w,n⟩ l).2 (Lt.sCodeM ⟨P,w',n'⟩ l).2:=by
  unfold Lt.sCodeM
  rw [if_pos ia,if_pos ib]
  split <;> exact ⟨rfl,s P⟩
 have hh:(Lt.sHeadM ⟨P,w,n⟩ l).1=(Lt.sHeadM ⟨P,w',n'⟩ l).1/\Sim (Lt.sHeadM ⟨P,w,n⟩ l).2 (Lt.sHeadM ⟨P,w',n'⟩ l).2:=by
  unfold Lt.sHeadM
  split
  ·unfold Lt.sClass
   simp only [oa,ob]
   split
   ·exact ⟨rfl,s P⟩
   ·split
    ·exact ⟨rfl,s P⟩
    ·exact ⟨rfl,rfl,.inr ⟨show (1:Int)<=2 by decide,show (1:Int)<=2 by decide,by simp⟩⟩
  split
  ·unfold Lt.sField
   simp only [w1]
   split
   ·exact ⟨rfl,s P⟩
   ·split
    ·exact ⟨rfl,s P⟩
    ·exact ⟨rfl,s _⟩
  split
  ·unfold Lt.sGlobal
   simp only [oa,ob]
   split
   ·exact ⟨rfl,s P⟩
   ·exact ⟨rfl,rfl,.inr ⟨show (2:Int)<=2 by decide,show (2:Int)<=2 by decide,by simp⟩⟩
  split
  ·unfold Lt.sExtern
   simp only [oa,ob]
   split
   ·exact ⟨rfl,s P⟩
   ·exact ⟨rfl,rfl,.inr ⟨show (2:Int)<=2 by decide,show (2:Int)<=2 by decide,by simp⟩⟩
  split
  ·unfold Lt.sFunc
   simp only [oa,ob]
   split
   ·exact ⟨rfl,s P⟩
   ·exact ⟨rfl,rfl,.inl rfl⟩
  ·exact ⟨rfl,s P⟩
 have hp:(Lt.sPartM ⟨P,w,n⟩ l).1=(Lt.sPartM ⟨P,w',n'⟩ l).1/\Sim (Lt.sPartM ⟨P,w,n⟩ l).2 (Lt.sPartM ⟨P,w',n'⟩ l).2:=by
  unfold Lt.sPartM
  split
  ·unfold Lt.sParam
   simp only [d3,d3',Bool.false_and,if_true]
   exact ⟨trivial,s P⟩
  split
  ·unfold Lt.sVar
   simp only [d3,d3',d4,d4',Bool.or_false,Bool.false_and,if_true]
   exact ⟨trivial,s P⟩
  split
  ·unfold Lt.sBlock
   simp only [d3,d3',d4,d4',d9,d9',Bool.or_false,Bool.false_and,if_true]
   exact ⟨trivial,s P⟩
  split
  ·unfold Lt.sPhi
   simp only [d5,d5',Bool.false_and,if_true]
   exact ⟨trivial,s P⟩
  ·exact ⟨rfl,s P⟩
 have ht:(Lt.sStateM ⟨P,w,n⟩ l).1=(Lt.sStateM ⟨P,w',n'⟩ l).1/\Sim (Lt.sStateM ⟨P,w,n⟩ l).2 (Lt.sStateM ⟨P,w',n'⟩ l).2:=by
  unfold Lt.sStateM
  rw [if_pos ia,if_pos ib]
  split <;> exact ⟨rfl,s P⟩
 unfold Lt.sLineM
 split
 ·exact hc
 split
 ·split
  ·exact ⟨rfl,s P⟩
  ·exact ⟨rfl,s _⟩
 rw [hh.1]
 split
 ·exact ⟨rfl,hh.2⟩
 rw [hp.1]
 split
 ·exact ⟨rfl,hp.2⟩
 rw [ht.1]
 split
 ·exact ⟨rfl,ht.2⟩
 ·exact hc
def c3 (n:Int):Prop:=n=0\/n=2\/n=3
theorem c3_0:c3 0:=.inl rfl
theorem c3_2:c3 2:=.inr (.inl rfl)
theorem c3_3:c3 3:=.inr (.inr rfl)
theorem c3_if (c:Prop) [Decidable c]:c3 (if c then 2 else 0):=by
 split
 ·exact c3_2
 ·exact c3_0
theorem c3_code (r:Lt.Read) (l:List (List UInt8)):c3 (Lt.sCodeM r l).1:=by
 unfold Lt.sCodeM
 split
 ·exact c3_3
 split
 ·exact c3_3
 split
 ·exact c3_3
 split
 ·exact c3_2
 ·exact c3_0
theorem c3_head (r:Lt.Read) (l:List (List UInt8)):c3 (Lt.sHeadM r l).1.2:=by
 unfold Lt.sHeadM
 split
 ·unfold Lt.sClass
  split
  ·exact c3_3
  split
  ·exact c3_2
  ·exact c3_0
 split
 ·unfold Lt.sField
  split
  ·exact c3_3
  split
  ·exact c3_2
  ·exact c3_0
 split
 ·unfold Lt.sGlobal
  split
  ·exact c3_3
  ·exact c3_if _
 split
 ·unfold Lt.sExtern
  split
  ·exact c3_3
  ·exact c3_if _
 split
 ·unfold Lt.sFunc
  split
  ·exact c3_3
  ·exact c3_if _
 ·exact c3_0
theorem c3_part (r:Lt.Read) (l:List (List UInt8)):c3 (Lt.sPartM r l).1.2:=by
 unfold Lt.sPartM
 split
 ·unfold Lt.sParam
  split
  ·exact c3_3
  ·exact c3_if _
 split
 ·unfold Lt.sVar
  split
  ·exact c3_3
  ·exact c3_if _
 split
 ·unfold Lt.sBlock
  split
  ·exact c3_3
  ·exact c3_if _
 split
 ·unfold Lt.sPhi
  split
  ·exact c3_3
  split
  ·exact c3_2
  ·exact c3_0
 ·exact c3_0
theorem c3_state (r:Lt.Read) (l:List (List UInt8)):c3 (Lt.sStateM r l).1.2:=by
 unfold Lt.sStateM
 split
 ·split
  ·exact c3_3
  split
  ·unfold Lt.sAt
   split
   ·exact c3_3
   split
   ·exact c3_2
   ·exact c3_0
  split
  ·unfold Lt.sObj
   split
   ·exact c3_3
   ·exact c3_if _
  ·unfold Lt.sEnd
   split
   ·exact c3_0
   ·exact c3_3
 ·exact c3_0
theorem line_code3 (r:Lt.Read) (l:List (List UInt8)) (b:Bool):c3 (Lt.sLineM r l b).1:=by
 unfold Lt.sLineM
 split
 ·exact c3_code r l
 split
 ·split
  ·exact c3_3
  ·exact c3_0
 split
 ·exact c3_head r l
 split
 ·exact c3_part r l
 split
 ·exact c3_state r l
 ·exact c3_code r l
theorem flt_ok (r:Lt.Read) (l:List (List UInt8)) (b:Bool):(Lit.int .i64 (Lt.sLineM r l b).1).wf=true:=by
 rcases line_code3 r l b with e | e | e <;> rw [e] <;> decide
theorem law_yParse (s:List UInt8) (KK:Lt.Program×Int×Int->Prop) (h:KK (Lt.yParse s)):F_yParse s KK:=by
 unfold F_yParse; dsimp only
 unfold Lt.yParse Lt.sParse at h
 have l1:(Lt.lSplit s).1=(Lt.sSplit s).1.map fun l=>(⟨l.N,l.Words⟩:Lt.Line):=rfl
 have l2:(Lt.lSplit s).2.1=(Lt.sSplit s).2.1:=rfl
 have l3:(Lt.lSplit s).2.2=(Lt.sSplit s).2.2:=rfl
 simp only [l1,l2,l3,jn_app,jn_and,and_self]
 refine ifk (fun hc=>?_) (fun hc=>?_)
 ·rw [if_neg (by simpa using hc)] at h; exact h
 rw [if_pos (by simpa using hc)] at h
 have hok:=split_ok s
 generalize (Lt.sSplit s).1=L at h hok
 rw [List.length_map]
 refine fun hl=>?_
 refine nat_loop _ L.length (fun i x=>∃ r d,x=((i:Int),r)/\r.inv/\Sim r.abs d/\r.first=decide (i=0)/\KK (Lt.sParseG (L.drop i) (decide (i=0)) d)) (fun R i x hi hx hR=>?_) (fun R x hx=>?_) _ ⟨_,⟨⟨false,[],[],[],[]⟩,0,0⟩,rfl,⟨?_,by decide,by decide,by decide⟩,⟨rfl,.inr ⟨by decide,by decide,by decide⟩⟩,rfl,h⟩
 ·obtain ⟨r,d,rfl,hinv,hs,hf,hk⟩:=hx
  have eg:(L.map fun l=>(⟨l.N,l.Words⟩:Lt.Line)).getD i default=⟨(L.getD i default).N,(L.getD i default).Words⟩:=by
   rw [List.getD,List.getD,List.getElem?_map,List.getElem?_eq_getElem hi]; rfl
  simp only [lt_t hi,if_true,Int.toNat_natCast,eg]
  obtain ⟨hne,hlen⟩:=hok _ (mem_getD L hi)
  rw [List.drop_eq_getElem_cons hi,show L[i]=L.getD i default by rw [List.getD,List.getElem?_eq_getElem hi]; rfl,Lt.sParseG] at hk
  generalize L.getD i default=ln at hk hne hlen ⊢
  have hinv':(⟨r.p,ln.N,r.where_,r.first,r.long⟩:Lt.Reader).inv:=hinv
  obtain ⟨w,e1,e2⟩:=line_eq _ ln.Words hinv'
  have ea:(⟨r.p,ln.N,r.where_,r.first,r.long⟩:Lt.Reader).abs=r.abs:=rfl
  rw [ea] at e1 e2
  have sl:=sim_line hs ln.Words r.first
  rw [<- hf,<- sl.1] at hk
  refine ⟨⟨Int.natCast_nonneg i,hi⟩,⟨hinv',hne,hlen⟩,?_⟩
  rw [e1]
  by_cases hz:(Lt.sLineM r.abs ln.Words r.first).1=0
  ·rw [if_pos hz]
   rw [if_pos hz] at hk
   obtain ⟨g1,g2⟩:=e2 hz
   refine hR _ ⟨_,_,by rw [wrap_succ (by omega)],g1,?_,by simp [lineR],by simpa using hk⟩
   obtain ⟨p1,p2⟩:=g2
   obtain ⟨q1,q2⟩:=sl.2
   refine ⟨p1.trans q1,?_⟩
   rcases p2 with p2 | ⟨a1,a2,a3⟩
   ·rw [p2]; exact q2
   ·rcases q2 with q2 | ⟨b1,b2,b3⟩
    ·rw [<- q2]; exact .inr ⟨a1,a2,a3⟩
    ·exact .inr ⟨a1,b2,a3.trans b3⟩
  ·rw [if_neg hz]
   rw [if_neg hz] at hk
   exact ⟨_,rfl,flt_ok _ _ _,hk⟩
 ·obtain ⟨r,d,rfl,hinv,hs,hf,hk⟩:=hx
  rw [List.drop_length,Lt.sParseG] at hk
  simp only [lt_f,Bool.false_eq_true,if_false]
  rw [has_01 hinv.2.1,hs.out]
  cases ho:d.out with
  | true=>rw [ho,<- hs.1] at hk; exact hk
  | false=>rw [ho] at hk; exact ⟨3,rfl,by decide,hk⟩
 ·exact ⟨⟨by decide,by decide⟩,⟨by decide,by decide,by decide⟩,⟨rfl,rfl,rfl⟩,fun h=>absurd h (by decide),fun _=>rfl,fun h=>absurd h (by decide)⟩
end Go.Am
end

section
namespace Go.Am
open Go
set_option linter.unusedVariables false
set_option linter.unusedSimpArgs false
theorem wrap_inR (n:Int):Lt.inR (IntKind.i64.wrap n):=half_inR n
def numF (n:Int) (c:UInt8):Int:=IntKind.i64.wrap ((IntKind.i64.wrap (n*10)) - (IntKind.i64.wrap (((UInt8.ofNat (IntKind.u8.wrap (((c.toNat:Nat):Int) - (((48:UInt8).toNat:Nat):Int))).toNat).toNat:Nat):Int)))
def isDig (c:UInt8):Bool:=decide (48<=c.toNat)&&decide (c.toNat<=57)
theorem numF_eq {m:Nat} {c:UInt8} (h1:48<=c.toNat) (h2:c.toNat<=57) (h3:10*m+(c.toNat - 48)<=9223372036854775808):numF (-(m:Int)) c=-((10*m+(c.toNat - 48):Nat):Int):=by
 unfold numF
 have e1:IntKind.u8.wrap (((c.toNat:Nat):Int) - (((48:UInt8).toNat:Nat):Int))=((c.toNat - 48:Nat):Int):=by
  have:(48:UInt8).toNat=48:=rfl
  rw [this]
  simp only [IntKind.wrap,IntKind.signed,IntKind.bits]
  simp
  omega
 rw [e1,Int.toNat_natCast]
 have e2:(UInt8.ofNat (c.toNat - 48)).toNat=c.toNat - 48:=by simp; omega
 rw [e2,wrap_i64 (n:=-(m:Int)*10) (by omega) (by omega),wrap_i64 (n:=((c.toNat - 48:Nat):Int)) (by omega) (by omega),wrap_i64 (by omega) (by omega)]
 omega
theorem digs_foldF:∀ (n:Nat),n<=9223372036854775808->(Lt.digs n).foldl numF 0=-(n:Int):=by
 intro n
 induction n using Nat.strongRecOn with
 | _ n ih=>
  intro hn
  have hd:∀ k:Nat,k < 10->(UInt8.ofNat (48+k)).toNat=48+k:=fun k hk=>by simp; omega
  by_cases h:n < 10
  ·rw [digs_small h]
   show numF (-((0:Nat):Int)) _=_
   rw [numF_eq (by rw [hd n h]; omega) (by rw [hd n h]; omega) (by rw [hd n h]; omega),hd n h]; omega
  ·rw [digs_big h,foldl_snoc,ih (n / 10) (by omega) (by omega)]
   have:=Nat.mod_lt n (show 10 > 0 by decide)
   rw [numF_eq (by rw [hd _ this]; omega) (by rw [hd _ this]; omega) (by rw [hd _ this]; omega),hd _ this]; omega
theorem foldF_inR:∀ (l:List UInt8) (b:Int),Lt.inR b->Lt.inR (l.foldl numF b)
 | [],b,h=>h
 | c::l,b,h=>foldF_inR l _ (wrap_inR _)
theorem sNum_no {s:List UInt8} (h:∀ n,Lt.inR n->Lt.numPut n≠s):Lt.sNum s=(0,false):=by
 unfold Lt.sNum
 rw [if_neg]
 exact h _ (half_inR _)
theorem num_shape {n:Int} (h:Lt.inR n) {s:List UInt8} (e:Lt.numPut n=s):s≠[]/\s.length<=20 /\
  (∀ a:Nat,(if decide (s.getD 0 0=45)=true then (1:Int) else 0)=(a:Int)->(s.drop a).all isDig=true/\(if decide ((a:Int)=0)=true then IntKind.i64.wrap (0 - (s.drop a).foldl numF 0) else (s.drop a).foldl numF 0)=n):=by
 have hl:=numPut_len h
 have hne:=digs_ne n.natAbs
 have hdd:=digs_digit n.natAbs
 unfold Lt.inR at h
 have hf:=digs_foldF n.natAbs (by omega)
 have ha:(Lt.digs n.natAbs).all isDig=true:=by
  rw [List.all_eq_true]
  intro c hc
  have:=hdd c hc
  unfold isDig; simp [this]
 refine ⟨by rw [<- e]; exact numPut_ne n,by rw [<- e]; omega,fun a hA=>?_⟩
 by_cases hn:n < 0
 ·have e1:s=45::Lt.digs n.natAbs:=by rw [<- e]; unfold Lt.numPut; rw [if_pos hn]; rfl
  rw [e1] at hA ⊢
  have:a=1:=by
   rw [if_pos (by simp)] at hA; omega
  subst this
  refine ⟨ha,?_⟩
  rw [if_neg (by decide),List.drop_succ_cons,List.drop_zero,hf]
  omega
 ·have e1:s=Lt.digs n.natAbs:=by rw [<- e]; unfold Lt.numPut; rw [if_neg hn]; rfl
  have h45:¬ s.getD 0 0=45:=by
   intro e2
   rw [e1] at e2
   cases hh:Lt.digs n.natAbs with
   | nil=>exact hne hh
   | cons b r=>
    rw [hh] at e2 hdd
    have:=hdd b (by simp)
    have e2:b=45:=e2
    subst e2
    simp at this
  have:a=0:=by
   rw [if_neg (by simpa using h45)] at hA; omega
  subst this
  rw [List.drop_zero,e1]
  refine ⟨ha,?_⟩
  rw [if_pos (by decide),hf,wrap_i64 (by omega) (by omega)]
  omega
theorem dec_byte (c d:UInt8):decide ((((c.toNat:Nat):Int))=((d.toNat:Nat):Int))=decide (c=d):=by
 by_cases hc:c=d
 ·subst hc; simp
 ·have:c.toNat≠d.toNat:=fun e=>hc (UInt8.toNat_inj.1 e)
  simp only [hc,decide_false,decide_eq_false_iff_not]; omega
theorem law_numGet (s:List UInt8) (KK:Int×Bool->Prop) (h:KK (Lt.numGet s)):F_numGet s KK:=by
 unfold F_numGet
 unfold Lt.numGet at h
 have no:(∀ n,Lt.inR n->Lt.numPut n≠s)->KK (0,false):=fun hn=>by rw [sNum_no hn] at h; exact h
 simp only [dec_byte,jn_app,jn_and,jn_ite,jval,bor]
 refine ifk (fun hc=>no (fun n hn e=>?_)) (fun hc=>?_)
 ·obtain ⟨h1,h2,_⟩:=num_shape hn e
  simp only [Bool.or_eq_true,decide_eq_true_eq] at hc
  rcases hc with hc | hc
  ·exact h1 hc
  ·omega
 simp only [Bool.or_eq_true,decide_eq_true_eq,not_or] at hc
 have h0:0<s.length:=List.length_pos_iff.2 hc.1
 refine ⟨⟨by decide,h0⟩,?_⟩
 obtain ⟨a,hA,ha⟩:∃ a:Nat,(if decide (s.getD 0 0=45)=true then (1:Int) else 0)=(a:Int)/\a<=1:=by
  by_cases h45:s.getD 0 0=45
  ·exact ⟨1,by simp only [h45,decide_true,if_true]; rfl,Nat.le_refl _⟩
  ·exact ⟨0,by simp only [h45,decide_false,Bool.false_eq_true,if_false]; rfl,by decide⟩
 have shape:∀ n,Lt.inR n->Lt.numPut n=s->(s.drop a).all isDig=true/\(if decide ((a:Int)=0)=true then IntKind.i64.wrap (0 - (s.drop a).foldl numF 0) else (s.drop a).foldl numF 0)=n:=fun n hn e=>(num_shape hn e).2.2 a hA
 rw [hA]
 refine nat_loop _ (s.length-a) (fun i x=>x=((((s.drop a).take i).foldl numF 0),((a+i:Nat):Int))/\((s.drop a).take i).all isDig=true) (fun R i x hi hx hR=>?_) (fun R x hx=>?_) _ ⟨rfl,rfl⟩
 ·obtain ⟨rfl,hall⟩:=hx
  have hlt:a+i<s.length:=by omega
  have hlt2:i < (s.drop a).length:=by rw [List.length_drop]; omega
  have eg:(s.drop a).getD i default=s.getD (a+i) 0:=by rw [List.getD,List.getElem?_drop]; rfl
  have et:=take_snoc (s.drop a) hlt2
  rw [eg] at et
  simp only [lt_t hlt,if_true,Int.toNat_natCast]
  have bad:¬ isDig (s.getD (a+i) 0)=true->KK (0,false):=fun hd=>no (fun n hn e=>by
   have:=(shape n hn e).1
   rw [<- List.take_append_drop (i+1) (s.drop a),et] at this
   simp only [List.all_append,List.all_cons,Bool.and_eq_true] at this
   exact hd this.1.2.1)
  have e48:(48:UInt8).toNat=48:=rfl
  have e57:(57:UInt8).toNat=57:=rfl
  refine fun _=>⟨⟨by omega,hlt⟩,?_⟩
  refine ifk (fun c1=>bad ?_) (fun c1=>⟨⟨by omega,hlt⟩,ifk (fun c2=>bad ?_) (fun c2=>⟨⟨by omega,hlt⟩,hR _ ⟨?_,?_⟩⟩)⟩)
  ·rw [e48] at c1
   unfold isDig; simp at c1 ⊢; omega
  ·rw [e57] at c2
   unfold isDig; simp at c2 ⊢; omega
  ·rw [et,foldl_snoc,wrap_succ (by omega)]; rfl
  ·rw [e48] at c1; rw [e57] at c2
   rw [et,List.all_append,hall]
   simp at c1 c2
   unfold isDig; simp; omega
 ·obtain ⟨rfl,hall⟩:=hx
  have e1:a+(s.length-a)=s.length:=by omega
  have e2:(s.drop a).take (s.length-a)=s.drop a:=List.take_of_length_le (by rw [List.length_drop]; omega)
  rw [e2] at hall
  rw [e1,e2]
  simp only [lt_f,Bool.false_eq_true,if_false]
  refine fun _=>?_
  have hin:Lt.inR (if decide ((a:Int)=0)=true then IntKind.i64.wrap (0 - (s.drop a).foldl numF 0) else (s.drop a).foldl numF 0):=by
   split
   ·exact wrap_inR _
   ·exact foldF_inR _ _ (by unfold Lt.inR; omega)
  generalize hv:(if decide ((a:Int)=0)=true then IntKind.i64.wrap (0 - (s.drop a).foldl numF 0) else (s.drop a).foldl numF 0)=v at hin shape ⊢
  refine ⟨hin,?_⟩
  by_cases hc:(!decide (Lt.numPut v=s))=true
  ·rw [if_pos hc]
   refine no (fun n hn e=>?_)
   have:=(shape n hn e).2
   subst this
   simp [e] at hc
  ·rw [if_neg hc]
   have e:Lt.numPut v=s:=by simpa using hc
   rw [<- e,sNum_put hin] at h
   exact h
def hexL:List UInt8:=[48,49,50,51,52,53,54,55,56,57,97,98,99,100,101,102]
theorem idx_ok (c:UInt8):Lt.gIndex hexL c < 0\/(0<=Lt.gIndex hexL c/\Lt.gIndex hexL c < 16/\hexN (Lt.gIndex hexL c).toNat=c):=by
 have:∀ k:Fin 256,Lt.gIndex hexL (UInt8.ofNat k.1) < 0\/(0<=Lt.gIndex hexL (UInt8.ofNat k.1)/\Lt.gIndex hexL (UInt8.ofNat k.1) < 16/\hexN (Lt.gIndex hexL (UInt8.ofNat k.1)).toNat=UInt8.ofNat k.1):=by decide +kernel
 have h:=this ⟨c.toNat,c.toNat_lt⟩
 rw [UInt8.ofNat_toNat] at h
 exact h
theorem idx_hex (k:Nat):¬ Lt.gIndex hexL (hexN k) < 0:=by
 have:∀ j:Fin 16,¬ Lt.gIndex hexL (hexN j.1) < 0:=by decide +kernel
 have h:=this ⟨k % 16,Nat.mod_lt _ (by decide)⟩
 have e:hexN (k % 16)=hexN k:=by unfold hexN; rw [Nat.mod_mod]
 rw [<- e]; exact h
theorem shl_or {u d:Nat} (hu:u < 1152921504606846976) (hd:d < 16) :
  (IntKind.u64.wrap ((BitVec.ofInt IntKind.u64.bits (IntKind.u64.wrap ((u:Int)*2 ^ (min (4:Int).toNat IntKind.u64.bits))) ||| BitVec.ofInt IntKind.u64.bits (IntKind.u64.wrap (d:Int))).toNat:Nat))=((16*u+d:Nat):Int):=by
 have e1:(u:Int)*2 ^ (min (4:Int).toNat IntKind.u64.bits)=((u*16:Nat):Int):=by
  have:min (4:Int).toNat IntKind.u64.bits=4:=by decide
  rw [this]; omega
 have w1:IntKind.u64.wrap ((u*16:Nat):Int)=((u*16:Nat):Int):=wrapu_small (by omega)
 have w2:IntKind.u64.wrap ((d:Nat):Int)=((d:Nat):Int):=wrapu_small (by omega)
 rw [e1,w1,w2]
 show IntKind.u64.wrap (((BitVec.ofInt 64 ((u*16:Nat):Int) ||| BitVec.ofInt 64 ((d:Nat):Int)).toNat:Nat):Int)=_
 have e2:∀ n:Nat,BitVec.ofInt 64 ((n:Nat):Int)=BitVec.ofNat 64 n:=fun n=>BitVec.ofInt_natCast ..
 rw [e2,e2,BitVec.toNat_or,BitVec.toNat_ofNat,BitVec.toNat_ofNat,Nat.mod_eq_of_lt (by omega),Nat.mod_eq_of_lt (by omega)]
 have e3:u*16 ||| d=16*u+d:=by
  have:=Nat.shiftLeft_add_eq_or_of_lt (i:=4) (b:=d) (by omega) u
  rw [Nat.shiftLeft_eq] at this
  rw [show u*16=u*2 ^ 4 from rfl,<- this]; omega
 rw [e3,wrapu_small (by omega)]
theorem sFlo_no {s:List UInt8} (h:∀ n,Lt.inR n->Lt.rFlo n≠s):Lt.sFlo s=(0,false):=by
 unfold Lt.sFlo
 rw [if_neg]
 exact fun hc=>h _ (wrap_inR _) hc.2
theorem hexR_inj {a b:Nat} (ha:a < 18446744073709551616) (hb:b < 18446744073709551616) (h:Lt.hexR 16 (a:Int) []=Lt.hexR 16 (b:Int) []):a=b:=by
 have e1:=hexR_fold 16 a [] ha (by omega)
 have e2:=hexR_fold 16 b [] hb (by omega)
 rw [h,e2] at e1
 have h16:(16:Nat) ^ 16=18446744073709551616:=by decide
 rw [h16,Nat.mod_eq_of_lt ha,Nat.mod_eq_of_lt hb] at e1
 simp only [List.foldl_nil] at e1
 omega
theorem law_floGet (s:List UInt8) (KK:Int×Bool->Prop) (h:KK (Lt.floGet s)):F_floGet s KK:=by
 unfold F_floGet
 unfold Lt.floGet at h
 have no:(∀ n,Lt.inR n->Lt.rFlo n≠s)->KK (0,false):=fun hn=>by rw [sFlo_no hn] at h; exact h
 have pre:∀ n,Lt.rFlo n=s->Lt.gCutP s [48,102]=(Lt.hexR 16 (IntKind.u64.wrap (Lt.rPlain n)) [],true):=by
  intro n e
  rw [<- e]; rfl
 have hexs:∀ n,(Lt.hexR 16 (IntKind.u64.wrap (Lt.rPlain n)) []).length=16/\∀ c∈Lt.hexR 16 (IntKind.u64.wrap (Lt.rPlain n)) [],¬ Lt.gIndex hexL c < 0:=by
  intro n
  refine ⟨by rw [hexR_len]; rfl,?_⟩
  rw [wrapu_eq,hexR_eq 16 _ [] (BitVec.isLt _)]
  intro c hc
  rw [List.append_nil] at hc
  obtain ⟨i,_,rfl⟩:=List.mem_map.1 hc
  exact idx_hex _
 have hp:(Lt.gCutP s [48,102]).2=true->s=[48,102]++(Lt.gCutP s [48,102]).1:=by
  unfold Lt.gCutP Go.Lib.trimPrefix
  intro hp
  have hp:Go.Lib.hasPrefix s [48,102]=true:=hp
  rw [if_pos hp]
  obtain ⟨t,ht⟩:=List.isPrefixOf_iff_prefix.1 hp
  rw [<- ht]; rfl
 change F_floGet s KK
 unfold F_floGet
 rw [show ([48,49,50,51,52,53,54,55,56,57,97,98,99,100,101,102]:List UInt8)=hexL from rfl]
 generalize Lt.gCutP s [48,102]=cp at pre hp ⊢
 obtain ⟨rest,ok⟩:=cp
 simp only at hp ⊢
 simp only [jn_app,jn_and,jn_ite,jval,bor]
 refine ifk (fun hc=>no (fun n hn e=>?_)) (fun hc=>?_)
 ·have hpe:=pre n e
  simp only [Prod.mk.injEq] at hpe
  rw [hpe.1,hpe.2,(hexs n).1] at hc
  simp at hc
 simp only [Bool.or_eq_true,Bool.not_eq_true',decide_eq_false_iff_not,not_or,Decidable.not_not,Bool.not_eq_false] at hc
 have hs:=hp hc.1
 have h16:rest.length=16:=by omega
 refine fun _=>?_
 refine nat_loop _ 16 (fun i x=>∃ u:Nat,x=((u:Int),(i:Int))/\u < 16 ^ i/\∀ l,Lt.hexR i (u:Int) l=rest.take i++l) (fun R i x hi hx hR=>?_) (fun R x hx=>?_) _ ⟨0,rfl,by decide,fun l=>rfl⟩
 ·obtain ⟨u,rfl,hu,hl⟩:=hx
  have hlt:i<rest.length:=by omega
  have et:rest.take (i+1)=rest.take i++[rest.getD i 0]:=take_snoc rest hlt
  have hm:rest.getD i 0∈rest:=mem_getD rest hlt
  simp only [lt_t hlt,if_true,Int.toNat_natCast]
  refine ⟨⟨Int.natCast_nonneg i,hlt⟩,ifk (fun hc1=>no (fun n hn e=>?_)) (fun hc1=>⟨by decide,hR _ ?_⟩)⟩
  ·have hpe:=pre n e
   simp only [Prod.mk.injEq] at hpe
   have hm':rest.getD i 0∈Lt.hexR 16 (IntKind.u64.wrap (Lt.rPlain n)) []:=by rw [<- hpe.1]; exact hm
   exact (hexs n).2 _ hm' (by simpa using hc1)
  ·rcases idx_ok (rest.getD i 0) with hneg | ⟨d0,d16,hd⟩
   ·exact absurd (decide_eq_true hneg) hc1
   have hp15:16 ^ i<=16 ^ 15:=Nat.pow_le_pow_right (by decide) (by omega)
   have h15:(16:Nat) ^ 15=1152921504606846976:=by decide
   obtain ⟨d,hdd⟩:=Int.eq_ofNat_of_zero_le d0
   rw [hdd] at hd d16 ⊢
   rw [Int.toNat_natCast] at hd
   refine ⟨16*u+d,?_,?_,fun l=>?_⟩
   ·rw [shl_or (by omega) (by omega),wrap_succ (by omega)]
   ·rw [Nat.pow_succ]; omega
   ·rw [Lt.hexR,show Int.tdiv ((16*u+d:Nat):Int) 16=(((16*u+d) / 16:Nat):Int) from rfl,show (16*u+d) / 16=u by omega,wrapu_small (by omega),hl,hexB_eq]
    have:hexN (16*u+d)=hexN d:=by unfold hexN; congr 1; omega
    rw [this,hd,et]; simp
 ·obtain ⟨u,rfl,hu,hl⟩:=hx
  have e16:(16:Nat) ^ 16=18446744073709551616:=by decide
  have hu:u < 18446744073709551616:=by omega
  have hr:=hl []
  rw [List.append_nil,List.take_of_length_le (by omega)] at hr
  have ew:IntKind.u64.wrap (IntKind.i64.wrap (u:Int))=(u:Int):=by
   simp only [IntKind.wrap,IntKind.signed,IntKind.bits]
   simp
   omega
  have e2:∀ n:Int,Lt.inR n->IntKind.i64.wrap (IntKind.u64.wrap n)=n:=by
   intro n hn
   unfold Lt.inR at hn
   simp only [IntKind.wrap,IntKind.signed,IntKind.bits]
   simp
   omega
  rw [show decide (((16:Nat):Int) < (rest.length:Int))=false by simp; omega]
  simp only [Bool.false_eq_true,if_false]
  by_cases hc1:(!decide (Lt.Plain (IntKind.i64.wrap (u:Int))=IntKind.i64.wrap (u:Int)))=true
  ·rw [if_pos hc1]
   refine no (fun n hn e=>?_)
   have hpe:=pre n e
   simp only [Prod.mk.injEq] at hpe
   have h1:=hpe.1
   rw [<- hr,wrapu_eq] at h1
   have h2:=hexR_inj hu (BitVec.isLt _) h1
   have h3:IntKind.i64.wrap (u:Int)=Lt.rPlain n:=by
    rw [h2,<- wrapu_eq,e2 _ (plain_inR hn)]
   have h4:Lt.rPlain (Lt.rPlain n)=Lt.rPlain n:=by
    unfold Lt.rPlain
    by_cases h:Lt.rIsNan n=true
    ·rw [if_pos h]; simp
    ·rw [if_neg h,if_neg h]
   rw [h3,<- plain_eq,h4] at hc1
   simp at hc1
  ·rw [if_neg hc1]
   have hpl:Lt.Plain (IntKind.i64.wrap (u:Int))=IntKind.i64.wrap (u:Int):=by simpa using hc1
   have e:Lt.rFlo (IntKind.i64.wrap (u:Int))=s:=by
    unfold Lt.rFlo
    rw [plain_eq,hpl,ew,hr,hs]
   rw [<- e,sFlo_put (wrap_inR _),plain_eq,hpl] at h
   exact h
theorem sNum_byte {s:List UInt8} (h:(Lt.sNum s).2=true):s≠[]/\∀ c∈s,c=45\/(48<=c.toNat/\c.toNat<=57):=by
 have e:=sNum_back h
 exact ⟨by rw [<- e]; exact numPut_ne _,by rw [<- e]; exact numPut_byte _⟩
theorem sNum_inR {s:List UInt8}:Lt.inR (Lt.sNum s).1:=by
 unfold Lt.sNum
 split
 ·exact half_inR _
 ·unfold Lt.inR; omega
theorem sFlo_back {s:List UInt8} (h:(Lt.sFlo s).2=true):(∃ r,s=48::102::r)/\Lt.Plain (Lt.sFlo s).1=(Lt.sFlo s).1/\Lt.floPut (Lt.sFlo s).1=s:=by
 unfold Lt.sFlo at h ⊢
 split at h
 ·rename_i hc
  rw [if_pos hc]
  have e:=sFlo_put (n:=Lt.sFloV s) (wrap_inR _)
  rw [hc.2] at e
  unfold Lt.sFlo at e
  rw [if_pos hc] at e
  simp only [Prod.mk.injEq,and_true] at e
  refine ⟨⟨_,by rw [<- hc.2]; rfl⟩,by rw [<- plain_eq]; exact e.symm,?_⟩
  rw [<- flo_eq]; exact hc.2
 ·cases h
theorem sFlo_inR {s:List UInt8}:Lt.inR (Lt.sFlo s).1:=by
 unfold Lt.sFlo
 split
 ·exact wrap_inR _
 ·unfold Lt.inR; omega
theorem right5 {n:Int}:Lt.wordRight ⟨5,[],n⟩=true ↔ 0<=n/\n<=999:=by
 unfold Lt.wordRight; simp
theorem sArg_eq (s:List UInt8):Lt.sArg s=if Lt.Name s=true then (⟨1,s,0⟩,true) else if (Lt.sNum s).2=true then (⟨2,[],(Lt.sNum s).1⟩,true) else if (Lt.sFlo s).2=true then (⟨3,[],(Lt.sFlo s).1⟩,true)
  else if s=[110,117,108,108] then (⟨4,[],0⟩,true) else if s.getD 0 0=35/\(Lt.sNum (s.drop 1)).2=true/\0<=(Lt.sNum (s.drop 1)).1/\(Lt.sNum (s.drop 1)).1<=999 then (⟨5,[],(Lt.sNum (s.drop 1)).1⟩,true) else (⟨0,[],0⟩,false):=by
 unfold Lt.sArg
 rw [try1]
 have t2:Lt.sTry s ⟨2,[],(Lt.sNum s).1⟩=(Lt.sNum s).2:=by
  rw [Bool.eq_iff_iff,sTry_iff,word2]
  constructor
  ·intro ⟨_,e⟩
   have:=sNum_put (n:=(Lt.sNum s).1) sNum_inR
   rw [e] at this
   rw [this]
  ·intro h
   exact ⟨rfl,sNum_back h⟩
 have t3:Lt.sTry s ⟨3,[],(Lt.sFlo s).1⟩=(Lt.sFlo s).2:=by
  rw [Bool.eq_iff_iff,sTry_iff]
  constructor
  ·intro ⟨hr,e⟩
   have hp:Lt.Plain (Lt.sFlo s).1=(Lt.sFlo s).1:=by unfold Lt.wordRight at hr; simpa using hr
   rw [word3 hp,<- flo_eq] at e
   have:=sFlo_put (n:=(Lt.sFlo s).1) sFlo_inR
   rw [e] at this
   rw [this]
  ·intro h
   obtain ⟨_,hp,e⟩:=sFlo_back h
   exact ⟨by unfold Lt.wordRight; simp [hp],by rw [word3 hp]; exact e⟩
 have t4:Lt.sTry s ⟨4,[],0⟩=decide (s=[110,117,108,108]):=by
  rw [Bool.eq_iff_iff,sTry_iff,word4,decide_eq_true_eq]
  exact ⟨fun h=>h.2.symm,fun h=>⟨rfl,h.symm⟩⟩
 have t5:Lt.sTry s ⟨5,[],(Lt.sNum (s.drop 1)).1⟩=decide (s.getD 0 0=35/\(Lt.sNum (s.drop 1)).2=true/\0<=(Lt.sNum (s.drop 1)).1/\(Lt.sNum (s.drop 1)).1<=999):=by
  rw [Bool.eq_iff_iff,sTry_iff,decide_eq_true_eq]
  constructor
  ·intro ⟨hr,e⟩
   have hb:0<=(Lt.sNum (s.drop 1)).1/\(Lt.sNum (s.drop 1)).1<=999:=right5.1 hr
   rw [word5 hb.1 hb.2] at e
   have e1:s.drop 1=Lt.numPut (Lt.sNum (s.drop 1)).1:=(congrArg (List.drop 1) e).symm
   have:=sNum_put (n:=(Lt.sNum (s.drop 1)).1) sNum_inR
   rw [<- e1] at this
   exact ⟨(congrArg (fun s=>List.getD s 0 0) e).symm,by rw [this],hb⟩
  ·intro ⟨h1,h2,h3,h4⟩
   refine ⟨right5.2 ⟨h3,h4⟩,?_⟩
   rw [word5 h3 h4,sNum_back h2]
   cases s with
   | nil=>simp at h1
   | cons a r=>
    have h1:a=35:=h1
    rw [h1]; rfl
 rw [t2,t3,t4,t5]
 simp only [decide_eq_true_eq]
theorem law_wordGet (s:List UInt8) (KK:Lt.Arg×Bool->Prop) (h:KK (Lt.wordGet s)):F_wordGet s KK:=by
 unfold F_wordGet
 unfold Lt.wordGet at h
 rw [sArg_eq] at h
 have ed:(s.drop 1).take (s.length - 1)=s.drop 1:=List.take_of_length_le (by rw [List.length_drop]; omega)
 have hnum:(Lt.sNum s).2=true->∃ a r,s=a::r/\(a=45\/(48<=a.toNat/\a.toNat<=57))/\∀ c∈r,c=45\/(48<=c.toNat/\c.toNat<=57):=by
  intro hn
  obtain ⟨h1,h2⟩:=sNum_byte hn
  cases s with
  | nil=>exact absurd rfl h1
  | cons a r=>exact ⟨a,r,rfl,h2 a (by simp),fun c hc=>h2 c (by simp [hc])⟩
 rw [ed]
 unfold Lt.numGet
 simp only [dec_byte]
 refine ifk (fun c1=>?_) (fun c1=>ifk (fun c2=>?_) (fun c2=>ifk (fun c3=>?_) (fun c3=>?_)))
 ·have c1:s=[]:=by simpa using c1
  subst c1
  exact kk h (by decide +kernel)
 ·have c2:s=[110,117,108,108]:=by simpa using c2
  subst c2
  exact kk h (by decide +kernel)
 ·rw [if_pos c3] at h; exact h
 have c1:s≠[]:=by simpa using c1
 have c2:¬ s=[110,117,108,108]:=by simpa using c2
 rw [if_neg c3,if_neg c2] at h
 refine ⟨⟨by decide,List.length_pos_iff.2 c1⟩,ifk (fun c4=>⟨by decide,⟨by have:=List.length_pos_iff.2 c1; omega,Nat.le_refl _⟩,?_⟩) (fun c4=>?_)⟩
 ·have c4:s.getD 0 0=35:=by simpa using c4
  have n1:¬ (Lt.sNum s).2=true:=by
   intro hn
   obtain ⟨a,r,rfl,ha,_⟩:=hnum hn
   have c4:a=35:=c4
   subst c4
   rcases ha with ha | ha
   ·exact absurd ha (by decide)
   ·exact absurd ha.1 (by decide)
  have n2:¬ (Lt.sFlo s).2=true:=by
   intro hn
   obtain ⟨⟨r,rfl⟩,_⟩:=sFlo_back hn
   exact absurd c4 (by show ¬ (48:UInt8)=35; decide)
  rw [if_neg n1,if_neg n2] at h
  simp only [jn_app,jn_ite,jval,bor]
  generalize Lt.sNum (s.drop 1)=x at h ⊢
  obtain ⟨n,ok⟩:=x
  by_cases hc:(!ok||(decide (n < 0)||decide (999<n)))=true
  ·rw [if_pos hc]
   rw [if_neg] at h
   ·exact h
   ·intro ⟨_,h2,h3,h4⟩
    simp only at h2 h3 h4
    simp [h2] at hc
    omega
  ·rw [if_neg hc]
   rw [if_pos] at h
   ·exact h
   ·simp only [Bool.or_eq_true,Bool.not_eq_true',decide_eq_true_eq,not_or,Bool.not_eq_false] at hc
    exact ⟨c4,hc.1,by simp only; omega,by simp only; omega⟩
 ·have c4:¬ s.getD 0 0=35:=by simpa using c4
  refine kk h ?_
  unfold Lt.wordNumber
  have n5:¬ (s.getD 0 0=35/\(Lt.sNum (s.drop 1)).2=true/\0<=(Lt.sNum (s.drop 1)).1/\(Lt.sNum (s.drop 1)).1<=999):=fun hh=>c4 hh.1
  by_cases n1:(Lt.sNum s).2=true
  ·have n2:¬ (Lt.sFlo s).2=true:=by
    intro hn
    obtain ⟨⟨r,e⟩,_⟩:=sFlo_back hn
    obtain ⟨a,r',e2,_,hall⟩:=hnum n1
    rw [e] at e2
    have:(102:UInt8)∈r':=by
     simp only [List.cons.injEq] at e2
     rw [<- e2.2]; simp
    rcases hall _ this with hh | hh
    ·exact absurd hh (by decide)
    ·exact absurd hh.2 (by decide)
   rw [if_pos n1,if_neg n2,if_pos n1]
  ·rw [if_neg n1,if_neg n5,if_neg n1]
end Go.Am
end
