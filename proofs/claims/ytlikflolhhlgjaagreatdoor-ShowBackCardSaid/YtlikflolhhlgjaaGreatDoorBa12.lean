/-
  Part 12: AmR1 · AmN10 · AmN11 · AmR2 · AmR3 · AmY1 · AmY2 · AmY3 · AmY4 · AmY5 · AmY6 · AmY7 · AmR4.
-/
import Derived.Test.YtlikflolhhlgjaaGreatDoorBa11
set_option linter.unusedSimpArgs false
set_option linter.unusedVariables false
set_option linter.unusedSectionVars false
set_option linter.unnecessarySimpa false
section
namespace Go.Am
open Go
theorem ET {α:Type} (p:α->Bool) (d:α):∀ l:List α,((List.range l.length).all fun i=>p (l.getD i d))=l.all p
 | []=>rfl
 | a::r=>by
  rw [adF,List.range_succ_eq_map,adQ,agB];have:=ET p d r
  simp only [adQ,Function.comp_def,aeX,afT];rw [this]
theorem E6 (i:Nat) (c:UInt8):Lt.Im i c=(Lt.letter c||(Lt.fW c&&decide (0<i))):=by
 unfold Lt.Im Lt.letter Lt.tZ Lt.fW;rw [afI];simp;omega
theorem aR (s:List UInt8):Lt.bV s=Lt.Name s:=by
 unfold Lt.bV Lt.Name Lt.kept;cases s with
 | nil=>rfl
 | cons a r=>
  rw [adF,List.range_succ_eq_map,adQ,agB];have e:((List.range r.length).all ((fun i=>Lt.Im i ((a::r).getD i 0)) ∘ Nat.succ))=r.all Lt.g6:=by
   rw [<- ET Lt.g6 0 r]
   congr 1; funext i
   simp [E6,Lt.g6]
  have e16:decide (((r.length+1:Nat):Int)<=16)=decide (r.length+1<=16):=decide_eq_decide.2 (by omega)
  have e1:decide (1<=((r.length+1:Nat):Int))=true:=by simp; omega
  rw [e,E6,e16,e1];simp only [adQ,aeX,Lt.g6,afL,decide_false,Bool.and_false,afK,reduceCtorEq,ag4,aeE];cases Lt.letter a <;> cases Lt.fW a <;> cases r.all (fun c=>Lt.letter c||Lt.fW c) <;> simp
  all_goals grind
theorem T9 (x:Nat):(9218868437227405312<x % 9223372036854775808) ↔ ((x &&& 9218868437227405312)=9218868437227405312/\(x &&& 4503599627370495)≠0):=by
 have e1:x &&& 4503599627370495=x % 2 ^ 52:=afP x 52
 have e2:x &&& 9223372036854775807=x % 2 ^ 63:=afP x 63
 have e3:(x &&& 9218868437227405312) % 2 ^ 52=0:=by
  rw [<- afP,Nat.and_assoc];have:(9218868437227405312 &&& (2 ^ 52 - 1):Nat)=0:=by decide
  rw [this,Nat.and_zero]
 have e4:x &&& 9223372036854775807=(x &&& 9218868437227405312) ||| (x &&& 4503599627370495):=by
  rw [<- Nat.and_or_distrib_left];have:(9218868437227405312 ||| 4503599627370495:Nat)=9223372036854775807:=by decide
  rw [this]
 obtain ⟨q,hq⟩:∃ q,x &&& 9218868437227405312=2 ^ 52*q:=⟨_,(Nat.mul_div_cancel' (Nat.dvd_of_mod_eq_zero e3)).symm⟩
 have h:=agU (n:=x) (m:=9218868437227405312)
 rw [hq,e1,<- Nat.two_pow_add_eq_or_of_lt (afO _ (by decide))] at e4;rw [hq] at h;rw [hq,e1];omega
theorem gP (n:Int):IntKind.u64.wrap n=(((BitVec.ofInt 64 n).toNat:Nat):Int):=by
 rw [BitVec.toNat_ofInt];simp only [IntKind.wrap,IntKind.signed,IntKind.bits];simp;omega
theorem kl (n:Int):Lt.cj n=Lt.Plain n:=by
 unfold Lt.cj Lt.FT Lt.Plain;have b64:IntKind.i64.bits=64:=rfl
 rw [gP,b64,BitVec.toNat_and,BitVec.toNat_and];generalize (BitVec.ofInt 64 n).toNat=x;have c1:(BitVec.ofInt 64 9218868437227405312).toNat=9218868437227405312:=by decide
 have c2:(BitVec.ofInt 64 4503599627370495).toNat=4503599627370495:=by decide
 rw [c1,c2];have h1:=agU (n:=x) (m:=9218868437227405312)
 have h2:=agU (n:=x) (m:=4503599627370495)
 have:=T9 x
 rw [cD (by omega) (by omega),cD (by omega) (by omega)];have et:Int.tmod (x:Int) 9223372036854775808=((x % 9223372036854775808:Nat):Int):=rfl
 rw [et];by_cases hc:9218868437227405312<x % 9223372036854775808
 ·have h:=this.1 hc
  have k1:((x &&& 9218868437227405312:Nat):Int)=9218868437227405312:=by omega
  have k2:¬ ((x &&& 4503599627370495:Nat):Int)=0:=by omega
  rw [if_pos (by simp; omega),if_pos (by rw [decide_eq_true k1,decide_eq_false k2]; rfl)]
 ·have h:¬ (((x &&& 9218868437227405312:Nat):Int)=9218868437227405312/\¬ ((x &&& 4503599627370495:Nat):Int)=0):=fun h=>hc (this.2 ⟨by omega,by omega⟩)
  rw [if_neg (by simp; omega),if_neg (by simpa using h)]
def Sv:List UInt8:=[48,49,50,51,52,53,54,55,56,57,97,98,99,100,101,102]
def kn (k:Nat):UInt8:=Sv.getD (k % 16) 0
theorem FK (k:Nat):Lt.abK (k:Int)=kn k:=by
 unfold Lt.abK kn;have e:Int.tmod (k:Int) 16=((k % 16:Nat):Int):=rfl
 rw [e];have h:k % 16 < 16:=afO _ (by decide)
 generalize k % 16=j at h;have:∀ j:Fin 16,UInt8.ofNat (IntKind.u8.wrap ((IntKind.u8.wrap ((j.1:Nat):Int))+(if IntKind.u8.wrap ((j.1:Nat):Int) < 10 then 48 else 87))).toNat=Sv.getD j.1 0:=by decide
 exact this ⟨j,h⟩
theorem zg:∀ (k m:Nat) (l:List UInt8),m < 18446744073709551616->Lt.mD k (m:Int) l=((List.range k).map fun i=>kn (m / 16 ^ (k - 1-i)))++l
 | 0,m,l,_=>rfl
 | k+1,m,l,h=>by
  rw [Lt.mD,show Int.tdiv (m:Int) 16=((m / 16:Nat):Int) from rfl,ch (by omega),zg k (m / 16) _ (by omega),FK,List.range_succ,ad5];have e:(List.range k).map (fun i=>kn (m / 16 / 16 ^ (k - 1-i)))=(List.range k).map (fun i=>kn (m / 16 ^ (k+1 - 1-i))):=by
   refine adU (fun i hi=>?_);have hi:i<k:=ag2.1 hi
   rw [Nat.div_div_eq_div_mul,show k+1 - 1-i=(k - 1-i)+1 by omega,ag0,Nat.mul_comm 16]
  rw [e];simp
theorem Vz (u:Int) (s:Nat) (hs:s<=60):Lt.Qi u (s:Int)=kn ((BitVec.ofInt 64 u).toNat / 2 ^ s):=by
 unfold Lt.Qi;have b64:IntKind.u64.bits=64:=rfl
 rw [gP u,ch (n:=s) (by omega),b64,Int.toNat_natCast,Nat.min_eq_left (by omega)];have hx:=(BitVec.ofInt 64 u).isLt
 generalize (BitVec.ofInt 64 u).toNat=x at hx ⊢;have e:Int.fdiv (x:Int) (2 ^ s)=((x / 2 ^ s:Nat):Int):=by
  rw [show ((2:Int) ^ s)=((2 ^ s:Nat):Int) by simp,agF _ (adC _)]; rfl
 have hlt:x / 2 ^ s < 18446744073709551616:=Nat.lt_of_le_of_lt (Nat.div_le_self _ _) hx
 have c15:(BitVec.ofInt 64 15).toNat=15:=by decide
 have e2:(BitVec.ofInt 64 ((x / 2 ^ s:Nat):Int)).toNat=x / 2 ^ s:=by
  generalize x / 2 ^ s=y at hlt;rw [BitVec.toNat_ofInt]; omega
 rw [e,BitVec.toNat_and,c15,e2];have e3:(x / 2 ^ s &&& 15:Nat)=x / 2 ^ s % 16:=afP _ 4
 rw [e3,ch (by omega),Int.toNat_natCast];rfl
theorem wa (n:Int):Lt.om n=Lt.dK n:=by
 unfold Lt.om Lt.dK;rw [kl,gP,zg 16 _ _ (BitVec.isLt _),aeO]
 congr 1
 refine adU (fun i hi=>?_);have hi:i < 16:=ag2.1 hi
 have e:(60:Int) - 4*(i:Int)=((60 - 4*i:Nat):Int):=by omega
 rw [e,Vz _ _ (by omega)];rw [show 60 - 4*i=4*(16 - 1-i) by omega,Nat.pow_mul]
theorem B9 (a:Lt.Arg):Lt.Il a=Lt.aJ a:=by
 unfold Lt.Il Lt.aJ;rw [aR,kl];by_cases h1:a.Kind=1
 ·rw [if_pos h1,if_pos h1]
 rw [if_neg h1,if_neg h1];by_cases h2:a.Kind=2
 ·simp [h2]
 by_cases h3:a.Kind=3
 ·simp [h3]
 by_cases h4:a.Kind=4
 ·simp [h4]
 by_cases h5:a.Kind=5
 ·simp [h5,Bool.and_assoc]
 have:(((decide (a.Kind < 1))||(decide (5<a.Kind)))||(!decide (a.S=[])))=true:=by simp; omega
 rw [if_pos this,if_neg h2,if_neg h3,if_neg h4,if_neg h5]
theorem nv (a:Lt.Arg):Lt.fX a=Lt.ac a:=by
 unfold Lt.fX Lt.ac Lt.yw;rw [B9,wa];by_cases h:Lt.aJ a=true
 ·rw [if_pos h,if_pos h];rcases eY h with h | h | h | h | h
  ·simp [h.1]
  ·simp [h.1]
  ·simp [h.1]
  ·simp [h.1]
  ·simp [h.1]
 ·rw [if_neg h,if_neg h]
theorem oc (op:Int):(Lt.rOf op).2=(Lt.Of op).2/\(Lt.rOf op).1.Word=(Lt.Of op).1.Word/\(Lt.rOf op).1.Dst=(Lt.Of op).1.Dst/\(Lt.rOf op).1.Named=(Lt.Of op).1.Named/\(Lt.rOf op).1.Least=(Lt.Of op).1.Least/\(Lt.rOf op).1.Most=(Lt.Of op).1.Most:=by
 by_cases h:1<=op/\op<=34
 ·obtain ⟨k,rfl⟩:=afJ (show 0<=op by omega);have hk:k < 35:=by omega
  have:∀ k:Fin 35,1<=k.1->(Lt.rOf (k.1:Int)).2=(Lt.Of (k.1:Int)).2/\(Lt.rOf (k.1:Int)).1.Word=(Lt.Of (k.1:Int)).1.Word/\(Lt.rOf (k.1:Int)).1.Dst=(Lt.Of (k.1:Int)).1.Dst/\(Lt.rOf (k.1:Int)).1.Named=(Lt.Of (k.1:Int)).1.Named/\(Lt.rOf (k.1:Int)).1.Least=(Lt.Of (k.1:Int)).1.Least/\(Lt.rOf (k.1:Int)).1.Most=(Lt.Of (k.1:Int)).1.Most:=by decide +kernel
  exact this ⟨k,hk⟩ (by show 1<=k; omega)
 ·unfold Lt.rOf Lt.Of;rw [if_pos (by omega)]
  repeat rw [if_neg (by omega)]
  exact ⟨rfl,rfl,rfl,rfl,rfl,rfl⟩
end Go.Am
end

section
namespace Go.Am
open Go
def Bd (d:Nat):Int:=562949953421312+20001*((min d 10:Nat):Int)
theorem OU (d:Nat):562949953421312<=Bd d/\Bd d<=562949953621322:=by unfold Bd; omega
def Pc (d:Nat) (b:Int) (w:Nat) (r:Int):Prop:=(20000<r/\r<=Bd d)\/(r=b+(w:Int)/\r<=20000)
def short (s:List UInt8):Prop:=s.length<=140737488355328
theorem kQ {α:Type} {d:Nat} (go:List α->Int->Int) (s:Int->α->Int) (w:α->Nat) (h0:∀ b,go [] b=b) (h1:∀ x r b,go (x::r) b=if b<=20000 then go r (s b x) else b) (ok:α->Prop)
  (hs:∀ b x,ok x->0<=b->b<=20000->Pc d b (w x) (s b x)):∀ (l:List α) (b:Int),(∀ x∈l,ok x)->0<=b->b<=Bd d->Pc d b (l.map w).sum (go l b)
 | [],b,_,h2,h3=>by
  rw [h0]; unfold Pc;simp only [List.map_nil,List.sum_nil];omega
 | x::r,b,hok,h2,h3=>by
  rw [h1];by_cases hb:b<=20000
  ·rw [if_pos hb];have hx:=hs b x (hok x (by simp)) h2 hb
   have hB:=OU d
   have h4:0<=s b x/\s b x<=Bd d:=by unfold Pc at hx; omega
   have ih:=kQ go s w h0 h1 ok hs r (s b x) (fun y hy=>hok y (by simp [hy])) h4.1 h4.2
   unfold Pc at hx ih ⊢;simp only [List.map_cons,ae4];omega
  ·rw [if_neg hb];unfold Pc;omega
theorem iO {n:Int} {k:Nat} (h1:0<=n) (h2:n<=1152921504606846976) (h3:k<=1152921504606846976):Lt.plus n k=n+(k:Int):=by
 unfold Lt.plus;exact cD (by omega) (by omega)
theorem lk {n:Int} (h1:0<=n) (h2:n<=4611686018427387904):IntKind.i64.wrap n=n:=cD (by omega) (by omega)
def WI (v:Lt.Var):Nat:=v.Name.length+v.Type_.length
def Cz (l:List Lt.Var):Nat:=l.length+(l.map WI).sum
def Td (a:Lt.Arg):Nat:=a.S.length
def EF (l:List Lt.Arg):Nat:=l.length+(l.map Td).sum
def PZ (b:Lt.Bind):Nat:=1+b.Name.length+b.A.S.length
def vW (f:Lt.Frame):Nat:=f.Func.length+f.Block.length+(f.Vars.map PZ).sum
def SN (o:Lt.Virt):Nat:=o.Class.length+EF o.Vals
def tf (x:Lt.Instr):Nat:=1+x.Dst.length+x.Frames.length+x.Objs.length+x.Name.length+EF x.Args+(x.Frames.map vW).sum+(x.Objs.map SN).sum
def wIn (b:Lt.In):Nat:=1+b.Block.length+b.A.S.length
def S5 (x:Lt.Phi):Nat:=1+x.Dst.length+(x.Ins.map wIn).sum
def wTo (t:List UInt8):Nat:=1+t.length
def r7 (b:Lt.Block):Nat:=1+b.Name.length+b.End.A.S.length+(b.End.To.map wTo).sum+(b.Phis.map S5).sum+(b.Code.map tf).sum
def Av (f:Lt.Func):Nat:=1+f.Name.length+f.Result.length+Cz f.Params+Cz f.Vars+(f.Blocks.map r7).sum
def xl (c:Lt.Class):Nat:=c.Name.length+Cz c.Fields
def qV (x:Lt.Extern):Nat:=1+x.Name.length
def UY (p:Lt.Program):Nat:=Cz p.Globals+(p.Classes.map xl).sum+(p.Externs.map qV).sum+(p.Funcs.map Av).sum
def ic (v:Lt.Var):Prop:=short v.Name/\short v.Type_
def cm (a:Lt.Arg):Prop:=short a.S
def Vs (b:Lt.Bind):Prop:=short b.Name/\cm b.A
def Oe (f:Lt.Frame):Prop:=short f.Func/\short f.Block/\∀ b∈f.Vars,Vs b
def jB (o:Lt.Virt):Prop:=short o.Class/\∀ a∈o.Vals,cm a
def ej (x:Lt.Instr):Prop:=short x.Dst/\short x.Name/\(∀ a∈x.Args,cm a)/\(∀ f∈x.Frames,Oe f)/\∀ o∈x.Objs,jB o
def sIn (b:Lt.In):Prop:=short b.Block/\cm b.A
def jD (x:Lt.Phi):Prop:=short x.Dst/\∀ i∈x.Ins,sIn i
def cR (b:Lt.Block):Prop:=short b.Name/\cm b.End.A/\(∀ t∈b.End.To,short t)/\(∀ x∈b.Phis,jD x)/\∀ i∈b.Code,ej i
def fp (f:Lt.Func):Prop:=short f.Name/\short f.Result/\(∀ v∈f.Params,ic v)/\(∀ v∈f.Vars,ic v)/\∀ b∈f.Blocks,cR b
def dk (c:Lt.Class):Prop:=short c.Name/\∀ v∈c.Fields,ic v
def U8 (p:Lt.Program):Prop:=(∀ c∈p.Classes,dk c)/\(∀ v∈p.Globals,ic v)/\(∀ e∈p.Externs,short e.Name)/\∀ f∈p.Funcs,fp f
theorem qd {d:Nat} {b0:Int} {w0:Nat} {n:Int} {k:Nat} {r:Int} (hd:d < 9) (h0:0<=b0) (h:Pc (d+1) b0 w0 n) (hk:Pc d 0 k r):Pc (d+1) b0 (w0+k) (Lt.upto 20000 n r):=by
 unfold Lt.upto;unfold Pc Bd at h hk ⊢;split
 ·rw [lk (by omega) (by omega)]; omega
 ·omega
theorem Ih {d:Nat} {b0:Int} {w0:Nat} {n:Int} {k:Nat} (h0:0<=b0) (h:Pc d b0 w0 n) (hk:k<=140737488355328):Pc d b0 (w0+k) (if n<=20000 then Lt.plus n k else n):=by
 unfold Pc Bd at h ⊢;split
 ·rw [iO (by omega) (by omega) (by omega)]; omega
 ·omega
theorem Vy {d:Nat} {k:Nat} (hk:k<=140737488355328):Pc d 0 k (k:Int):=by unfold Pc Bd; omega
theorem YH {d:Nat} (l:List Lt.Var) (b:Int) (h:∀ v∈l,ic v) (h0:0<=b) (h1:b<=Bd d):Pc d b (l.map WI).sum (Lt.BR 20000 l b):=by
 refine kQ (Lt.BR 20000) (fun n v=>if Lt.plus n v.Name.length<=20000 then Lt.plus (Lt.plus n v.Name.length) v.Type_.length else Lt.plus n v.Name.length) WI (fun _=>rfl) (fun _ _ _=>rfl) ic (fun b x hx h0 h1=>?_) l b h h0 h1;have hn:Pc d b x.Name.length (Lt.plus b x.Name.length):=by
  have:=hx.1; unfold short at this
  unfold Pc Bd; rw [iO h0 (by omega) (by omega)]; omega
 exact Ih h0 hn hx.2
theorem lh {d:Nat} (l:List Lt.Var) (h:∀ v∈l,ic v):Pc d 0 (Cz l) (Lt.cP l 20000):=by
 unfold Lt.cP Cz;split
 ·rw [lk (by omega) (by omega)]; unfold Pc Bd; omega
 ·have:=YH (d:=d) l (l.length:Int) h (by omega) (by have:=OU d; omega)
  unfold Pc at this ⊢; omega
theorem XF {d:Nat} (l:List Lt.Arg) (b:Int) (h:∀ v∈l,cm v) (h0:0<=b) (h1:b<=Bd d):Pc d b (l.map Td).sum (Lt.Au 20000 l b):=by
 refine kQ (Lt.Au 20000) (fun n v=>Lt.plus n v.S.length) Td (fun _=>rfl) (fun _ _ _=>rfl) cm (fun b x hx h0 h1=>?_) l b h h0 h1;unfold cm short at hx;unfold Pc Bd Td; rw [iO h0 (by omega) (by omega)]; omega
theorem yg {d:Nat} (l:List Lt.Arg) (h:∀ v∈l,cm v):Pc d 0 (EF l) (Lt.fe l 20000):=by
 unfold Lt.fe EF;split
 ·rw [lk (by omega) (by omega)]; unfold Pc Bd; omega
 ·have:=XF (d:=d) l (l.length:Int) h (by omega) (by have:=OU d; omega)
  unfold Pc at this ⊢; omega
theorem Jw {d:Nat} {b:Int} {k:Nat} (h0:0<=b) (h1:b<=20000) (hk:k<=140737488355328):Pc d b (1+k) (Lt.plus (IntKind.i64.wrap (b+1)) k):=by
 rw [lk (by omega) (by omega),iO (by omega) (by omega) (by omega)]; unfold Pc Bd; omega
theorem VF {d:Nat} (l:List Lt.Bind) (b:Int) (h:∀ v∈l,Vs v) (h0:0<=b) (h1:b<=Bd d):Pc d b (l.map PZ).sum (Lt.oW 20000 l b):=by
 refine kQ (Lt.oW 20000) (fun n b=>if Lt.plus (IntKind.i64.wrap (n+1)) b.Name.length<=20000 then Lt.plus (Lt.plus (IntKind.i64.wrap (n+1)) b.Name.length) b.A.S.length else Lt.plus (IntKind.i64.wrap (n+1)) b.Name.length) PZ (fun _=>rfl) (fun _ _ _=>rfl) Vs (fun b x hx h0 h1=>?_) l b h h0 h1;exact Ih h0 (Jw h0 h1 hx.1) hx.2
theorem abH {d:Nat} (l:List Lt.In) (b:Int) (h:∀ v∈l,sIn v) (h0:0<=b) (h1:b<=Bd d):Pc d b (l.map wIn).sum (Lt.LD 20000 l b):=by
 refine kQ (Lt.LD 20000) (fun n b=>if Lt.plus (IntKind.i64.wrap (n+1)) b.Block.length<=20000 then Lt.plus (Lt.plus (IntKind.i64.wrap (n+1)) b.Block.length) b.A.S.length else Lt.plus (IntKind.i64.wrap (n+1)) b.Block.length) wIn (fun _=>rfl) (fun _ _ _=>rfl) sIn (fun b x hx h0 h1=>?_) l b h h0 h1;exact Ih h0 (Jw h0 h1 hx.1) hx.2
theorem g9 {d:Nat} {b:Int} {w w':Nat} {n r:Int} (h0:0<=b) (h:Pc d b w n) (h':0<=n->n<=Bd d->Pc d n w' r):Pc d b (w+w') r:=by
 have hB:=OU d
 have h2:=h' (by unfold Pc at h; omega) (by unfold Pc at h; omega)
 unfold Pc at h h2 ⊢; omega
theorem NH {d:Nat} {b:Int} {k:Nat} (h0:0<=b) (h1:b<=20000) (hk:k<=140737488355328):Pc d b k (Lt.plus b k):=by
 rw [iO (by omega) (by omega) (by omega)]; unfold Pc Bd; omega
theorem S1 {d:Nat} (l:List Lt.Frame) (b:Int) (h:∀ v∈l,Oe v) (h0:0<=b) (h1:b<=Bd d):Pc d b (l.map vW).sum (Lt.k9 20000 l b):=by
 refine kQ (Lt.k9 20000) (fun n f=>Lt.oW 20000 f.Vars (if Lt.plus n f.Func.length<=20000 then Lt.plus (Lt.plus n f.Func.length) f.Block.length else Lt.plus n f.Func.length)) vW (fun _=>rfl) (fun _ _ _=>rfl) Oe (fun b x hx h0 h1=>?_) l b h h0 h1;exact g9 h0 (Ih h0 (NH h0 h1 hx.1) hx.2.1) (VF x.Vars _ hx.2.2)
theorem XD {d:Nat} (hd:d < 9) (l:List Lt.Virt) (b:Int) (h:∀ v∈l,jB v) (h0:0<=b) (h1:b<=Bd (d+1)):Pc (d+1) b (l.map SN).sum (Lt.vE 20000 l b):=by
 refine kQ (Lt.vE 20000) (fun n o=>if Lt.plus n o.Class.length<=20000 then IntKind.i64.wrap (Lt.plus n o.Class.length+Lt.fe o.Vals 20000) else Lt.plus n o.Class.length) SN (fun _=>rfl) (fun _ _ _=>rfl) jB (fun b x hx h0 h1=>?_) l b h h0 h1;exact qd hd h0 (NH h0 h1 hx.1) (yg _ hx.2)
theorem abW {d:Nat} (l:List (List UInt8)) (b:Int) (h:∀ v∈l,short v) (h0:0<=b) (h1:b<=Bd d):Pc d b (l.map wTo).sum (Lt.cTo 20000 l b):=by
 refine kQ (Lt.cTo 20000) (fun n t=>Lt.plus (IntKind.i64.wrap (n+1)) t.length) wTo (fun _=>rfl) (fun _ _ _=>rfl) short (fun b x hx h0 h1=>?_) l b h h0 h1;exact Jw h0 h1 hx
theorem X0 {d:Nat} (l:List Lt.Phi) (b:Int) (h:∀ v∈l,jD v) (h0:0<=b) (h1:b<=Bd d):Pc d b (l.map S5).sum (Lt.ub 20000 l b):=by
 refine kQ (Lt.ub 20000) (fun n x=>Lt.LD 20000 x.Ins (Lt.plus (IntKind.i64.wrap (n+1)) x.Dst.length)) S5 (fun _=>rfl) (fun _ _ _=>rfl) jD (fun b x hx h0 h1=>?_) l b h h0 h1;exact g9 h0 (Jw h0 h1 hx.1) (abH x.Ins _ hx.2)
theorem Wk {d:Nat} {b:Int} {w k:Nat} {n r:Int} (hd:d < 9) (h0:0<=b) (hn:n=b+(w:Int)) (h1:n<=20000) (hk:Pc d 0 k r):Pc (d+1) b (w+k) (IntKind.i64.wrap (n+r)):=by
 unfold Pc Bd at hk ⊢;rw [lk (by omega) (by omega)]; omega
theorem Fy (x:Lt.Instr) (h:ej x):Pc 1 0 (tf x) (Lt.fI x 20000):=by
 obtain ⟨h1,h2,h3,h4,h5⟩:=h;unfold short at h1 h2;unfold Lt.fI;split
 ·rename_i hc;rw [lk (by omega) (by omega)]; unfold Pc Bd; omega
 ·rename_i hc;simp only [ad4,decide_eq_true_eq,not_or] at hc;have e:Lt.plus (Lt.plus (Lt.plus 1 x.Dst.length) x.Frames.length) x.Objs.length=1+(x.Dst.length:Int)+x.Frames.length+x.Objs.length:=by
   have e1:=iO (n:=1) (k:=x.Dst.length) (by omega) (by omega) (by omega)
   have e2:=iO (n:=1+(x.Dst.length:Int)) (k:=x.Frames.length) (by omega) (by omega) (by omega)
   have e3:=iO (n:=1+(x.Dst.length:Int)+x.Frames.length) (k:=x.Objs.length) (by omega) (by omega) (by omega)
   rw [e1,e2,e3]
  have p1:Pc 1 0 (1+x.Dst.length+x.Frames.length+x.Objs.length) (Lt.plus (Lt.plus (Lt.plus 1 x.Dst.length) x.Frames.length) x.Objs.length):=by
   rw [e]; unfold Pc Bd; omega
  have p2:=qd (by omega) (by omega) p1 (Vy h2)
  have p3:=qd (by omega) (by omega) p2 (yg x.Args h3)
  have p4:=g9 (by omega) p3 (S1 x.Frames _ h4)
  exact g9 (by omega) p4 (XD (by omega) x.Objs _ h5)
theorem XI (l:List Lt.Instr) (b:Int) (h:∀ v∈l,ej v) (h0:0<=b) (h1:b<=Bd 2):Pc 2 b (l.map tf).sum (Lt.rQ 20000 l b):=by
 refine kQ (Lt.rQ 20000) (fun n x=>IntKind.i64.wrap (n+Lt.fI x 20000)) tf (fun _=>rfl) (fun _ _ _=>rfl) ej (fun b x hx h0 h1=>?_) l b h h0 h1;have:=Wk (b:=b) (w:=0) (n:=b) (by omega) h0 (by omega) h1 (Fy x hx)
 rwa [afD] at this
theorem GP (x:Lt.Block) (h:cR x):Pc 2 0 (r7 x) (Lt.fB x 20000):=by
 obtain ⟨h1,h2,h3,h4,h5⟩:=h;unfold cm at h2;unfold short at h1 h2;unfold Lt.fB;split
 ·rw [lk (by omega) (by omega)]; unfold Pc Bd; omega
 ·have p1:Pc 2 0 (1+x.Name.length) (Lt.plus 1 x.Name.length):=by
   rw [iO (by omega) (by omega) (by omega)]; unfold Pc Bd; omega
  have p2:=qd (by omega) (by omega) p1 (Vy h2)
  have p3:=g9 (by omega) p2 (abW x.End.To _ h3)
  have p4:=g9 (by omega) p3 (X0 x.Phis _ h4)
  exact g9 (by omega) p4 (XI x.Code _ h5)
theorem Ro (l:List Lt.Block) (b:Int) (h:∀ v∈l,cR v) (h0:0<=b) (h1:b<=Bd 3):Pc 3 b (l.map r7).sum (Lt.ng 20000 l b):=by
 refine kQ (Lt.ng 20000) (fun n x=>IntKind.i64.wrap (n+Lt.fB x 20000)) r7 (fun _=>rfl) (fun _ _ _=>rfl) cR (fun b x hx h0 h1=>?_) l b h h0 h1;have:=Wk (b:=b) (w:=0) (n:=b) (by omega) h0 (by omega) h1 (GP x hx)
 rwa [afD] at this
theorem SW (f:Lt.Func) (h:fp f):Pc 3 0 (Av f) (Lt.lx f 20000):=by
 obtain ⟨h1,h2,h3,h4,h5⟩:=h;unfold short at h1 h2;unfold Lt.lx;split
 ·rw [lk (by omega) (by omega)]; unfold Pc Bd; omega
 ·have p1:Pc 3 0 (1+f.Name.length) (Lt.plus 1 f.Name.length):=by
   rw [iO (by omega) (by omega) (by omega)]; unfold Pc Bd; omega
  have p2:=qd (by omega) (by omega) p1 (Vy h2)
  have p3:=qd (by omega) (by omega) p2 (lh f.Params h3)
  have p4:=qd (by omega) (by omega) p3 (lh f.Vars h4)
  exact g9 (by omega) p4 (Ro f.Blocks _ h5)
theorem Uc (l:List Lt.Func) (b:Int) (h:∀ v∈l,fp v) (h0:0<=b) (h1:b<=Bd 4):Pc 4 b (l.map Av).sum (Lt.og 20000 l b):=by
 refine kQ (Lt.og 20000) (fun n x=>IntKind.i64.wrap (n+Lt.lx x 20000)) Av (fun _=>rfl) (fun _ _ _=>rfl) fp (fun b x hx h0 h1=>?_) l b h h0 h1;have:=Wk (b:=b) (w:=0) (n:=b) (by omega) h0 (by omega) h1 (SW x hx)
 rwa [afD] at this
theorem NO {d:Nat} (hd:d < 9) (l:List Lt.Class) (b:Int) (h:∀ v∈l,dk v) (h0:0<=b) (h1:b<=Bd (d+1)):Pc (d+1) b (l.map xl).sum (Lt.kw 20000 l b):=by
 refine kQ (Lt.kw 20000) (fun n c=>if Lt.plus n c.Name.length<=20000 then IntKind.i64.wrap (Lt.plus n c.Name.length+Lt.cP c.Fields 20000) else Lt.plus n c.Name.length) xl (fun _=>rfl) (fun _ _ _=>rfl) dk (fun b x hx h0 h1=>?_) l b h h0 h1;exact qd hd h0 (NH h0 h1 hx.1) (lh _ hx.2)
theorem Nh {d:Nat} (l:List Lt.Extern) (b:Int) (h:∀ v∈l,short v.Name) (h0:0<=b) (h1:b<=Bd d):Pc d b (l.map qV).sum (Lt.iY 20000 l b):=by
 refine kQ (Lt.iY 20000) (fun n t=>Lt.plus (IntKind.i64.wrap (n+1)) t.Name.length) qV (fun _=>rfl) (fun _ _ _=>rfl) (fun v=>short v.Name) (fun b x hx h0 h1=>?_) l b h h0 h1;exact Jw h0 h1 hx
theorem ab8 {p:Lt.Program} (h:U8 p) (hf:Lt.Few p 20000=true):UY p<=20000/\p.Classes.length<=50:=by
 obtain ⟨h1,h2,h3,h4⟩:=h;unfold Lt.Few at hf;split at hf
 ·cases hf
 ·rename_i hc;simp only [ad4,decide_eq_true_eq,not_or] at hc;have p1:=lh (d:=4) p.Globals h2
  have p2:=g9 (by omega) p1 (NO (d:=3) (by omega) p.Classes _ h1)
  have p3:=g9 (by omega) p2 (Nh p.Externs _ h3)
  have p4:=g9 (by omega) p3 (Uc p.Funcs _ h4)
  simp only [decide_eq_true_eq] at hf;unfold Pc Bd at p4;unfold UY;omega
end Go.Am
end

section
namespace Go.Am
open Go
theorem rU {α β:Type} (g:α->List β) (w:α->Nat) (k:Nat):∀ (l:List α),(∀ x∈l,(g x).length<=k*w x)->(l.flatMap g).length<=k*(l.map w).sum
 | [],_=>by simp
 | x::r,h=>by
  have h1:=h x (by simp)
  have h2:=rU g w k r (fun y hy=>h y (by simp [hy]))
  simp only [adS,adD,List.map_cons,ae4,Nat.mul_add];omega
theorem Yz {α:Type} (w:α->Nat):∀ (l:List α),(l.map fun x=>1+w x).sum=l.length+(l.map w).sum
 | []=>by simp
 | x::r=>by
  have:=Yz w r
  simp only [List.map_cons,ae4,adF,this];omega
def lw (ws:List (List UInt8)):Nat:=(ws.map fun w=>w.length+1).sum
theorem fO (a b:List (List UInt8)):lw (a++b)=lw a+lw b:=by simp [lw]
theorem dw (a:List UInt8) (b:List (List UInt8)):lw (a::b)=a.length+1+lw b:=by simp [lw]
theorem dV:lw []=0:=rfl
theorem Zj:∀ (ws:List (List UInt8)) (b:Bool),(Lt.jw b ws).length<=lw ws
 | [],_=>by simp [Lt.jw]
 | w::r,b=>by
  have:=Zj r true
  rw [Lt.jw,dw];simp only [adD];have:(if b=true then [32] else ([]:List UInt8)).length<=1:=by split <;> simp
  omega
theorem lH (ws:List (List UInt8)):(Lt.lnT ws).length<=lw ws+1:=by
 have:=Zj ws false
 simp only [Lt.lnT,adD,adF,adL];omega
theorem vp {n:Int} (h:Lt.inR n):(Lt.yw n).length<=20:=iD h
theorem uZ:∀ (k:Nat) (x:Int) (l:List UInt8),(Lt.mD k x l).length=k+l.length
 | 0,_,_=>by simp [Lt.mD]
 | k+1,x,l=>by rw [Lt.mD,uZ k]; simp; omega
theorem xj {a:Lt.Arg} (h:a.ok):(Lt.fX a).length<=a.S.length+25:=by
 have h1:=vp h
 have h2:(Lt.om a.N).length=18:=by simp [Lt.om,uZ]
 unfold Lt.fX
 repeat' split
 all_goals (try simp only [adF,adL])
 all_goals omega
theorem Z1 (n:Nat):(gw.getD n default).length<=10:=by
 have h:∀ w∈gw,w.length<=10:=by decide
 rw [List.getD];cases hn:gw[n]? with
 | none=>simp; exact aeR _
 | some w=>
  simp only [Option.getD_some];exact h w (ad7 hn)
theorem Xl (op:Int):(Lt.rOf op).1.Word.length<=10:=by
 unfold Lt.rOf;split
 ·simp
 ·exact Z1 _
theorem nN (first:List UInt8) (hf:first.length<=6) (l:List Lt.Var):(Lt.wo first l).length<=20*Cz l:=by
 have:=rU (fun v:Lt.Var=>Lt.lnT [first,v.Name,v.Type_]) (fun v=>1+WI v) 20 l (fun v _=>by
  have:=lH [first,v.Name,v.Type_]
  simp only [dw,dV] at this;unfold WI;omega)
 rw [Yz] at this;exact this
theorem DF {l:List Lt.Arg} (h:Lt.p7 l):lw (l.map Lt.fX)<=30*EF l:=by
 induction l with
 | nil=>simp [lw]
 | cons a r ih=>
  have h1:=ih (fun x hx=>h x (adR _ hx))
  have h2:=xj (h a (by simp))
  simp only [EF,List.map_cons,ae4,adF,dw,Td] at h1 ⊢;omega
theorem IC {α:Type} (n:α->List UInt8) (a:α->Lt.Arg) (l:List α) (h:∀ b∈l,(a b).ok):lw (l.flatMap fun b=>[n b,Lt.fX (a b)])<=30*(l.map fun b=>1+(n b).length+(a b).S.length).sum:=by
 induction l with
 | nil=>simp [lw]
 | cons b r ih=>
  have h1:=ih (fun x hx=>h x (adR _ hx))
  have h2:=xj (h b (by simp))
  simp only [adS,fO,dw,dV,List.map_cons,ae4];omega
theorem QT {f:Lt.Frame} (h:f.ok) (hn:Lt.inR f.At):(Lt.lnT (Lt.np f)).length<=40*(1+vW f):=by
 have h1:=lH (Lt.np f)
 have h2:=IC (fun b:Lt.Bind=>b.Name) (fun b=>b.A) f.Vars (fun b hb=>h.2 b hb)
 have h3:=vp hn
 simp only [Lt.np,fO,dw,dV,adF,adL] at h1;unfold vW;have:(f.Vars.map PZ).sum=(f.Vars.map fun b=>1+b.Name.length+b.A.S.length).sum:=rfl
 rw [this];simp only [Lt.np];omega
theorem U3 {o:Lt.Virt} (h:o.ok):(Lt.lnT (Lt.tb o)).length<=40*(1+SN o):=by
 have h1:=lH (Lt.tb o)
 have h2:=DF (l:=o.Vals) h
 simp only [Lt.tb,fO,dw,dV,adF,adL] at h1;unfold SN;simp only [Lt.tb];omega
theorem Nz {l:List Lt.Arg}:lw ((l.take 1).map Lt.fX)+lw ((l.drop 1).map Lt.fX)=lw (l.map Lt.fX):=by
 rw [<- fO,<- ad5,afZ]
theorem UX {x:Lt.Instr} (h:x.ok) (hn:∀ f∈x.Frames,Lt.inR f.At):(Lt.wU x).length<=40*tf x:=by
 obtain ⟨okA,okF,okO⟩:=h;have h1:=lH (Lt.wD x)
 have h2:=DF okA
 have h3:=Xl x.Op
 have h4:=rU (fun f=>Lt.lnT (Lt.np f)) (fun f=>1+vW f) 40 x.Frames (fun f hf=>QT (okF f hf) (hn f hf))
 have h5:=rU (fun o=>Lt.lnT (Lt.tb o)) (fun o=>1+SN o) 40 x.Objs (fun o ho=>U3 (okO o ho))
 rw [Yz] at h4 h5;have hh:lw (Lt.Jr x)<=x.Dst.length+20:=by
  simp only [Lt.Jr,fO,dw,dV];split
  ·simp only [dw,dV,adF,adL]; omega
  ·simp only [dV]; omega
 have hw:lw (Lt.wD x)<=x.Dst.length+x.Name.length+21+lw (x.Args.map Lt.fX):=by
  unfold Lt.wD;split
  ·have:=Nz (l:=x.Args)
   simp only [fO,dw,dV];omega
  ·simp only [fO];split
   ·simp only [dw,dV]; omega
   ·simp only [dV]; omega
 simp only [Lt.wU,adD];unfold tf;omega
theorem ZT (l:List (List UInt8)):lw l=(l.map wTo).sum:=by
 unfold lw wTo
 congr 1
 exact adU (fun x _=>by omega)
theorem Ru (n:Nat):(([[],[106,117,109,112],[98,114,97,110,99,104],[114,101,116],[116,114,97,112]]:List (List UInt8)).getD n default).length<=10:=by
 match n with
 | 0=>decide
 | 1=>decide
 | 2=>decide
 | 3=>decide
 | 4=>decide
 | n+5=>simp; exact aeR _
theorem W2 {t:Lt.Term} (h:t.ok):(Lt.LV t).length<=70+t.A.S.length+(t.To.map wTo).sum:=by
 unfold Lt.LV;split
 ·simp
 ·have h1:=lH (Lt.O4 t)
  have h2:=xj h.1
  have h3:=vp h.2
  have h4:=Ru t.Kind.toNat
  have h5:=ZT t.To
  unfold Lt.O4 at h1 ⊢;simp only [fO,dw,dV] at h1;have h6:lw (if t.Kind=2\/t.Kind=3 then [Lt.fX t.A] else [])<=t.A.S.length+26:=by
   split
   ·simp only [dw,dV]; omega
   ·simp only [dV]; omega
  have h7:lw (if t.Kind=4 then [Lt.yw t.N] else [])<=21:=by
   split
   ·simp only [dw,dV]; omega
   ·simp only [dV]; omega
  omega
theorem W4 {x:Lt.Phi} (h:x.ok):(Lt.lnT (Lt.A0 x)).length<=40*S5 x:=by
 have h1:=lH (Lt.A0 x)
 have h2:=IC (fun b:Lt.In=>b.Block) (fun b=>b.A) x.Ins (fun b hb=>h.2 b hb)
 simp only [Lt.A0,fO,dw,dV,adF,adL] at h1;unfold S5;have:(x.Ins.map wIn).sum=(x.Ins.map fun b=>1+b.Block.length+b.A.S.length).sum:=rfl
 rw [this];simp only [Lt.A0];omega
theorem SZ {b:Lt.Block} (h:b.ok) (hn:∀ i∈b.Code,∀ f∈i.Frames,Lt.inR f.At):(Lt.qN b).length<=100*r7 b:=by
 have h1:=lH [[98,108,111,99,107],b.Name]
 simp only [dw,dV,adF,adL] at h1;have h2:=rU (fun x=>Lt.lnT (Lt.A0 x)) S5 40 b.Phis (fun x hx=>W4 (h.1 x hx))
 have h3:=rU Lt.wU tf 40 b.Code (fun x hx=>UX (h.2.1 x hx) (hn x hx))
 have h4:=W2 h.2.2
 simp only [Lt.qN,adD];unfold r7;omega
theorem Wz {f:Lt.Func} (h:f.ok) (hn:∀ b∈f.Blocks,∀ i∈b.Code,∀ r∈i.Frames,Lt.inR r.At):(Lt.wc f).length<=100*Av f:=by
 have h1:=lH [[102,117,110,99],f.Name,f.Result]
 simp only [dw,dV,adF,adL] at h1;have h2:=rU Lt.qN r7 100 f.Blocks (fun x hx=>SZ (h x hx) (hn x hx))
 have h3:=nN [112,97,114,97,109] (by decide) f.Params
 have h4:=nN [118,97,114] (by decide) f.Vars
 simp only [Lt.wc,adD];unfold Av;omega
theorem R0 (c:Lt.Class):(Lt.qx c).length<=20*(1+xl c):=by
 have h1:=lH [[99,108,97,115,115],c.Name]
 simp only [dw,dV,adF,adL] at h1;have h3:=nN [102,105,101,108,100] (by decide) c.Fields
 simp only [Lt.qx,adD];unfold xl;omega
theorem MH {c:Lt.Extern} (h:Lt.inR c.N):(Lt.pH c).length<=40*qV c:=by
 have h1:=lH [[101,120,116,101,114,110],c.Name,Lt.yw c.N]
 have h2:=vp h
 simp only [dw,dV,adF,adL] at h1;simp only [Lt.pH];unfold qV;omega
end Go.Am
end

section
namespace Go.Am
open Go
theorem sb:∀ (n:Nat),∀ c∈Lt.digs n,48<=c.toNat/\c.toNat<=57:=by
 intro n;induction n using Nat.strongRecOn with
 | _ n ih=>
  have hd:∀ k:Nat,k < 10->(UInt8.ofNat (48+k)).toNat=48+k:=fun k hk=>by simp; omega
  by_cases h:n < 10
  ·rw [eC h];intro c hc;rw [adM.1 hc,hd n h]; omega
  ·rw [l4 h];intro c hc;rcases adJ.1 hc with hc | hc
   ·exact ih (n / 10) (by omega) c hc
   ·rw [adM.1 hc,hd _ (afO _ (by decide))];have:=afO n (show 10 > 0 by decide); omega
theorem Ij (n:Nat):Lt.digs n≠[]:=by
 by_cases h:n < 10
 ·rw [eC h]; simp
 ·rw [l4 h]; simp
theorem Qn {m:Nat} {c:UInt8} (h1:48<=c.toNat) (h2:c.toNat<=57) (h3:10*m+(c.toNat - 48) < 18446744073709551616):Lt.DE (m:Int) c=((10*m+(c.toNat - 48):Nat):Int):=by
 unfold Lt.DE;simp only [IntKind.wrap,IntKind.signed,IntKind.bits];simp;omega
theorem S7:∀ (n:Nat),n < 18446744073709551616->(Lt.digs n).foldl Lt.DE 0=(n:Int):=by
 intro n;induction n using Nat.strongRecOn with
 | _ n ih=>
  intro hn;have hd:∀ k:Nat,k < 10->(UInt8.ofNat (48+k)).toNat=48+k:=fun k hk=>by simp; omega
  by_cases h:n < 10
  ·rw [eC h];show Lt.DE ((0:Nat):Int) _=_
   rw [Qn (by rw [hd n h]; omega) (by rw [hd n h]; omega) (by rw [hd n h]; omega),hd n h]; omega
  ·rw [l4 h,sW,ih (n / 10) (by omega) (by omega)];have:=afO n (show 10 > 0 by decide)
   rw [Qn (by rw [hd _ this]; omega) (by rw [hd _ this]; omega) (by rw [hd _ this]; omega),hd _ this]; omega
theorem T1 {n:Int} (h:Lt.inR n):Lt.Qh (Lt.ak n)=n:=by
 have hl:=iD h
 unfold Lt.inR at h;have hne:=Ij n.natAbs
 have hdd:=sb n.natAbs
 have hf:=S7 n.natAbs (by omega)
 unfold Lt.Qh Lt.UQ Lt.PE;rw [aeA (show (Lt.ak n).length<=30 by omega)];by_cases hn:n < 0
 ·have e:Lt.ak n=45::Lt.digs n.natAbs:=by unfold Lt.ak; rw [if_pos hn]; rfl
  rw [e];simp only [aeX,if_true,ae6,afH];rw [hf];simp only [IntKind.wrap,IntKind.signed,IntKind.bits];simp;omega
 ·have e:Lt.ak n=Lt.digs n.natAbs:=by unfold Lt.ak; rw [if_neg hn]; rfl
  rw [e];have h45:¬ (Lt.digs n.natAbs).getD 0 0=45:=by
   intro e;cases hh:Lt.digs n.natAbs with
   | nil=>exact hne hh
   | cons a r=>
    rw [hh] at e hdd;have:=hdd a (by simp)
    have e:a=45:=e
    subst e;simp at this
  rw [if_neg h45,if_neg h45,hf];simp only [IntKind.wrap,IntKind.signed,IntKind.bits];simp;omega
theorem ji {n:Int} (h:Lt.inR n):Lt.aY (Lt.ak n)=(n,true):=by
 unfold Lt.aY;rw [T1 h,if_pos (show Lt.yw n=Lt.ak n from rfl)]
theorem jZ {s:List UInt8} (h:(Lt.aY s).2=true):Lt.ak (Lt.aY s).1=s:=by
 unfold Lt.aY at h ⊢;split at h
 ·rename_i hc; rw [if_pos hc]; exact hc
 ·cases h
theorem jd (n:Int):∀ c∈Lt.ak n,c=45\/(48<=c.toNat/\c.toNat<=57):=by
 intro c hc;unfold Lt.ak at hc;rcases adJ.1 hc with hc | hc
 ·split at hc
  ·exact .inl (adM.1 hc)
  ·cases hc
 ·exact .inr (sb _ c hc)
theorem q7 (n:Int):Lt.ak n≠[]:=by
 unfold Lt.ak;have:=Ij n.natAbs
 simp [this]
theorem VA (k:Nat):(if 97<=(IntKind.u64.wrap (((kn k).toNat:Nat):Int)) then IntKind.u64.wrap ((IntKind.u64.wrap (((kn k).toNat:Nat):Int)) - 87) else IntKind.u64.wrap ((IntKind.u64.wrap (((kn k).toNat:Nat):Int)) - 48))=((k % 16:Nat):Int):=by
 unfold kn;have h:k % 16 < 16:=afO _ (by decide)
 generalize k % 16=j at h;have:∀ j:Fin 16,(if 97<=(IntKind.u64.wrap (((Sv.getD j.1 0).toNat:Nat):Int)) then IntKind.u64.wrap ((IntKind.u64.wrap (((Sv.getD j.1 0).toNat:Nat):Int)) - 87) else IntKind.u64.wrap ((IntKind.u64.wrap (((Sv.getD j.1 0).toNat:Nat):Int)) - 48))=((j.1:Nat):Int):=by decide
 exact this ⟨j,h⟩
theorem XS {u k:Nat} (h:16*u+15 < 18446744073709551616):Lt.Ki (u:Int) (kn k)=((16*u+k % 16:Nat):Int):=by
 unfold Lt.Ki;rw [VA];have e:Int.tmod ((k % 16:Nat):Int) 16=((k % 16:Nat):Int):=by
  rw [show Int.tmod ((k % 16:Nat):Int) 16=((k % 16 % 16:Nat):Int) from rfl,Nat.mod_mod]
 rw [e];have h16:=afO k (show 16 > 0 by decide)
 rw [show ((u:Nat):Int)*16=((16*u:Nat):Int) by omega,ch (by omega),show ((16*u:Nat):Int)+((k % 16:Nat):Int)=((16*u+k % 16:Nat):Int) by omega,ch (by omega)]
theorem qF:∀ (k m:Nat) (l:List UInt8),m < 18446744073709551616->k<=16->(Lt.mD k (m:Int) l).foldl Lt.Ki 0=l.foldl Lt.Ki ((m % 16 ^ k:Nat):Int)
 | 0,m,l,_,_=>by simp [Lt.mD,Nat.mod_one]
 | k+1,m,l,h,hk=>by
  rw [Lt.mD,show Int.tdiv (m:Int) 16=((m / 16:Nat):Int) from rfl,ch (by omega),qF k (m / 16) _ (by omega) (by omega),FK,afS];have hp:16 ^ k<=16 ^ 15:=Nat.pow_le_pow_right (by decide) (by omega)
  have hm:=afO (m / 16) (show 16 ^ k > 0 from Nat.pow_pos (by decide))
  have h15:(16:Nat) ^ 15=1152921504606846976:=by decide
  rw [XS (by omega)]
  congr 2
  rw [ag0,Nat.mul_comm (16 ^ k) 16,Nat.mod_mul];omega
theorem E1 {n:Int} (h:Lt.inR n):Lt.inR (Lt.cj n):=by
 unfold Lt.cj Lt.inR at *;split <;> omega
theorem Vc {n:Int} (h:Lt.inR n):Lt.JO (Lt.om n)=Lt.cj n:=by
 have hp:=E1 h
 unfold Lt.inR at hp;unfold Lt.JO Lt.om;have hx:IntKind.u64.wrap (Lt.cj n)=(((IntKind.u64.wrap (Lt.cj n)).toNat:Nat):Int):=by
  rw [gP]; rfl
 have hlt:(IntKind.u64.wrap (Lt.cj n)).toNat < 18446744073709551616:=by
  rw [gP]; exact BitVec.isLt _
 have hl:=uZ 16 (IntKind.u64.wrap (Lt.cj n)) []
 have ed:([48,102]++Lt.mD 16 (IntKind.u64.wrap (Lt.cj n)) []).drop 2=Lt.mD 16 (IntKind.u64.wrap (Lt.cj n)) []:=rfl
 rw [ed,aeA (by rw [hl]; simp),hx,qF 16 _ _ hlt (by omega)];simp only [List.foldl_nil];have h16:(16:Nat) ^ 16=18446744073709551616:=by decide
 rw [h16,afY hlt,<- hx];simp only [IntKind.wrap,IntKind.signed,IntKind.bits];simp;omega
theorem UC (n:Int):(Lt.om n).length=18:=by rw [wa]; exact Bw n
theorem Mq (n:Int):Lt.om (Lt.cj n)=Lt.om n:=by
 unfold Lt.om;have:Lt.cj (Lt.cj n)=Lt.cj n:=by
  unfold Lt.cj;by_cases h:Lt.FT n=true
  ·rw [if_pos h]; simp
  ·rw [if_neg h,if_neg h]
 rw [this]
theorem vb {n:Int} (h:Lt.inR n):Lt.iw (Lt.om n)=(Lt.cj n,true):=by
 unfold Lt.iw;rw [Vc h,if_pos ⟨UC n,Mq n⟩]
theorem cV (s:List UInt8) (a:Lt.Arg):Lt.lR s a=true ↔ Lt.aJ a=true/\Lt.ac a=s:=by
 unfold Lt.lR;rw [B9,nv]; simp
theorem sI {a:UInt8} {r:List UInt8} (h:Lt.Name (a::r)=true):Lt.letter a=true:=by
 unfold Lt.Name at h;simp only [ac9,aeX] at h;exact h.1.1.2
theorem Gx (n:Int):Lt.Name (Lt.ak n)=false:=by
 cases hh:Lt.ak n with
 | nil=>exact absurd hh (q7 n)
 | cons a r=>
  have hb:=jd n a (by rw [hh]; simp)
  cases hN:Lt.Name (a::r) with
  | false=>rfl
  | true=>
   exfalso
   have:=sI hN
   unfold Lt.letter Lt.tZ at this;rcases hb with rfl | hb
   ·revert this; decide
   ·simp at this; omega
theorem DG {n:Int}:Lt.ac ⟨2,[],n⟩=Lt.ak n:=by simp [Lt.ac,Lt.aJ]
theorem EE {n:Int} (h:Lt.Plain n=n):Lt.ac ⟨3,[],n⟩=Lt.dK n:=by simp [Lt.ac,Lt.aJ,h]
theorem Un:Lt.ac ⟨4,[],0⟩=[110,117,108,108]:=by decide
theorem KT {n:Int} (h0:0<=n) (h1:n<=999):Lt.ac ⟨5,[],n⟩=35::Lt.ak n:=by simp [Lt.ac,Lt.aJ,h0,h1]
theorem Tw {s:List UInt8} (h:Lt.Name s=true):Lt.ac ⟨1,s,0⟩=s:=by simp [Lt.ac,Lt.aJ,h]
theorem VZ (s:List UInt8):Lt.lR s ⟨1,s,0⟩=Lt.Name s:=by
 unfold Lt.lR;rw [B9,nv];by_cases h:Lt.Name s=true
 ·rw [Tw h]; simp [Lt.aJ,h]
 ·simp [Lt.aJ,h]
theorem mf {a:Lt.Arg} (h:Lt.aJ a=true) (ok:a.ok):Lt.cm (Lt.ac a)=(a,true):=by
 obtain ⟨k,s,n⟩:=a;have ok:Lt.inR n:=ok
 rcases eY h with ⟨hk,hN,hn⟩ | ⟨hk,hs⟩ | ⟨hk,hs,hp⟩ | ⟨hk,hs,hn⟩ | ⟨hk,hs,h0,h1⟩
 ·simp only at hk hN hn; subst hk; subst hn
  rw [Tw hN];unfold Lt.cm;rw [VZ,if_pos hN]
 ·simp only at hk hs; subst hk; subst hs
  rw [DG];unfold Lt.cm;rw [VZ,Gx,ji ok];rw [if_neg (by decide),if_pos ((cV _ _).2 ⟨h,DG⟩)]
 ·simp only at hk hs hp; subst hk; subst hs
  rw [EE hp];have e:Lt.dK n=48::102::(Lt.dK n).drop 2:=rfl
  have hN:Lt.Name (Lt.dK n)=false:=by
   cases hN:Lt.Name (Lt.dK n) with
   | false=>rfl
   | true=>rw [e] at hN; have:=sI hN; revert this; decide
  have h2:∀ m,Lt.lR (Lt.dK n) ⟨2,[],m⟩=false:=by
   intro m;cases ht:Lt.lR (Lt.dK n) ⟨2,[],m⟩ with
   | false=>rfl
   | true=>
    have:=((cV _ _).1 ht).2
    rw [DG] at this;have hb:=jd m 102 (by rw [this,e]; simp)
    revert hb; decide
  unfold Lt.cm;rw [VZ,hN,h2,if_neg (by decide),if_neg (by decide)];have e3:(Lt.iw (Lt.dK n)).1=n:=by rw [<- wa,vb ok,kl]; exact hp
  rw [e3,if_pos ((cV _ _).2 ⟨h,EE hp⟩)]
 ·simp only at hk hs hn; subst hk; subst hs; subst hn
  decide +kernel
 ·simp only at hk hs h0 h1; subst hk; subst hs
  rw [KT h0 h1];have hN:Lt.Name (35::Lt.ak n)=false:=by
   cases hN:Lt.Name (35::Lt.ak n) with
   | false=>rfl
   | true=>have:=sI hN; revert this; decide
  have h2:∀ m,Lt.lR (35::Lt.ak n) ⟨2,[],m⟩=false:=by
   intro m;cases ht:Lt.lR (35::Lt.ak n) ⟨2,[],m⟩ with
   | false=>rfl
   | true=>
    have:=((cV _ _).1 ht).2
    rw [DG] at this;have hb:=jd m 35 (by rw [this]; simp)
    revert hb; decide
  have h3:∀ m,Lt.lR (35::Lt.ak n) ⟨3,[],m⟩=false:=by
   intro m;cases ht:Lt.lR (35::Lt.ak n) ⟨3,[],m⟩ with
   | false=>rfl
   | true=>
    obtain ⟨hr,this⟩:=(cV _ _).1 ht;rcases eY hr with h | h | h | h | h
    ·exact absurd h.1 (by show ¬ (3:Int)=1; decide)
    ·exact absurd h.1 (by show ¬ (3:Int)=2; decide)
    ·rw [EE h.2.2] at this;have e:Lt.dK m=48::102::(Lt.dK m).drop 2:=rfl
     rw [e] at this;simp at this
    ·exact absurd h.1 (by show ¬ (3:Int)=4; decide)
    ·exact absurd h.1 (by show ¬ (3:Int)=5; decide)
  have h4:Lt.lR (35::Lt.ak n) ⟨4,[],0⟩=false:=by
   cases ht:Lt.lR (35::Lt.ak n) ⟨4,[],0⟩ with
   | false=>rfl
   | true=>
    have:=((cV _ _).1 ht).2
    rw [Un] at this;simp at this
  have ed:(35::Lt.ak n).drop 1=Lt.ak n:=rfl
  unfold Lt.cm;rw [VZ,hN,h2,h3,h4,ed,ji ok,if_neg (by decide),if_neg (by decide),if_neg (by decide),if_neg (by decide),if_pos ((cV _ _).2 ⟨h,KT h0 h1⟩)]
theorem lY {s:List UInt8} (h:(Lt.cm s).2=true):Lt.aJ (Lt.cm s).1=true/\Lt.ac (Lt.cm s).1=s:=by
 unfold Lt.cm at h ⊢;split at h
 ·rename_i hc; rw [if_pos hc]; exact (cV _ _).1 hc
 rename_i n1; rw [if_neg n1];split at h
 ·rename_i hc; rw [if_pos hc]; exact (cV _ _).1 hc
 rename_i n2; rw [if_neg n2];split at h
 ·rename_i hc; rw [if_pos hc]; exact (cV _ _).1 hc
 rename_i n3; rw [if_neg n3];split at h
 ·rename_i hc; rw [if_pos hc]; exact (cV _ _).1 hc
 rename_i n4; rw [if_neg n4];split at h
 ·rename_i hc; rw [if_pos hc]; exact (cV _ _).1 hc
 ·cases h
theorem qR {objs:Bool} {a:Lt.Arg} (h:Lt.aZ objs a=true) (ok:a.ok):Lt.dC objs (Lt.ac a)=true:=by
 unfold Lt.aZ at h;simp only [ac9] at h;unfold Lt.dC;rw [mf h.1 ok];simpa using h.2
theorem mT {objs:Bool} {s:List UInt8} (h:Lt.dC objs s=true):Lt.aZ objs (Lt.cm s).1=true:=by
 unfold Lt.dC at h;simp only [ac9] at h;unfold Lt.aZ;rw [(lY h.1).1];simpa using h.2
theorem E9 {objs:Bool} {l:List Lt.Arg} (h:Lt.bx l objs=true) (ok:Lt.p7 l):Lt.dg (Lt.puts l) objs=(l,true):=by
 unfold Lt.bx at h;rw [adI] at h;unfold Lt.dg Lt.puts;have h1:(l.map Lt.ac).all (Lt.dC objs)=true:=by
  rw [adI];intro w hw;obtain ⟨a,ha,rfl⟩:=ad0.1 hw;exact qR (h a ha) (ok a ha)
 have h2:(l.map Lt.ac).map (fun w=>(Lt.cm w).1)=l:=by
  rw [adV];have:∀ a∈l,((fun w=>(Lt.cm w).1) ∘ Lt.ac) a=id a:=fun a ha=>by
   show (Lt.cm (Lt.ac a)).1=a
   have:=h a ha
   unfold Lt.aZ at this;simp only [ac9] at this;rw [mf this.1 (ok a ha)]
  rw [adU this,ahB]
 rw [if_pos h1,h2]
theorem mX {objs:Bool} {l:List (List UInt8)} (h:(Lt.dg l objs).2=true):Lt.bx (Lt.dg l objs).1 objs=true/\(Lt.dg l objs).1.length=l.length/\Lt.puts (Lt.dg l objs).1=l:=by
 unfold Lt.dg at h ⊢;split at h
 ·rename_i hc;rw [if_pos hc];rw [adI] at hc;refine ⟨?_,by simp,?_⟩
  ·unfold Lt.bx;rw [adI];intro a ha;obtain ⟨w,hw,rfl⟩:=ad0.1 ha;exact mT (hc w hw)
  ·unfold Lt.puts;rw [adV];have:∀ w∈l,(Lt.ac ∘ (fun w=>(Lt.cm w).1)) w=id w:=fun w hw=>by
    have:=hc w hw
    unfold Lt.dC at this;simp only [ac9] at this;exact (lY this.1).2
   rw [adU this,ahB]
 ·cases h
theorem sJ {objs:Bool}:∀ {l:List Lt.Bind},(∀ b∈l,Lt.Name b.Name=true/\Lt.aZ objs b.A=true/\b.A.ok)->Lt.bw objs (l.flatMap fun b=>[b.Name,Lt.ac b.A])=some l
 | [],_=>rfl
 | b::r,h=>by
  obtain ⟨h1,h2,h3⟩:=h b (by simp);have ih:=sJ (l:=r) (fun x hx=>h x (by simp [hx]))
  have ha:Lt.aJ b.A=true:=by
   unfold Lt.aZ at h2; simp only [ac9] at h2; exact h2.1
  rw [adS];show Lt.bw objs (b.Name::Lt.ac b.A::(r.flatMap fun b=>[b.Name,Lt.ac b.A]))=_
  rw [Lt.bw,aR,h1,qR h2 h3,ih,mf ha h3];rfl
theorem xu {objs:Bool}:∀ {l:List (List UInt8)} {x:List Lt.Bind},Lt.bw objs l=some x->(∀ b∈x,Lt.Name b.Name=true/\Lt.aZ objs b.A=true)/\(x.flatMap fun b=>[b.Name,Lt.ac b.A])=l
 | [],x,h=>by
  have:x=[]:=by simpa [Lt.bw] using h.symm
  subst this; simp
 | [_],x,h=>by simp [Lt.bw] at h
 | a::b::r,x,h=>by
  rw [Lt.bw] at h;split at h
  ·rename_i hc;rw [ac9,aR] at hc;cases hr:Lt.bw objs r with
   | none=>simp [hr] at h
   | some y=>
    obtain ⟨k1,k2⟩:=xu hr;simp [hr] at h;subst h;refine ⟨?_,?_⟩
    ·intro z hz;rcases adK.1 hz with rfl | hz
     ·exact ⟨hc.1,mT hc.2⟩
     ·exact k1 z hz
    ·rw [adS,k2];have:=hc.2
     unfold Lt.dC at this;simp only [ac9] at this;rw [(lY this.1).2]; rfl
  ·simp at h
theorem JD (w:List UInt8):∀ (l:List (List UInt8)) (n m:Int),Lt.OB w l n=(m,true)->∃ i:Nat,i<l.length/\m=n+(i:Int)/\l.getD i []=w
 | [],n,m,h=>by simp [Lt.OB] at h
 | x::r,n,m,h=>by
  rw [Lt.OB] at h;split at h
  ·rename_i hx;exact ⟨0,by simp,by simp at h; omega,by simpa using hx⟩
  ·obtain ⟨i,h1,h2,h3⟩:=JD w r _ _ h;exact ⟨i+1,by simp; omega,by omega,by simpa using h3⟩
theorem I3 {w:List UInt8} (h:(Lt.sOp w).2=true):(1<=(Lt.sOp w).1/\(Lt.sOp w).1<=34)/\(Lt.Of (Lt.sOp w).1).1.Word=w/\(Lt.Of (Lt.sOp w).1).2=true:=by
 have e:Lt.sOp w=((Lt.sOp w).1,true):=by rw [<- h]
 obtain ⟨i,h1,h2,h3⟩:=JD w (gw.drop 1) 1 (Lt.sOp w).1 e;have hi:i < 34:=h1
 have ho:=oc (Lt.sOp w).1
 have hr1:(Lt.rOf (Lt.sOp w).1).1.Word=gw.getD (Lt.sOp w).1.toNat default:=by
  unfold Lt.rOf; rw [if_neg (by omega)]
 have hr2:(Lt.rOf (Lt.sOp w).1).2=true:=by
  unfold Lt.rOf; rw [if_neg (by omega)]
 refine ⟨by omega,?_,?_⟩
 ·rw [<- ho.2.1,hr1,h2,<- h3,show (1+(i:Int)).toNat=1+i by omega,List.getD,List.getD,adW]; rfl
 ·rw [<- ho.1,hr2]
theorem Yy {op:Int} (h:(Lt.Of op).2=true):Lt.sOp (Lt.Of op).1.Word=(op,true):=by
 by_cases hc:1<=op/\op<=34
 ·obtain ⟨k,rfl⟩:=afJ (show 0<=op by omega);have hk:k < 35:=by omega
  have:∀ k:Fin 35,1<=k.1->Lt.sOp (Lt.Of (k.1:Int)).1.Word=((k.1:Int),true):=by decide +kernel
  exact this ⟨k,hk⟩ (by show 1<=k; omega)
 ·exfalso
  rw [<- (oc op).1] at h;unfold Lt.rOf at h;rw [if_pos (by omega)] at h;cases h
end Go.Am
end

section
namespace Go.Am
open Go
theorem cx (a b:List Lt.Line):Lt.ay (a++b)=Lt.ay a++Lt.ay b:=by simp [Lt.ay]
theorem kz (w:List (List UInt8)):Lt.ay [Lt.ln w]=Lt.lnT w:=by simp [Lt.ay,Lt.ln,Lt.lnT]
theorem mM {α:Type} (f:α->List (List UInt8)) (l:List α):Lt.ay (l.map fun x=>Lt.ln (f x))=l.flatMap fun x=>Lt.lnT (f x):=by
 induction l with
 | nil=>rfl
 | cons a r ih=>rw [List.map_cons,adS,<- ih,<- kz,<- cx]; rfl
theorem nq {α:Type} (f:α->List Lt.Line) (l:List α):Lt.ay (l.flatMap f)=l.flatMap fun x=>Lt.ay (f x):=by
 induction l with
 | nil=>rfl
 | cons a r ih=>rw [adS,adS,cx,ih]
theorem nD {α β:Type} {f g:α->List β} {l:List α} (h:∀ x∈l,f x=g x):l.flatMap f=l.flatMap g:=by
 induction l with
 | nil=>rfl
 | cons a r ih=>rw [adS,adS,h a (by simp),ih (fun x hx=>h x (by simp [hx]))]
theorem Q1 {i:Lt.Instr} (h:Lt.instr i=true):Lt.wD i=Lt.words i:=by
 have ho:=eP h
 obtain ⟨_,e2,e3,e4,_,_⟩:=oc i.Op;unfold Lt.wD Lt.words Lt.Jr Lt.puts;have ew:Lt.fX=Lt.ac:=funext nv
 rw [e2,e3,e4,ew];by_cases hc:i.Op=26\/i.Op=27
 ·have:=ho.least hc
  cases ha:i.Args with
  | nil=>rw [ha] at this; simp at this
  | cons a r=>rw [if_pos ⟨hc,by simp⟩,if_pos hc]; simp
 ·rw [if_neg (fun h=>hc h.1),if_neg hc]; simp
theorem rg {t:Lt.Term} (h:Lt.cr t=true) :
  (∃ x,t=⟨1,⟨0,[],0⟩,[x],0⟩/\Lt.Name x=true)\/(∃ a x y,t=⟨2,a,[x,y],0⟩/\Lt.aZ false a=true/\Lt.Name x=true/\Lt.Name y=true) \/
  (∃ a,t=⟨3,a,[],0⟩/\Lt.aZ false a=true)\/(∃ n,t=⟨4,⟨0,[],0⟩,[],n⟩):=by
 obtain ⟨k,a,to,n⟩:=t;unfold Lt.cr Lt.zT at h;simp only [ac9,adI] at h;obtain ⟨hto,h⟩:=h;split at h
 ·rename_i hk;simp only [ac9,decide_eq_true_eq] at h;obtain ⟨⟨rfl,hl⟩,rfl⟩:=h;subst hk
  match to,hl with
  | [x],_=>exact .inl ⟨x,rfl,hto x (by simp)⟩
 split at h
 ·rename_i hk;simp only [ac9,decide_eq_true_eq] at h;obtain ⟨⟨ha,hl⟩,rfl⟩:=h;subst hk
  match to,hl with
  | [x,y],_=>exact .inr (.inl ⟨a,x,y,rfl,ha,hto x (by simp),hto y (by simp)⟩)
 split at h
 ·rename_i hk;simp only [ac9,decide_eq_true_eq] at h;obtain ⟨⟨ha,hl⟩,rfl⟩:=h;subst hk
  match to,hl with
  | [],_=>exact .inr (.inr (.inl ⟨a,rfl,ha⟩))
 split at h
 ·rename_i hk;simp only [ac9,decide_eq_true_eq] at h;obtain ⟨rfl,hl⟩:=h;subst hk
  match to,hl with
  | [],_=>exact .inr (.inr (.inr ⟨n,rfl⟩))
 ·cases h
theorem Tx {t:Lt.Term} (h:Lt.cr t=true):Lt.LV t=Lt.lnT (Lt.dS t):=by
 unfold Lt.LV Lt.O4 Lt.dS Lt.yw;rcases rg h with ⟨x,rfl,_⟩ | ⟨a,x,y,rfl,_⟩ | ⟨a,rfl,_⟩ | ⟨n,rfl⟩
 ·rfl
 ·simp [nv]
 ·simp [nv]
 ·simp
theorem qY (first:List UInt8) (l:List Lt.Var):Lt.wo first l=Lt.ay (Lt.dA first l):=(mM (fun v:Lt.Var=>[first,v.Name,v.Type_]) l).symm
theorem So {i:Lt.Instr} (h:Lt.instr i=true):Lt.wU i=Lt.ay (Lt.dO i):=by
 have ew:Lt.fX=Lt.ac:=funext nv
 unfold Lt.wU Lt.dO;rw [cx,cx,kz,mM,mM,Q1 h];unfold Lt.np Lt.fZ Lt.tb Lt.lz Lt.puts;rw [ew]; rfl
theorem Me {b:Lt.Block} (h:Lt.block b=true):Lt.qN b=Lt.ay (Lt.bB b):=by
 have ew:Lt.fX=Lt.ac:=funext nv
 obtain ⟨_,he,_,hc⟩:=mP h;unfold Lt.qN Lt.bB;rw [cx,cx,cx,kz,mM,nq,kz,Tx he,nD (fun x hx=>So (hc x hx))];unfold Lt.A0 Lt.sN;rw [ew]
theorem Se {f:Lt.Func} (h:Lt.ax f=true):Lt.wc f=Lt.ay (Lt.cK f):=by
 have ho:=nX h
 unfold Lt.wc Lt.cK;rw [cx,cx,cx,kz,nq,<- qY,<- qY,nD (fun x hx=>Me (ho.bl x hx))]
theorem xh {p:Lt.Program} (h:Lt.bb p=true):Lt.s8 p=Lt.ay (Lt.di p):=by
 have ho:=qL h
 unfold Lt.s8 Lt.di;rw [cx,cx,cx,cx,nq,nq,<- qY,nD (fun x hx=>Se (ho.fn x hx))];have e1:p.Classes.flatMap Lt.qx=p.Classes.flatMap fun x=>Lt.ay (Lt.cQ x):=nD (fun c _=>by
  unfold Lt.qx Lt.cQ; rw [cx,kz,<- qY])
 have e2:p.Externs.flatMap Lt.pH=Lt.ay (p.Externs.map Lt.gM):=(mM (fun x:Lt.Extern=>[[101,120,116,101,114,110],x.Name,Lt.number x.N]) p.Externs).symm
 have e3:(if p.SSA=true then Lt.lnT [[115,115,97]] else [])=Lt.ay (if p.SSA=true then [Lt.ln [[115,115,97]]] else []):=by
  split
  ·exact (kz _).symm
  ·rfl
 rw [e1,e2,e3]
def oz (c:UInt8):Bool:=decide (33<=c.toNat)&&decide (c.toNat<=126)&&!decide (c=59)
def eL (w:List UInt8):Prop:=w≠[]/\∀ c∈w,oz c=true
def rJ (x:Lt.Line):Prop:=x.Words≠[]/\∀ w∈x.Words,eL w
theorem aM {w:List UInt8} (h:(!decide (w=[])&&w.all oz)=true):eL w:=by
 simp only [ac9,aeJ,decide_eq_false_iff_not,adI] at h;exact h
theorem C8 {c:UInt8} (h:Lt.g6 c=true):oz c=true:=by
 unfold Lt.g6 Lt.letter Lt.tZ Lt.fW at h;unfold oz;simp only [ad4,ac9,decide_eq_true_eq,aeJ,decide_eq_false_iff_not] at h ⊢;refine ⟨⟨by omega,by omega⟩,?_⟩;rintro rfl
 simp at h
theorem bC {s:List UInt8} (h:Lt.Name s=true):eL s:=by
 unfold Lt.Name at h;simp only [ac9,aeJ,decide_eq_false_iff_not,adI] at h;exact ⟨h.1.1.1.1,fun c hc=>C8 (h.2 c hc)⟩
theorem ER {s:List UInt8} (h:Lt.kind s=true):eL s:=by
 unfold Lt.kind at h;simp only [ad4,decide_eq_true_eq] at h;rcases h with (rfl | rfl) | h
 ·exact aM (by decide)
 ·exact aM (by decide)
 ·exact bC h
theorem pe (n:Int):eL (Lt.ak n):=by
 refine ⟨q7 n,fun c hc=>?_⟩;rcases jd n c hc with rfl | h
 ·decide
 ·unfold oz;simp only [ac9,decide_eq_true_eq,aeJ,decide_eq_false_iff_not];refine ⟨⟨by omega,by omega⟩,?_⟩;rintro rfl
  simp at h
theorem Rd (k:Nat):oz (kn k)=true:=by
 unfold kn;have h:k % 16 < 16:=afO _ (by decide)
 generalize k % 16=j at h;have:∀ j:Fin 16,oz (Sv.getD j.1 0)=true:=by decide
 exact this ⟨j,h⟩
theorem UK (n:Int):eL (Lt.dK n):=by
 refine ⟨by simp [Lt.dK],fun c hc=>?_⟩;rw [<- wa] at hc;unfold Lt.om at hc;rw [gP,zg 16 _ _ (BitVec.isLt _),aeO] at hc;rcases adJ.1 hc with hc | hc
 ·simp only [adK,aeQ,or_false] at hc;rcases hc with rfl | rfl <;> decide
 ·obtain ⟨i,_,rfl⟩:=ad0.1 hc;exact Rd _
theorem QX {a:Lt.Arg} (h:Lt.aJ a=true):eL (Lt.ac a):=by
 obtain ⟨k,s,n⟩:=a;rcases eY h with ⟨hk,hN,hn⟩ | ⟨hk,hs⟩ | ⟨hk,hs,hp⟩ | ⟨hk,hs,hn⟩ | ⟨hk,hs,h0,h1⟩
 ·simp only at hk hN hn; subst hk; subst hn
  rw [Tw hN]; exact bC hN
 ·simp only at hk hs; subst hk; subst hs
  rw [DG]; exact pe n
 ·simp only at hk hs hp; subst hk; subst hs
  rw [EE hp]; exact UK n
 ·simp only at hk hs hn; subst hk; subst hs; subst hn
  rw [Un]; exact aM (by decide)
 ·simp only at hk hs h0 h1; subst hk; subst hs
  rw [KT h0 h1];refine ⟨by simp,fun c hc=>?_⟩;rcases adK.1 hc with rfl | hc
  ·decide
  ·exact (pe n).2 c hc
theorem pM {objs:Bool} {a:Lt.Arg} (h:Lt.aZ objs a=true):eL (Lt.ac a):=by
 unfold Lt.aZ at h;simp only [ac9] at h;exact QX h.1
theorem D3 {objs:Bool} {l:List Lt.Arg} (h:Lt.bx l objs=true):∀ w∈Lt.puts l,eL w:=by
 intro w hw;obtain ⟨a,ha,rfl⟩:=ad0.1 hw;unfold Lt.bx at h;exact pM (adI.1 h a ha)
theorem Yv {op:Int} (h:(Lt.Of op).2=true):eL (Lt.Of op).1.Word:=by
 by_cases hc:1<=op/\op<=34
 ·obtain ⟨k,rfl⟩:=afJ (show 0<=op by omega);have hk:k < 35:=by omega
  have:∀ k:Fin 35,1<=k.1->(!decide ((Lt.Of (k.1:Int)).1.Word=[])&&(Lt.Of (k.1:Int)).1.Word.all oz)=true:=by decide +kernel
  exact aM (this ⟨k,hk⟩ (by show 1<=k; omega))
 ·exfalso
  rw [<- (oc op).1] at h;unfold Lt.rOf at h;rw [if_pos (by omega)] at h;cases h
theorem am {w:List UInt8} {l:List (List UInt8)} (h:eL w) (hl:∀ v∈l,eL v):∀ v∈w::l,eL v:=by
 intro v hv;rcases adK.1 hv with rfl | hv
 ·exact h
 ·exact hl v hv
theorem bQ:∀ v∈([]:List (List UInt8)),eL v:=by simp
theorem iX {a b:List (List UInt8)} (h:∀ v∈a,eL v) (hl:∀ v∈b,eL v):∀ v∈a++b,eL v:=by
 intro v hv;rcases adJ.1 hv with hv | hv
 ·exact h v hv
 ·exact hl v hv
theorem EI {α:Type} {n:α->List UInt8} {a:α->List UInt8} {l:List α} (h:∀ x∈l,eL (n x)/\eL (a x)):∀ v∈l.flatMap (fun x=>[n x,a x]),eL v:=by
 intro v hv;obtain ⟨x,hx,hv⟩:=afE.1 hv;simp only [adK,aeQ,or_false] at hv;rcases hv with rfl | rfl
 ·exact (h x hx).1
 ·exact (h x hx).2
theorem N5 {i:Lt.Instr} (h:Lt.instr i=true):rJ (Lt.ln (Lt.words i)):=by
 have ho:=eP h
 have hp:=D3 ho.aok
 refine ⟨by simp [Lt.ln,Lt.words],?_⟩;show ∀ w∈Lt.words i,eL w
 unfold Lt.words;refine iX (iX ?_ (am (Yv ho.of) bQ)) ?_
 ·split
  ·rename_i hd; exact am (bC (ho.dstN hd)) (am (aM (by decide)) bQ)
  ·exact bQ
 ·split
  ·rename_i hc;have hl:=ho.least hc
   have hN:(Lt.Of i.Op).1.Named=true:=by rcases hc with e | e <;> rw [e] <;> decide +kernel
   cases ha:i.Args with
   | nil=>rw [ha] at hl; simp at hl
   | cons a r=>
    rw [ha] at hp;exact am (hp _ (by simp [Lt.puts])) (am (bC (ho.nmN hN)) (fun v hv=>hp v (by
     have:v∈r.map Lt.ac:=hv
     simp [Lt.puts]; right; simpa using this)))
  ·refine iX ?_ hp;split
   ·rename_i hd; exact am (bC (ho.nmN hd)) bQ
   ·exact bQ
theorem ny {first:List UInt8} (hf:eL first) {l:List Lt.Var} {n:Int} (h:Lt.typed l n=true):∀ x∈Lt.dA first l,rJ x:=by
 intro x hx;obtain ⟨v,hv,rfl⟩:=ad0.1 hx;unfold Lt.typed at h;simp only [ac9,adI] at h;have:=h.2 v hv
 exact ⟨by simp [Lt.ln],am hf (am (bC this.1) (am (ER this.2) bQ))⟩
theorem Oh {i:Lt.Instr} (h:Lt.instr i=true):∀ x∈Lt.dO i,rJ x:=by
 have ho:=eP h
 unfold Lt.dO;intro x hx;rcases adJ.1 hx with hx | hx
 ·rcases adJ.1 hx with hx | hx
  ·rw [adM.1 hx]; exact N5 h
  ·obtain ⟨f,hf,rfl⟩:=ad0.1 hx;obtain ⟨h1,h2,_,_,_,h3⟩:=qi (ho.fr f hf);refine ⟨by simp [Lt.ln,Lt.fZ],iX (am (aM (by decide)) (am (bC h1) (am (bC h2) (am (pe _) bQ)))) (EI (fun b hb=>?_))⟩;have:=h3 b hb
   unfold Lt.gn at this;simp only [ac9] at this;exact ⟨bC this.1,pM this.2⟩
 ·obtain ⟨o,hm,rfl⟩:=ad0.1 hx;obtain ⟨h1,_,h3⟩:=yZ (ho.ob o hm);exact ⟨by simp [Lt.ln,Lt.lz],iX (am (aM (by decide)) (am (bC h1) bQ)) (D3 h3)⟩
theorem IG {b:Lt.Block} (h:Lt.block b=true):∀ x∈Lt.bB b,rJ x:=by
 obtain ⟨hn,he,hp,hc⟩:=mP h;unfold Lt.bB;intro x hx;rcases adJ.1 hx with hx | hx
 ·rcases adJ.1 hx with hx | hx
  ·rcases adJ.1 hx with hx | hx
   ·rw [adM.1 hx];exact ⟨by simp [Lt.ln],am (aM (by decide)) (am (bC hn) bQ)⟩
   ·obtain ⟨y,hy,rfl⟩:=ad0.1 hx;obtain ⟨h1,_,_,h3⟩:=Cj (hp y hy);refine ⟨by simp [Lt.ln,Lt.sN],iX (am (aM (by decide)) (am (bC h1) bQ)) (EI (fun i hi=>?_))⟩;have:=h3 i hi
    unfold Lt.lb at this;simp only [ac9] at this;exact ⟨bC this.1,pM this.2⟩
  ·obtain ⟨i,hi,hx⟩:=afE.1 hx;exact Oh (hc i hi) x hx
 ·rw [adM.1 hx];generalize b.End=t at he;rcases rg he with ⟨x,rfl,h1⟩ | ⟨a,x,y,rfl,h1,h2,h3⟩ | ⟨a,rfl,h1⟩ | ⟨n,rfl⟩
  ·exact ⟨by simp [Lt.ln,Lt.dS],am (aM (by decide)) (am (bC h1) bQ)⟩
  ·exact ⟨by simp [Lt.ln,Lt.dS],am (aM (by decide)) (am (pM h1) (am (bC h2) (am (bC h3) bQ)))⟩
  ·exact ⟨by simp [Lt.ln,Lt.dS],am (aM (by decide)) (am (pM h1) bQ)⟩
  ·exact ⟨by simp [Lt.ln,Lt.dS],am (aM (by decide)) (am (pe _) bQ)⟩
theorem M1 {f:Lt.Func} (h:Lt.ax f=true):∀ x∈Lt.cK f,rJ x:=by
 have ho:=nX h
 unfold Lt.cK;intro x hx;rcases adJ.1 hx with hx | hx
 ·rcases adJ.1 hx with hx | hx
  ·rcases adJ.1 hx with hx | hx
   ·rw [adM.1 hx];exact ⟨by simp [Lt.ln],am (aM (by decide)) (am (bC ho.name) (am (ER ho.res) bQ))⟩
   ·exact ny (aM (by decide)) ho.params x hx
  ·exact ny (aM (by decide)) ho.vars x hx
 ·obtain ⟨b,hb,hx⟩:=afE.1 hx;exact IG (ho.bl b hb) x hx
theorem Mp {p:Lt.Program} (h:Lt.bb p=true):∀ x∈Lt.di p,rJ x:=by
 have ho:=qL h
 unfold Lt.di;intro x hx;rcases adJ.1 hx with hx | hx
 ·rcases adJ.1 hx with hx | hx
  ·rcases adJ.1 hx with hx | hx
   ·rcases adJ.1 hx with hx | hx
    ·split at hx
     ·rw [adM.1 hx];exact ⟨by simp [Lt.ln],am (aM (by decide)) bQ⟩
     ·cases hx
    ·obtain ⟨c,hc,hx⟩:=afE.1 hx;have hr:=ho.cl c hc
     unfold Lt.bD at hr;simp only [ac9] at hr;unfold Lt.cQ at hx;rcases adJ.1 hx with hx | hx
     ·rw [adM.1 hx];exact ⟨by simp [Lt.ln],am (aM (by decide)) (am (bC hr.1) bQ)⟩
     ·exact ny (aM (by decide)) hr.2 x hx
   ·exact ny (aM (by decide)) ho.glob x hx
  ·obtain ⟨e,he,rfl⟩:=ad0.1 hx;have hr:=ho.ex e he
   unfold Lt.bT at hr;simp only [ac9] at hr;exact ⟨by simp [Lt.ln,Lt.gM],am (aM (by decide)) (am (bC hr.1.1) (am (pe _) bQ))⟩
 ·obtain ⟨f,hf,hx⟩:=afE.1 hx;exact M1 (ho.fn f hf) x hx
theorem r8:∀ (w r:List UInt8) (k:Lt.Cut),(∀ c∈w,oz c=true)->k.remark=false->Lt.cq (w++r) k=Lt.cq r { k with w:=k.w++w }
 | [],r,k,_,_=>by simp
 | c::w,r,k,h,hr=>by
  have hc:=h c (by simp)
  unfold oz at hc;simp only [ac9,decide_eq_true_eq,aeJ,decide_eq_false_iff_not] at hc;have n10:¬ c=10:=by rintro rfl; simp at hc
  have n32:¬ c=32:=by rintro rfl; simp at hc
  have n9:¬ c=9:=by rintro rfl; simp at hc
  have eb:k.byte c={ k with w:=k.w++[c] }:=by
   unfold Lt.Cut.byte;rw [if_neg hc.2,if_neg (by simp [hr,n32,n9])];have:(decide (c.toNat < 33)||decide (126<c.toNat))=false:=by simp; omega
   rw [this,afK]
  rw [aeM,Lt.cq,if_neg n10,eb,r8 w r { k with w:=k.w++[c] } (fun x hx=>h x (by simp [hx])) hr];simp
theorem Aw:∀ (ws:List (List UInt8)) (r:List UInt8) (out:List Lt.RLine) (l:List (List UInt8)) (w:List UInt8) (n:Int),(∀ v∈ws,eL v)->w≠[] ->
  Lt.cq (Lt.jw true ws++10::r) ⟨out,l,w,n,false,false⟩=Lt.cq r ⟨out++[⟨n,l++w::ws⟩],[],[],n+1,false,false⟩
 | [],r,out,l,w,n,_,hw=>by
  rw [Lt.jw,ad6,Lt.cq,if_pos rfl,if_neg (show ¬ false=true by decide)];simp [Lt.Cut.line,Lt.Cut.word,hw]
 | v::vs,r,out,l,w,n,h,hw=>by
  have hv:=h v (by simp)
  rw [Lt.jw,if_pos rfl];show Lt.cq (32::(v++Lt.jw true vs++10::r)) _=_
  rw [Lt.cq,if_neg (by decide)];have eb:(⟨out,l,w,n,false,false⟩:Lt.Cut).byte 32=⟨out,l++[w],[],n,false,false⟩:=by
   unfold Lt.Cut.byte;rw [if_neg (by decide),if_pos (show (false||decide ((32:UInt8)=32)||decide ((32:UInt8)=9))=true from rfl)];simp [Lt.Cut.word,hw]
  rw [eb,aeI,r8 v _ _ hv.2 rfl];simp only [ad6];rw [Aw vs r out (l++[w]) v n (fun x hx=>h x (by simp [hx])) hv.1];simp
def numb:Int->List Lt.Line->List Lt.RLine
 | _,[]=>[]
 | n,x::t=>⟨n,x.Words⟩::numb (n+1) t
theorem ya:∀ (L:List Lt.Line) (out:List Lt.RLine) (n:Int),(∀ x∈L,rJ x)->Lt.cq (Lt.ay L) ⟨out,[],[],n,false,false⟩=(out++numb n L,0,0)
 | [],out,n,_=>by simp [Lt.ay,Lt.cq,Lt.Cut.line,Lt.Cut.word,numb]
 | x::t,out,n,h=>by
  obtain ⟨hne,hx⟩:=h x (by simp);cases hw:x.Words with
  | nil=>exact absurd hw hne
  | cons w ws=>
   rw [hw] at hx;have hv:=hx w (by simp)
   have e:Lt.ay (x::t)=w++(Lt.jw true ws++10::Lt.ay t):=by
    simp [Lt.ay,hw,Lt.jw]
   rw [e,r8 w _ _ hv.2 rfl];simp only [ad6];rw [Aw ws _ out [] w n (fun v hv=>hx v (by simp [hv])) hv.1,ya t _ _ (fun y hy=>h y (by simp [hy]))];simp [numb,hw]
theorem MR {L:List Lt.Line} (h:∀ x∈L,rJ x) (hl:(Lt.ay L).length<=4194304):Lt.cZ (Lt.ay L)=(numb 1 L,0,0):=by
 unfold Lt.cZ;rw [if_neg (by omega),ya L [] 1 h]; rfl
end Go.Am
end

section
namespace Go.Am
open Go
theorem kD {β:Type} (c:Bool) (x:β) (n:Int) (K:β->Prop) (KP:Value->Prop):exQ (if c=true then .ok x else .error (Lt.flt n)) K KP=if c=true then K x else KP (Lt.flt n):=by
 cases c <;> rfl
theorem QU (w:List UInt8) (KK:List UInt8->Prop) (KP:Value->Prop) (h:exQ (Lt.cv w) KK KP):F8 w KK KP:=by
 unfold F8;unfold Lt.cv at h;rw [kD] at h;cases hn:Lt.Name w <;> simpa [hn] using h
theorem Ry (w:List UInt8) (KK:List UInt8->Prop) (KP:Value->Prop) (h:exQ (Lt.gD w) KK KP):Gb w KK KP:=by
 unfold Gb;unfold Lt.gD at h;rw [kD] at h;simp only [al,bL,aQ,afV,adB,if_false];unfold Lt.pg at h;rw [aR] at h;cases hn:Lt.Name w <;> by_cases h1:w=[105,110,116] <;> by_cases h2:w=[102,108,111,97,116] <;> simpa [hn,h1,h2] using h
theorem VV (l:List Int) (n:Int) (KK:Bool->Prop) (h:KK (Lt.gO l n)):NJ l n KK:=by
 unfold NJ;refine fun hl=>nS l hl (fun (_:Unit) i=>i) (fun t _=>t.contains n) KK _ (fun R _ i hi ih h=>?_) (fun R _ h=>?_) () h
 ·simp only [cX hi,if_true,Int.toNat_natCast];refine ⟨⟨adC i,hi⟩,?_⟩;by_cases hc:l.getD i default=n
  ·rw [if_pos (by simpa using hc)];rw [afQ,hc] at h;simpa using h
  ·rw [if_neg (by simpa using hc)];refine ih () ?_;rw [afQ,show (n==l.getD i default)=false from beq_eq_false_iff_ne.2 (fun e=>hc e.symm),afF] at h;exact h
 ·simp only [dz,adB,if_false]; exact h
theorem IU (w:List UInt8) (a b:Int) (KK:Int->Prop) (KP:Value->Prop) (h:exQ (Lt.nK w a b) KK KP):vI w a b KK KP:=by
 unfold vI;unfold Lt.nK at h;rw [kD] at h;dsimp +instances only [Lt.eH]
 cases h1:(Lt.aY w).2 <;> by_cases h2:a<=(Lt.aY w).1 <;> by_cases h3:(Lt.aY w).1<=b <;> simpa [h1,h2,h3,al,aQ] using h
theorem VQ (w:List UInt8) (o:Bool) (KK:Lt.Arg->Prop) (KP:Value->Prop) (h:exQ (Lt.yB w o) KK KP):Ma w o KK KP:=by
 unfold Ma;unfold Lt.yB at h;rw [kD] at h;unfold Lt.dC at h;dsimp +instances only [Lt.nU]
 cases h1:(Lt.cm w).2 <;> cases o <;> by_cases h2:(Lt.cm w).1.Kind=5 <;> simpa [h1,h2,al,aQ] using h
theorem AH (s:List UInt8) (KK:Lt.Arg×Bool->Prop) (h:KK (Lt.iz s)):nW s KK:=by
 unfold nW;unfold Lt.iz at h;simp only [Lt.wu,Lt.eH]
 grind
end Go.Am
end

section
namespace Go.Am
open Go
section
variable {r:Lt.Reader} {w:Int} (K:Unit->Lt.Reader->Prop) (KP:Value->Lt.Reader->Prop)
theorem fS (c:Prop) [Decidable c] (x y:Int×Lt.Read):exP (Lt.gE r (if c then x else y) w) K KP=if c then exP (Lt.gE r x w) K KP else exP (Lt.gE r y w) K KP:=by split <;> rfl
theorem mN (x:Lt.Read):exP (Lt.gE r (3,x) w) K KP=KP (Lt.flt 3) r:=rfl
theorem O6 (x:Lt.Read):exP (Lt.gE r (2,x) w) K KP=KP (Lt.flt 2) r:=rfl
theorem Jt (x:Lt.Read):exP (Lt.gE r (0,x) w) K KP=K () ⟨x.P,r.at_,w,r.first,x.Long⟩:=rfl
theorem si (c:Prop) [Decidable c] (x:Lt.Read):exP (Lt.gE r (if c then 2 else 0,x) w) K KP=if c then KP (Lt.flt 2) r else K () ⟨x.P,r.at_,w,r.first,x.Long⟩:=by split <;> rfl
end
theorem BS {r:Lt.Reader} (hw:0<=r.where_/\r.where_<=7):Lt.gO [0,1] r.where_=r.abs.out:=by
 unfold Lt.gO Lt.Read.out Lt.Reader.abs;dsimp only;by_cases h0:r.where_=0
 ·rw [if_pos h0]; by_cases hl:0<=r.long <;> simp [h0,hl]
 ·rw [if_neg h0];by_cases h1:r.where_=1
  ·simp [h1]
  ·rw [if_neg h1];have a:¬ r.where_+1<=2:=by omega
   have b:¬ r.where_+1=9:=by omega
   simp [a,b,h0,h1]
theorem dU (w:List UInt8) (K:List UInt8->Prop) (KP:Value->Prop):exQ (Lt.cv w) K KP=if Lt.bV w=true then K w else KP (Lt.flt 3):=by
 unfold Lt.cv; rw [kD,aR]
theorem oq (r:Lt.Reader):r.abs.P=r.p:=rfl
theorem acM (r:Lt.Reader):r.abs.Long=r.long:=rfl
theorem Nj (r:Lt.Reader) (l:List (List UInt8)) (hp:Lt.az r l) (KK:Unit×Lt.Reader->Prop) (KP:Value->Lt.Reader->Prop) (h:exP (Lt.BG r l) (fun z x=>KK (z,x)) KP):zw r l KK KP:=by
 obtain ⟨⟨hi,hw,_,_⟩,hne,hr⟩:=hp;unfold zw;unfold Lt.BG at h;unfold Lt.dk at h;simp only [fS,mN,O6,Jt] at h;simp only [BS hw,dU,show l.getD 1 default=Lt.w1 l from rfl];generalize Lt.bV (Lt.w1 l)=nm at h ⊢;generalize r.abs.out=o at h ⊢;cases o with
 | false=>simpa using h
 | true=>
  refine ifk (fun hc=>by simp at hc) (fun _=>fun _=>?_);by_cases h2:l.length=2
  ·refine ifk (fun hc=>by simp [h2] at hc) (fun _=>⟨⟨by decide,by omega⟩,trivial,?_⟩);cases nm with
   | false=>simpa using h
   | true=>
    rw [if_neg (by simp [h2])] at h;simp only [if_true,al,au,and_self];refine fun _=>ifk (fun hc=>?_) (fun hc=>?_)
    ·rw [if_pos (show 8<=r.abs.P.Classes.length by rw [oq]; simp only [decide_eq_true_eq] at hc; omega)] at h; exact h
    ·rw [if_neg (show ¬ 8<=r.abs.P.Classes.length by rw [oq]; simp only [decide_eq_true_eq] at hc; omega)] at h;have h8:r.p.Classes.length < 8:=by simp only [decide_eq_true_eq] at hc; omega
     rw [adX];exact ⟨⟨by omega,by omega⟩,h⟩
  ·rw [if_pos (by simp [h2])] at h;exact ifk (fun _=>h) (fun hc=>by simp at hc; omega)
theorem oS (w:List UInt8) (K:List UInt8->Prop) (KP:Value->Prop):exQ (Lt.gD w) K KP=if Lt.pg w=true then K w else KP (Lt.flt 3):=by
 unfold Lt.gD; rw [kD]
theorem IQ (r:Lt.Reader) (l:List (List UInt8)) (hp:Lt.az r l) (KK:Unit×Lt.Reader->Prop) (KP:Value->Lt.Reader->Prop) (h:exP (Lt.u9 r l) (fun z x=>KK (z,x)) KP):xa r l KK KP:=by
 obtain ⟨⟨hi,hw,_,_⟩,hne,hr⟩:=hp;have h8:=hi.1
 unfold xa;unfold Lt.u9 Lt.da Lt.fv at h;simp only [fS,mN,si] at h;dsimp only;simp only [BS hw,dU,oS,show l.getD 1 default=Lt.w1 l from rfl,show l.getD 2 default=Lt.w2 l from rfl,show l.getD 1 []=Lt.w1 l from rfl,show l.getD 2 []=Lt.w2 l from rfl,al,au,aA,bL,aQ,and_self,true_and] at h ⊢;generalize Lt.bV (Lt.w1 l)=nm at h ⊢;generalize Lt.pg (Lt.w2 l)=kd at h ⊢;generalize r.abs.out=o at h ⊢;cases o with
 | false=>simpa using h
 | true=>
  refine ifk (fun hc=>by simp at hc) (fun _=>fun _=>?_);by_cases h3:l.length=3
  ·refine ifk (fun hc=>by simp [h3] at hc) (fun _=>⟨⟨by decide,by omega⟩,⟨by decide,by omega⟩,?_⟩);cases nm with
   | false=>simpa using h
   | true=>
    cases kd with
    | false=>simpa [h3] using h
    | true=>
     rw [if_neg (by simp [h3])] at h;simp only [if_true];refine fun _=>ifk (fun hc=>?_) (fun hc=>?_)
     ·rw [if_pos (show 8<=r.abs.P.Globals.length by rw [oq]; simp only [decide_eq_true_eq] at hc; omega)] at h; exact h
     ·rw [if_neg (show ¬ 8<=r.abs.P.Globals.length by rw [oq]; simp only [decide_eq_true_eq] at hc; omega)] at h;have h9:r.p.Globals.length < 8:=by simp only [decide_eq_true_eq] at hc; omega
      rw [adX];exact ⟨⟨by omega,by omega⟩,h⟩
  ·rw [if_pos (by simp [h3])] at h;exact ifk (fun _=>h) (fun hc=>by simp at hc; omega)
theorem C6 (r:Lt.Reader) (l:List (List UInt8)) (hp:Lt.az r l) (KK:Unit×Lt.Reader->Prop) (KP:Value->Lt.Reader->Prop) (h:exP (Lt.lV r l) (fun z x=>KK (z,x)) KP):pP r l KK KP:=by
 obtain ⟨⟨hi,hw,_,_⟩,hne,hr⟩:=hp;have h8:=hi.1
 unfold pP;unfold Lt.lV Lt.fp Lt.fv at h;simp only [fS,mN,si] at h;dsimp only;simp only [BS hw,dU,oS,show l.getD 1 default=Lt.w1 l from rfl,show l.getD 2 default=Lt.w2 l from rfl,show l.getD 1 []=Lt.w1 l from rfl,show l.getD 2 []=Lt.w2 l from rfl,al,au,aA,bL,aQ,and_self,true_and] at h ⊢;generalize Lt.bV (Lt.w1 l)=nm at h ⊢;generalize Lt.pg (Lt.w2 l)=kd at h ⊢;generalize r.abs.out=o at h ⊢;cases o with
 | false=>simpa using h
 | true=>
  refine ifk (fun hc=>by simp at hc) (fun _=>fun _=>?_);by_cases h3:l.length=3
  ·refine ifk (fun hc=>by simp [h3] at hc) (fun _=>⟨⟨by decide,by omega⟩,⟨by decide,by omega⟩,?_⟩);cases nm with
   | false=>simpa using h
   | true=>
    cases kd with
    | false=>simpa [h3] using h
    | true=>
     rw [if_neg (by simp [h3])] at h;simp only [if_true];refine fun _=>ifk (fun hc=>?_) (fun hc=>?_)
     ·rw [if_pos (show 8<=r.abs.P.Funcs.length by rw [oq]; simp only [decide_eq_true_eq] at hc; omega)] at h; exact h
     ·rw [if_neg (show ¬ 8<=r.abs.P.Funcs.length by rw [oq]; simp only [decide_eq_true_eq] at hc; omega)] at h;have h9:r.p.Funcs.length < 8:=by simp only [decide_eq_true_eq] at hc; omega
      rw [adX];exact ⟨⟨by omega,by omega⟩,h⟩
  ·rw [if_pos (by simp [h3])] at h;exact ifk (fun _=>h) (fun hc=>by simp at hc; omega)
theorem Bx (w:List UInt8) (a b:Int) (K:Int->Prop) (KP:Value->Prop):exQ (Lt.nK w a b) K KP=if ((Lt.aY w).2&&decide (a<=(Lt.aY w).1)&&decide ((Lt.aY w).1<=b))=true then K (Lt.aY w).1 else KP (Lt.flt 3):=by
 unfold Lt.nK; rw [kD,Bool.and_assoc]
theorem Ix (r:Lt.Reader) (l:List (List UInt8)) (hp:Lt.az r l) (KK:Unit×Lt.Reader->Prop) (KP:Value->Lt.Reader->Prop) (h:exP (Lt.uf r l) (fun z x=>KK (z,x)) KP):wV r l KK KP:=by
 obtain ⟨⟨hi,hw,_,_⟩,hne,hr⟩:=hp;unfold wV;unfold Lt.uf Lt.cY at h;simp only [fS,mN,si] at h;dsimp only;simp only [BS hw,dU,Bx,show l.getD 1 default=Lt.w1 l from rfl,show l.getD 2 default=Lt.w2 l from rfl,al,au,aA,bL,aQ,and_self,true_and] at h ⊢;generalize Lt.bV (Lt.w1 l)=nm at h ⊢;generalize ((Lt.aY (Lt.w2 l)).2&&decide (0<=(Lt.aY (Lt.w2 l)).1)&&decide ((Lt.aY (Lt.w2 l)).1<=8))=kd at h ⊢;generalize r.abs.out=o at h ⊢;cases o with
 | false=>simpa using h
 | true=>
  refine ifk (fun hc=>by simp at hc) (fun _=>fun _=>?_);by_cases h3:l.length=3
  ·refine ifk (fun hc=>by simp [h3] at hc) (fun _=>⟨⟨by decide,by omega⟩,⟨by decide,by omega⟩,?_⟩);cases nm with
   | false=>simpa using h
   | true=>
    cases kd with
    | false=>simpa [h3] using h
    | true=>
     rw [if_neg (by simp [h3])] at h;simp only [if_true];refine fun _=>ifk (fun hc=>?_) (fun hc=>?_)
     ·rw [if_pos (show 8<=r.abs.P.Externs.length by rw [oq]; simp only [decide_eq_true_eq] at hc; omega)] at h; exact h
     ·rw [if_neg (show ¬ 8<=r.abs.P.Externs.length by rw [oq]; simp only [decide_eq_true_eq] at hc; omega)] at h;have h9:r.p.Externs.length < 8:=by simp only [decide_eq_true_eq] at hc; omega
      rw [adX];exact ⟨⟨by omega,by omega⟩,h⟩
  ·rw [if_pos (by simp [h3])] at h;exact ifk (fun _=>h) (fun hc=>by simp at hc; omega)
theorem VX (r:Lt.Reader) (l:List (List UInt8)) (hp:Lt.az r l) (KK:Unit×Lt.Reader->Prop) (KP:Value->Lt.Reader->Prop) (h:exP (Lt.TG r l) (fun z x=>KK (z,x)) KP):Mb r l KK KP:=by
 unfold Mb;unfold Lt.TG at h;simp only [fS,mN,Jt] at h;simp only [al,au,aA,bL,aQ];generalize r.first=f at h ⊢;cases f with
 | false=>simpa using h
 | true=>
  by_cases h1:l.length=1
  ·simpa [h1,acM] using h
  ·rw [if_pos (by simp [h1])] at h;rw [if_pos rfl];exact ifk (fun _=>h) (fun hc=>by simp at hc; omega)
end Go.Am
end

section
namespace Go.Am
open Go
theorem CA {r:Lt.Reader} (hw:0<=r.where_/\r.where_<=7) {n:Int} (h2:2<=n) (h7:n<=7):Lt.gO [n] r.where_=decide (r.abs.Where=n+1):=by
 unfold Lt.gO Lt.Reader.abs;dsimp only;rw [afI];simp only [afQ,agE,afK,beq_iff_eq,decide_eq_true_eq];by_cases h0:r.where_=0
 ·rw [if_pos h0]; split <;> omega
 ·rw [if_neg h0]; split <;> omega
theorem L8 (r:Lt.Reader) (l:List (List UInt8)) (hp:Lt.az r l) (KK:Unit×Lt.Reader->Prop) (KP:Value->Lt.Reader->Prop) (h:exP (Lt.Ck r l) (fun z x=>KK (z,x)) KP):zG r l KK KP:=by
 obtain ⟨⟨hi,hw,_,_⟩,hne,hr⟩:=hp;unfold zG;unfold Lt.Ck Lt.eJ Lt.fv at h;simp only [fS,mN,si] at h;dsimp only;simp only [CA hw (n:=2) (by decide) (by decide),dU,oS,show l.getD 1 default=Lt.w1 l from rfl,show l.getD 2 default=Lt.w2 l from rfl,show l.getD 1 []=Lt.w1 l from rfl,show l.getD 2 []=Lt.w2 l from rfl,al,au,aA,bL,aQ,and_self,true_and] at h ⊢;generalize Lt.bV (Lt.w1 l)=nm at h ⊢;generalize Lt.pg (Lt.w2 l)=kd at h ⊢;by_cases hwh:r.abs.Where=3
 ·obtain ⟨hf,_,hp6,_⟩:=iH hi (by omega);have hf:r.p.Funcs≠[]:=hf
  have hf8:r.p.Funcs.length<=5000:=by have:r.p.Funcs.length<=8:=hi.2.1.2.2; omega
  have hp6:(r.p.Funcs.getD (r.p.Funcs.length - 1) default).Params.length<=6:=hp6
  simp only [bZ hf hf8,dQ hf,dP hf,Int.toNat_natCast,true_and,and_self];refine ifk (fun hc=>by simp [hwh] at hc) (fun _=>fun _=>?_);by_cases h3:l.length=3
  ·refine ifk (fun hc=>by simp [h3] at hc) (fun _=>⟨⟨by decide,by omega⟩,⟨by decide,by omega⟩,?_⟩);cases nm with
   | false=>simpa [hwh] using h
   | true=>
    cases kd with
    | false=>simpa [h3,hwh] using h
    | true=>
     rw [if_neg (by simp [h3,hwh])] at h;simp only [if_true];refine fun _=>fun _=>ifk (fun hc=>?_) (fun hc=>?_)
     ·rw [if_pos (show 6<=r.abs.curF.Params.length from (show 6<=(r.p.Funcs.getD (r.p.Funcs.length - 1) default).Params.length by simp only [decide_eq_true_eq] at hc; omega))] at h; exact h
     ·rw [if_neg (show ¬ 6<=r.abs.curF.Params.length from (show ¬ 6<=(r.p.Funcs.getD (r.p.Funcs.length - 1) default).Params.length by simp only [decide_eq_true_eq] at hc; omega))] at h;rw [adX];exact ⟨⟨by omega,by omega⟩,h⟩
  ·rw [if_pos (by simp [h3])] at h;exact ifk (fun _=>h) (fun hc=>by simp at hc; omega)
 ·rw [if_pos (by simp [hwh])] at h;exact ifk (fun _=>h) (fun hc=>by simp [hwh] at hc)
theorem aaS {r:Lt.Reader} (hw:0<=r.where_/\r.where_<=7):Lt.gO [2,3] r.where_=(decide (r.abs.Where=3)||decide (r.abs.Where=4)):=by
 have a:=CA hw (n:=2) (by decide) (by decide)
 have b:=CA hw (n:=3) (by decide) (by decide)
 unfold Lt.gO at a b ⊢;rw [show decide (r.abs.Where=3)=decide (r.abs.Where=2+1) from rfl,show decide (r.abs.Where=4)=decide (r.abs.Where=3+1) from rfl,<- a,<- b];simp only [afQ,agE,afK]
theorem acD {r:Lt.Reader} (hw:0<=r.where_/\r.where_<=7):Lt.gO [1] r.where_=decide (r.abs.Where=1):=by
 unfold Lt.gO Lt.Reader.abs;dsimp only;rw [afI];simp only [afQ,agE,afK,beq_iff_eq,decide_eq_true_eq];by_cases h0:r.where_=0
 ·rw [if_pos h0]; split <;> omega
 ·rw [if_neg h0]; split <;> omega
theorem MM (r:Lt.Reader) (l:List (List UInt8)) (hp:Lt.az r l) (KK:Unit×Lt.Reader->Prop) (KP:Value->Lt.Reader->Prop) (h:exP (Lt.Cw r l) (fun z x=>KK (z,x)) KP):zY r l KK KP:=by
 obtain ⟨⟨hi,hw,_,_⟩,hne,hr⟩:=hp;unfold zY;unfold Lt.Cw Lt.eE Lt.fv at h;simp only [fS,mN,O6,Jt] at h;dsimp only;simp only [acD hw,dU,oS,show l.getD 1 default=Lt.w1 l from rfl,show l.getD 2 default=Lt.w2 l from rfl,show l.getD 1 []=Lt.w1 l from rfl,show l.getD 2 []=Lt.w2 l from rfl,al,au,aA,bL,aQ,and_self,true_and] at h ⊢;generalize Lt.bV (Lt.w1 l)=nm at h ⊢;generalize Lt.pg (Lt.w2 l)=kd at h ⊢;by_cases hwh:r.abs.Where=1
 ·have hf:r.abs.P.Classes≠[]:=hi.2.2.2.1 hwh
  have hf:r.p.Classes≠[]:=hf
  have hf8:r.p.Classes.length<=5000:=by have:r.p.Classes.length<=8:=hi.2.1.1; omega
  simp only [bZ hf hf8,dQ hf,dP hf,Int.toNat_natCast,true_and,and_self];refine ifk (fun hc=>by simp [hwh] at hc) (fun _=>fun _=>?_);by_cases h3:l.length=3
  ·refine ifk (fun hc=>by simp [h3] at hc) (fun _=>⟨⟨by decide,by omega⟩,⟨by decide,by omega⟩,?_⟩);cases nm with
   | false=>simpa [hwh] using h
   | true=>
    cases kd with
    | false=>simpa [h3,hwh] using h
    | true=>
     rw [if_neg (by simp [h3,hwh])] at h;simp only [if_true];refine fun _=>fun _=>ifk (fun hc=>?_) (fun hc=>?_)
     ·rw [if_pos (show 8<=(r.abs.P.Classes.getD (r.abs.P.Classes.length - 1) default).Fields.length from (show 8<=(r.p.Classes.getD (r.p.Classes.length - 1) default).Fields.length by simp only [decide_eq_true_eq] at hc; omega))] at h; exact h
     ·rw [if_neg (show ¬ 8<=(r.abs.P.Classes.getD (r.abs.P.Classes.length - 1) default).Fields.length from (show ¬ 8<=(r.p.Classes.getD (r.p.Classes.length - 1) default).Fields.length by simp only [decide_eq_true_eq] at hc; omega))] at h;have h9:(r.p.Classes.getD (r.p.Classes.length - 1) default).Fields.length < 8:=by simp only [decide_eq_true_eq] at hc; omega
      rw [adX];exact ⟨⟨by omega,by omega⟩,h⟩
  ·rw [if_pos (by simp [h3])] at h;exact ifk (fun _=>h) (fun hc=>by simp at hc; omega)
 ·rw [if_pos (by simp [hwh])] at h;exact ifk (fun _=>h) (fun hc=>by simp [hwh] at hc)
theorem Di (r:Lt.Reader) (l:List (List UInt8)) (hp:Lt.az r l) (KK:Unit×Lt.Reader->Prop) (KP:Value->Lt.Reader->Prop) (h:exP (Lt.l8 r l) (fun z x=>KK (z,x)) KP):py r l KK KP:=by
 obtain ⟨⟨hi,hw,_,_⟩,hne,hr⟩:=hp;unfold py;unfold Lt.l8 Lt.ic Lt.fv at h;simp only [fS,mN,si] at h;dsimp only;simp only [aaS hw,dU,oS,show l.getD 1 default=Lt.w1 l from rfl,show l.getD 2 default=Lt.w2 l from rfl,show l.getD 1 []=Lt.w1 l from rfl,show l.getD 2 []=Lt.w2 l from rfl,al,au,aA,bL,aQ,and_self,true_and] at h ⊢;generalize Lt.bV (Lt.w1 l)=nm at h ⊢;generalize Lt.pg (Lt.w2 l)=kd at h ⊢;by_cases hwh:(r.abs.Where=3\/r.abs.Where=4)
 ·have hb:(decide (r.abs.Where=3)||decide (r.abs.Where=4))=true:=by simpa using hwh
  obtain ⟨hf,_,_,hp6,_⟩:=iH hi (by omega);have hf:r.p.Funcs≠[]:=hf
  have hf8:r.p.Funcs.length<=5000:=by have:r.p.Funcs.length<=8:=hi.2.1.2.2; omega
  have hp6:(r.p.Funcs.getD (r.p.Funcs.length - 1) default).Vars.length<=1024:=hp6
  simp only [bZ hf hf8,dQ hf,dP hf,Int.toNat_natCast,true_and,and_self];refine ifk (fun hc=>by rw [hb] at hc; simp at hc) (fun _=>fun _=>?_);by_cases h3:l.length=3
  ·refine ifk (fun hc=>by simp [h3] at hc) (fun _=>⟨⟨by decide,by omega⟩,⟨by decide,by omega⟩,?_⟩);cases nm with
   | false=>simpa [hb] using h
   | true=>
    cases kd with
    | false=>simpa [h3,hb] using h
    | true=>
     rw [if_neg (by simp [h3,hb])] at h;simp only [if_true];refine fun _=>fun _=>ifk (fun hc=>?_) (fun hc=>?_)
     ·rw [if_pos (show 1024<=r.abs.curF.Vars.length from (show 1024<=(r.p.Funcs.getD (r.p.Funcs.length - 1) default).Vars.length by simp only [decide_eq_true_eq] at hc; omega))] at h; exact h
     ·rw [if_neg (show ¬ 1024<=r.abs.curF.Vars.length from (show ¬ 1024<=(r.p.Funcs.getD (r.p.Funcs.length - 1) default).Vars.length by simp only [decide_eq_true_eq] at hc; omega))] at h;rw [adX];exact ⟨⟨by omega,by omega⟩,h⟩
  ·rw [if_pos (by simp [h3])] at h;exact ifk (fun _=>h) (fun hc=>by simp at hc; omega)
 ·have hb:(decide (r.abs.Where=3)||decide (r.abs.Where=4))=false:=by simpa using hwh
  rw [if_pos (by simp [hb])] at h;exact ifk (fun _=>h) (fun hc=>by rw [hb] at hc; simp at hc)
end Go.Am
end

section
namespace Go.Am
open Go
theorem M2 {P2 P3 P0 PL n:Bool} {KPv:Prop} {B:Unit->Prop} (hb:(P2||P3||(P0&&PL))=true) (hn:n=true) (h:B ()) :
  ab (fun J1:Unit->Prop=>if P2=true then (if (!true)=true then KPv else J1 ()) else (if P3=true then (if (!true)=true then KPv else J1 ()) else (if P0=true then (if PL=true then (if (!n)=true then KPv else J1 ()) else (if (!false)=true then KPv else J1 ())) else (if (!false)=true then KPv else J1 ())))) B:=by
 intro J hJ;have:=hJ () h
 cases P2 <;> cases P3 <;> cases P0 <;> cases PL <;> simp_all
theorem MT (r:Lt.Reader) (l:List (List UInt8)) (hp:Lt.az r l) (KK:Unit×Lt.Reader->Prop) (KP:Value->Lt.Reader->Prop) (h:exP (Lt.Bz r l) (fun z x=>KK (z,x)) KP):zV r l KK KP:=by
 obtain ⟨⟨hi,hw,_,_⟩,hne,hr⟩:=hp;unfold zV;unfold Lt.Bz Lt.cR at h;simp only [fS,mN,si] at h;dsimp only;simp only [dU,show l.getD 1 default=Lt.w1 l from rfl] at h ⊢;generalize Lt.bV (Lt.w1 l)=nm at h ⊢;have hcase:(decide (r.abs.Where=3)||decide (r.abs.Where=4)||decide (r.abs.Where=9))=(decide (r.where_=2)||decide (r.where_=3)||(decide (r.where_=0)&&decide (0<=r.long))):=by
  unfold Lt.Reader.abs;dsimp only;rw [afI];simp only [ad4,ac9,decide_eq_true_eq];by_cases h0:r.where_=0
  ·rw [if_pos h0]; split <;> omega
  ·rw [if_neg h0]; split <;> omega
 by_cases hB:(decide (r.abs.Where=3)||decide (r.abs.Where=4)||decide (r.abs.Where=9))=true
 ·have hwh:r.abs.Where=3\/r.abs.Where=4\/r.abs.Where=9:=by simpa [or_assoc] using hB
  obtain ⟨hf,_,_,_,hp6⟩:=iH hi (by omega);have hf:r.p.Funcs≠[]:=hf
  have hf8:r.p.Funcs.length<=5000:=by have:r.p.Funcs.length<=8:=hi.2.1.2.2; omega
  have hp6:(r.p.Funcs.getD (r.p.Funcs.length - 1) default).Blocks.length<=256:=hp6
  have hpos:0<r.p.Funcs.length:=aeY.2 hf
  simp only [hB,aeE] at h;rw [hcase] at hB;simp only [bZ hf hf8,dQ hf,dP hf,Int.toNat_natCast,true_and,and_self];refine M2 hB (by simp; omega) (fun _=>?_);by_cases h2:l.length=2
  ·refine ifk (fun hc=>by simp [h2] at hc) (fun _=>⟨⟨by decide,by omega⟩,?_⟩);cases nm with
   | false=>simpa using h
   | true=>
    rw [if_neg (by simp [h2])] at h;simp only [if_true,al,au,and_self];refine fun _=>fun _=>ifk (fun hc=>?_) (fun hc=>?_)
    ·rw [if_pos (show 256<=r.abs.curF.Blocks.length from (show 256<=(r.p.Funcs.getD (r.p.Funcs.length - 1) default).Blocks.length by simp only [decide_eq_true_eq] at hc; omega))] at h; exact h
    ·rw [if_neg (show ¬ 256<=r.abs.curF.Blocks.length from (show ¬ 256<=(r.p.Funcs.getD (r.p.Funcs.length - 1) default).Blocks.length by simp only [decide_eq_true_eq] at hc; omega))] at h;rw [adX];exact ⟨⟨by omega,by omega⟩,h⟩
  ·rw [if_pos (by simp [h2])] at h;exact ifk (fun _=>h) (fun hc=>by simp at hc; omega)
 ·have hB:(decide (r.abs.Where=3)||decide (r.abs.Where=4)||decide (r.abs.Where=9))=false:=by simpa using hB
  rw [hB] at h;rw [hcase] at hB;simp only [afR,agC,decide_eq_false_iff_not] at hB;obtain ⟨⟨b2,b3⟩,b0⟩:=hB;have h':KP (Lt.flt 3) r:=by simpa using h
  simp only [b2,b3,decide_false,adB,if_false];rcases b0 with b0 | b0
  ·simpa [b0,aQ] using h'
  ·simp only [bL,aQ,b0,decide_false,adB,if_false,ag4,if_true];split <;> exact h'
end Go.Am
end

section
namespace Go.Am
open Go
theorem Ym:∀ k:Fin 35,1<=k.1->(Lt.Of (k.1:Int)).1.Word=gw.getD k.1 default:=by decide +kernel
theorem Yr (w:List UInt8) (KK:Int×Bool->Prop) (h:KK (Lt.yOp w)):TO w KK:=by
 unfold TO;unfold Lt.yOp Lt.sOp at h;have hg:gw.length=35:=rfl
 have key:∀ k i,1<=i->i+k=35->KK (Lt.OB w (gw.drop i) (i:Int))->oZ (fun (R1:Int->Prop) v2=>if (decide (v2<=34))=true then (if (decide (((Lt.Of v2).1).Word=w))=true then (KK (v2,true)) else (R1 (IntKind.i64.wrap (v2+1)))) else (KK (0,false))) (k+1) (i:Int):=by
  intro k;induction k with
  | zero=>
   intro i h1 hi h;have e:i=35:=by omega
   subst e;exact h
  | succ k ih=>
   intro i h1 hi h;have hlt:i<gw.length:=by omega
   rw [aeB hlt] at h;have e:gw.getD i default=gw[i]:=by rw [List.getD,adA hlt]; rfl
   rw [<- e] at h;show (if (decide ((i:Int)<=34))=true then _ else _)
   rw [if_pos (by simp; omega)];simp only [Lt.OB] at h;have hw:=Ym ⟨i,by omega⟩ h1
   refine ifk (fun hc=>?_) (fun hc=>?_)
   ·rw [if_pos (by rw [<- hw]; simpa using hc)] at h; exact h
   ·rw [if_neg (by rw [<- hw]; simpa using hc)] at h;rw [b9 (by omega)];exact ih (i+1) (by omega) (by omega) (by simpa using h)
 exact ⟨35,key 34 1 (adH 1) rfl h⟩
theorem ST (l:List (List UInt8)) (objs:Bool) (hp:Lt.iZ l objs) (KK:List Lt.Arg->Prop) (KP:Value->Prop) (h:exQ (Lt.pF l objs) KK KP):G6 l objs KK KP:=by
 have hp:l.length<=1099511627776:=hp
 unfold G6;unfold Lt.pF Lt.dg at h;rw [kD] at h;refine fun hl=>eV _ l.length (fun i x=>x=((l.take i).map (fun w=>(Lt.cm w).1),(i:Int))/\(l.take i).all (Lt.dC objs)=true) (fun R i x hi hx ih=>?_) (fun R x hx=>?_) _ ⟨rfl,rfl⟩
 ·obtain ⟨rfl,ha⟩:=hx;dsimp only;rw [if_pos (cX hi)];simp only [Int.toNat_natCast];refine ⟨⟨adC i,hi⟩,trivial,?_⟩;unfold Lt.yB;rw [kD];refine ifk (fun hc=>?_) (fun hc=>?_)
  ·refine ⟨?_,ih _ ⟨?_,?_⟩⟩
   ·rw [adE,aeF,adX]; omega
   ·rw [fP l hi,ad5,b9 (by omega)]; rfl
   ·rw [fP l hi,aeT,ha,adQ,hc]; rfl
  ·have:l.all (Lt.dC objs)=false:=by
    rw [ad3];intro hall;exact hc (adI.1 hall _ (eM l hi))
   simpa [this] using h
 ·obtain ⟨rfl,ha⟩:=hx;rw [List.take_length] at ha;dsimp only;rw [if_neg (by simp),List.take_length];simpa [ha] using h
end Go.Am
end

section
namespace Go.Am
open Go
theorem za (w:List UInt8) (o:Bool) (K:Lt.Arg->Prop) (KP:Value->Prop):exQ (Lt.yB w o) K KP=if Lt.dC o w=true then K (Lt.cm w).1 else KP (Lt.flt 3):=by
 unfold Lt.yB; rw [kD]
theorem JF (l:List (List UInt8)) (o:Bool) (K:List Lt.Arg->Prop) (KP:Value->Prop):exQ (Lt.pF l o) K KP=if (Lt.dg l o).2=true then K (Lt.dg l o).1 else KP (Lt.flt 3):=by
 unfold Lt.pF; rw [kD]
theorem Ul {r:Lt.Reader} (hw:0<=r.where_/\r.where_<=7):Lt.gO [4,5,6,7] r.where_=r.abs.ins:=by
 unfold Lt.gO Lt.Reader.abs Lt.Read.ins;dsimp only;rw [afI];simp only [afQ,agE,afK,ad4,ac9,beq_iff_eq,decide_eq_true_eq];by_cases h0:r.where_=0
 ·rw [if_pos h0]; split <;> omega
 ·rw [if_neg h0]; split <;> omega
theorem ZV {r:Lt.Reader} (hw:0<=r.where_/\r.where_<=7):Lt.gO [6,7] r.where_=(decide (7<=r.abs.Where)&&r.abs.ins):=by
 unfold Lt.gO Lt.Reader.abs Lt.Read.ins;dsimp only;rw [afI];simp only [afQ,agE,afK,ad4,ac9,beq_iff_eq,decide_eq_true_eq];by_cases h0:r.where_=0
 ·rw [if_pos h0]; split <;> omega
 ·rw [if_neg h0]; split <;> omega
theorem VS (n:Nat):decide (Int.tmod (n:Int) 2=0)=decide (n % 2=0):=by
 rw [show Int.tmod (n:Int) 2=((n % 2:Nat):Int) by rw [Int.tmod_eq_emod_of_nonneg (by omega)]; rfl];exact decide_eq_decide.2 (by omega)
theorem NA {σ:Type} (l:List (List UInt8)) (objs:Bool) (st:List Lt.Bind->σ) (body:(Int×σ->Prop)->Int×σ->Prop) (E:Prop) (fin:List Lt.Bind->Prop)
  (hs:∀ R i acc,i+1<l.length->acc.length<=i->(if Lt.bV (l.getD i default)=true then (if Lt.dC objs (l.getD (i+1) default)=true then R (((i+2:Nat):Int),st (acc++[⟨l.getD i default,(Lt.cm (l.getD (i+1) default)).1⟩])) else E) else E)->body R ((i:Int),st acc))
  (he:∀ R acc,acc.length<=l.length->fin acc->body R ((l.length:Int),st acc)) :
  ∀ n i acc,l.length=i+2*n->acc.length<=i->(match Lt.bw objs (l.drop i) with | some x=>fin (acc++x) | none=>E)->oZ body (n+1) ((i:Int),st acc):=by
 intro n;induction n with
 | zero=>
  intro i acc hi ha h;have e:i=l.length:=by omega
  subst e;rw [afW] at h;exact he _ acc ha (by simpa [Lt.bw] using h)
 | succ n ih=>
  intro i acc hi ha h;have h3:i+1<l.length:=by omega
  have h4:i<l.length:=by omega
  have hd:l.drop i=l.getD i default::l.getD (i+1) default::l.drop (i+2):=by
   rw [aeB h4,aeB h3];rw [List.getD,List.getD,adA h4,adA h3]; rfl
  rw [hd,Lt.bw] at h;refine hs _ i acc h3 ha ?_;refine ifk (fun c1=>ifk (fun c2=>?_) (fun c2=>?_)) (fun c1=>?_)
  ·rw [if_pos (by rw [c1,c2]; rfl)] at h;refine ih (i+2) _ (by omega) (by simp only [adD,adX]; omega) ?_;cases hp:Lt.bw objs (l.drop (i+2)) with
   | none=>rw [hp] at h; exact h
   | some x=>rw [hp] at h; simpa using h
  ·rw [if_neg (by rw [ad3.2 c2]; simp)] at h; exact h
  ·rw [if_neg (by rw [ad3.2 c1]; simp)] at h; exact h
theorem Sf {l:List (List UInt8)} {f:Nat} {objs:Bool} (hf:f<=l.length) {E:Prop} {fin:List Lt.Bind->Prop}
  (h1:(Lt.aH l (f:Int) objs).2=false->E) (h2:(Lt.aH l (f:Int) objs).2=true->fin (Lt.aH l (f:Int) objs).1) :
  match Lt.bw objs (l.drop f) with | some x=>fin ([]++x) | none=>E:=by
 unfold Lt.aH at h1 h2;rw [if_neg (by omega),Int.toNat_natCast] at h1 h2;cases hp:Lt.bw objs (l.drop f) with
 | none=>rw [hp] at h1; exact h1 rfl
 | some x=>rw [hp] at h2; exact h2 rfl
theorem Ey {σ:Type} (l:List (List UInt8)) (f:Nat) (objs:Bool) (st:List Lt.Bind->σ) (body:(Int×σ->Prop)->Int×σ->Prop) (E:Prop) (fin:List Lt.Bind->Prop)
  (hs:∀ R i acc,i+1<l.length->acc.length<=i->(if Lt.bV (l.getD i default)=true then (if Lt.dC objs (l.getD (i+1) default)=true then R (((i+2:Nat):Int),st (acc++[⟨l.getD i default,(Lt.cm (l.getD (i+1) default)).1⟩])) else E) else E)->body R ((i:Int),st acc))
  (he:∀ R acc,acc.length<=l.length->fin acc->body R ((l.length:Int),st acc)) (n:Nat) (hn:l.length=f+2*n)
  (h1:(Lt.aH l (f:Int) objs).2=false->E) (h2:(Lt.aH l (f:Int) objs).2=true->fin (Lt.aH l (f:Int) objs).1):aB body ((f:Int),st []):=
 ⟨_,NA l objs st body E fin hs he n f [] hn (aeR _) (Sf (by omega) h1 h2)⟩
theorem TS (r:Lt.Reader) (l:List (List UInt8)) (hp:Lt.az r l) (KK:Unit×Lt.Reader->Prop) (KP:Value->Lt.Reader->Prop) (h:exP (Lt.WT r l) (fun z x=>KK (z,x)) KP):Ny r l KK KP:=by
 obtain ⟨⟨hi,hw,hlg,_⟩,hne,hr⟩:=hp;have hr:l.length<=1099511627776:=hr
 unfold Ny;unfold Lt.WT Lt.jD at h;simp only [fS,mN,O6,Jt] at h;dsimp only;simp only [CA hw (n:=4) (by decide) (by decide),dU,za,VS,al,au,aA,bL,aQ,and_self,true_and];by_cases hwh:r.abs.Where=5
 ·obtain ⟨hf,_,_,_,hb6⟩:=iH hi (by omega);obtain ⟨hbn,hph,_⟩:=mj hi (by omega);have hf:r.p.Funcs≠[]:=hf
  have hf8:r.p.Funcs.length<=5000:=by have:r.p.Funcs.length<=8:=hi.2.1.2.2; omega
  have hb5:r.abs.curF.Blocks.length<=5000:=by omega
  have ef:r.p.Funcs.getD (r.p.Funcs.length - 1) default=r.abs.curF:=rfl
  have eb:r.abs.curF.Blocks.getD (r.abs.curF.Blocks.length - 1) default=r.abs.curB:=rfl
  have wl:IntKind.i64.wrap (r.long+1)=r.long+1:=dq (by omega) (by omega)
  simp only [bZ hf hf8,dQ hf,dP hf,Int.toNat_natCast,ef,bZ hbn hb5,dP hbn,dQ hbn,eb,true_and,and_self,adX,G8 (show r.abs.curB.Phis.length<=5000 by omega) (show 40<=200 by omega),wl,show l.getD 1 default=Lt.w1 l from rfl];refine ifk (fun hc=>by simp [hwh] at hc) (fun _=>fun _=>?_);by_cases h4:4<=l.length/\l.length % 2=0
  ·obtain ⟨n,hn⟩:∃ n,l.length=2+2*(n+1):=⟨l.length / 2 - 2,by omega⟩
   rw [if_pos (by simp; omega)];refine ⟨by decide,ifk (fun hc=>by simp at hc; omega) (fun _=>⟨⟨by decide,by omega⟩,?_⟩)⟩;cases hnm:Lt.bV (Lt.w1 l) with
   | false=>rw [if_pos (by rw [hnm]; simp)] at h; simpa using h
   | true=>
    rw [if_pos rfl];refine Ey l 2 false (fun acc=>(⟨Lt.w1 l,acc.map fun x=>⟨x.Name,x.A⟩⟩:Lt.Phi)) _ (KP (Lt.flt 3) r) (fun x=>if 256<x.length\/1024<=r.long then KP (Lt.flt 2) r else KK ((),⟨(r.abs.block (fun b=>{ b with Phis:=b.Phis++[⟨Lt.w1 l,x.map fun x=>⟨x.Name,x.A⟩⟩] })).P,r.at_,4,r.first,r.long+1⟩)) (fun R i acc h1 ha hR=>?_) (fun R acc ha hR=>?_) (n+1) hn (fun hc=>?_) (fun hc=>?_)
    ·simp only [cX (show i<l.length by omega),if_true,Int.toNat_natCast,show IntKind.i64.wrap ((i:Int)+1)=((i+1:Nat):Int) from b9 (by omega),show IntKind.i64.wrap ((i:Int)+2)=((i+2:Nat):Int) by rw [dq (by omega) (by omega)]; rfl];refine fun _=>⟨⟨adC i,by omega⟩,⟨adC _,h1⟩,?_⟩
     refine ifk (fun c1=>?_) (fun c1=>?_)
     ·rw [if_pos c1] at hR;refine ifk (fun c2=>?_) (fun c2=>?_)
      ·rw [if_pos c2] at hR;refine ⟨⟨by rw [adE]; omega,by rw [adE]; omega⟩,kk hR ?_⟩;rw [ad5]; rfl
      ·rw [if_neg c2] at hR; exact hR
     ·rw [if_neg c1] at hR; exact hR
    ·simp only [dz,adB,if_false];refine fun _ _=>?_
     rw [adE,dq (by omega) (by omega)];refine ifk (fun c1=>?_) (fun c1=>ifk (fun c2=>?_) (fun c2=>fun _ _=>?_))
     ·rw [if_pos (by simp at c1; omega)] at hR; exact hR
     ·rw [if_pos (by simp at c2; omega)] at hR; exact hR
     ·rw [if_neg (by simp at c1 c2; omega)] at hR;have e4:r.where_=4:=by
       have:=CA hw (n:=4) (by decide) (by decide)
       rw [hwh] at this;simpa [Lt.gO] using this
      rw [e4];exact hR
    ·rw [if_pos (by rw [show Lt.aH l 2 false=Lt.aH l ((2:Nat):Int) false from rfl,hc]; simp)] at h;exact h
    ·have hlen:=ka (l:=l) (f:=2) (objs:=false) hc (by decide)
     rw [if_neg (by rw [show (Lt.aH l 2 false).2=true from hc,hnm,hwh,decide_eq_false (show ¬ (Lt.aH l 2 false).1.length=0 by omega)]; simp)] at h;exact h
  ·have h3:KP (Lt.flt 3) r:=by
    rw [if_pos ?_] at h
    ·exact h
    ·by_cases hok:(Lt.aH l 2 false).2=true
     ·have hlen:=ka (l:=l) (f:=2) (objs:=false) hok (by decide)
      rw [decide_eq_true (show (Lt.aH l 2 false).1.length=0 by omega)]; simp
     ·rw [ad3.2 hok]; simp
   refine ifk (fun c1=>⟨by decide,ifk (fun _=>h3) (fun c2=>?_)⟩) (fun _=>ifk (fun _=>h3) (fun hc=>by simp at hc));simp at c1 c2;omega
 ·rw [if_pos (by simp [hwh])] at h;exact ifk (fun _=>h) (fun hc=>by simp [hwh] at hc)
theorem OH (r:Lt.Reader) (l:List (List UInt8)) (hp:Lt.az r l) (KK:Unit×Lt.Reader->Prop) (KP:Value->Lt.Reader->Prop) (h:exP (Lt.Bt r l) (fun z x=>KK (z,x)) KP):Ba r l KK KP:=by
 obtain ⟨⟨hi,hw,hlg,_⟩,hne,hr⟩:=hp;have hr:l.length<=1099511627776:=hr
 unfold Ba;unfold Lt.Bt Lt.sAt at h;simp only [fS,mN,O6,Jt] at h;dsimp only;simp only [CA hw (n:=6) (by decide) (by decide),dU,za,Bx,VS,al,au,aA,bL,aQ,and_self,true_and];by_cases hwh:r.abs.Where=7
 ·obtain ⟨hf,_,_,_,hb6⟩:=iH hi (by omega);obtain ⟨hbn,hph,hcd,_⟩:=mj hi (by omega);obtain ⟨hcn,hfr,_⟩:=EA hi (by omega) (by omega);have hf:r.p.Funcs≠[]:=hf
  have hf8:r.p.Funcs.length<=5000:=by have:r.p.Funcs.length<=8:=hi.2.1.2.2; omega
  have hb5:r.abs.curF.Blocks.length<=5000:=by omega
  have hc5:r.abs.curB.Code.length<=5000:=by omega
  have ef:r.p.Funcs.getD (r.p.Funcs.length - 1) default=r.abs.curF:=rfl
  have eb:r.abs.curF.Blocks.getD (r.abs.curF.Blocks.length - 1) default=r.abs.curB:=rfl
  have ei:r.abs.curB.Code.getD (r.abs.curB.Code.length - 1) default=r.abs.curI:=rfl
  simp only [bZ hf hf8,dQ hf,dP hf,Int.toNat_natCast,ef,bZ hbn hb5,dP hbn,dQ hbn,eb,bZ hcn hc5,dP hcn,dQ hcn,ei,true_and,and_self,adX,G8 (show r.abs.curI.Frames.length<=5000 by omega) (show 64<=200 by omega),show l.getD 1 default=Lt.w1 l from rfl,show l.getD 2 default=Lt.w2 l from rfl,show l.getD 3 default=Lt.w3 l from rfl];refine ifk (fun hc=>by simp [hwh] at hc) (fun _=>fun _=>?_);by_cases h4:4<=l.length/\l.length % 2=0
  ·obtain ⟨n,hn⟩:∃ n,l.length=4+2*n:=⟨l.length / 2 - 2,by omega⟩
   rw [if_pos (by simp; omega)];refine ⟨by decide,ifk (fun hc=>by simp at hc; omega) (fun _=>⟨⟨by decide,by omega⟩,⟨by decide,by omega⟩,⟨by decide,by omega⟩,?_⟩)⟩;cases hn1:Lt.bV (Lt.w1 l) with
   | false=>rw [if_pos (by rw [hn1]; simp)] at h; simpa using h
   | true=>
   cases hn2:Lt.bV (Lt.w2 l) with
   | false=>rw [if_pos (by rw [hn2]; simp)] at h; simpa using h
   | true=>
   cases hn3:((Lt.aY (Lt.w3 l)).2&&decide (0<=(Lt.aY (Lt.w3 l)).1)&&decide ((Lt.aY (Lt.w3 l)).1<=1024)) with
   | false=>rw [if_pos (by rw [hn3]; simp)] at h; simpa using h
   | true=>
    rw [if_pos rfl,if_pos rfl,if_pos rfl];refine Ey l 4 true (fun acc=>(⟨Lt.w1 l,Lt.w2 l,(Lt.aY (Lt.w3 l)).1,acc⟩:Lt.Frame)) _ (KP (Lt.flt 3) r) (fun x=>if 16<x.length\/16<=r.abs.curI.Frames.length then KP (Lt.flt 2) r else KK ((),⟨(r.abs.instr (fun y=>{ y with Frames:=y.Frames++[⟨Lt.w1 l,Lt.w2 l,(Lt.aY (Lt.w3 l)).1,x⟩] })).P,r.at_,6,r.first,r.long⟩)) (fun R i acc h1 ha hR=>?_) (fun R acc ha hR=>?_) n hn (fun hc=>?_) (fun hc=>?_)
    ·simp only [cX (show i<l.length by omega),if_true,Int.toNat_natCast,show IntKind.i64.wrap ((i:Int)+1)=((i+1:Nat):Int) from b9 (by omega),show IntKind.i64.wrap ((i:Int)+2)=((i+2:Nat):Int) by rw [dq (by omega) (by omega)]; rfl];refine fun _=>⟨⟨adC i,by omega⟩,⟨adC _,h1⟩,?_⟩
     refine ifk (fun c1=>?_) (fun c1=>?_)
     ·rw [if_pos c1] at hR;refine ifk (fun c2=>?_) (fun c2=>?_)
      ·rw [if_pos c2] at hR;exact ⟨⟨by omega,by omega⟩,hR⟩
      ·rw [if_neg c2] at hR; exact hR
     ·rw [if_neg c1] at hR; exact hR
    ·simp only [dz,adB,if_false];refine fun _ _=>?_
     rw [dq (by omega) (by omega)];refine ifk (fun c1=>?_) (fun c1=>fun _ _ _ _=>ifk (fun c2=>?_) (fun c2=>?_))
     ·rw [if_pos (by simp at c1; omega)] at hR; exact hR
     ·rw [if_pos (by simp at c2; omega)] at hR; exact hR
     ·rw [if_neg (by simp at c1 c2; omega)] at hR;have e4:r.where_=6:=by
       have:=CA hw (n:=6) (by decide) (by decide)
       rw [hwh] at this;simpa [Lt.gO] using this
      rw [e4];exact hR
    ·rw [if_pos (by rw [show Lt.aH l 4 true=Lt.aH l ((4:Nat):Int) true from rfl,hc]; simp)] at h;exact h
    ·rw [if_neg (by rw [show (Lt.aH l 4 true).2=true from hc,hn1,hn2,hn3,hwh]; simp)] at h;exact h
  ·have h3:KP (Lt.flt 3) r:=by
    rw [if_pos ?_] at h
    ·exact h
    ·by_cases hok:(Lt.aH l 4 true).2=true
     ·have hlen:=ka (l:=l) (f:=4) (objs:=true) hok (by decide)
      omega
     ·rw [ad3.2 hok]; simp
   refine ifk (fun c1=>⟨by decide,ifk (fun _=>h3) (fun c2=>?_)⟩) (fun _=>ifk (fun _=>h3) (fun hc=>by simp at hc));simp at c1 c2;omega
 ·rw [if_pos (by simp [hwh])] at h;exact ifk (fun _=>h) (fun hc=>by simp [hwh] at hc)
theorem KJ (r:Lt.Reader) (l:List (List UInt8)) (hp:Lt.az r l) (KK:Unit×Lt.Reader->Prop) (KP:Value->Lt.Reader->Prop) (h:exP (Lt.mY r l) (fun z x=>KK (z,x)) KP):wd r l KK KP:=by
 obtain ⟨⟨hi,hw,hlg,_⟩,hne,hr⟩:=hp;have hr:l.length<=1099511627776:=hr
 unfold wd;unfold Lt.mY Lt.jB at h;simp only [fS,mN,si] at h;dsimp only;simp only [ZV hw,dU,JF,al,au,aA,bL,aQ,and_self,true_and];by_cases hwh:7<=r.abs.Where/\r.abs.Where<=8
 ·obtain ⟨hf,_,_,_,hb6⟩:=iH hi (by omega);obtain ⟨hbn,hph,hcd,_⟩:=mj hi (by omega);obtain ⟨hcn,_,hob⟩:=EA hi (by omega) (by omega);have hf:r.p.Funcs≠[]:=hf
  have hf8:r.p.Funcs.length<=5000:=by have:r.p.Funcs.length<=8:=hi.2.1.2.2; omega
  have hb5:r.abs.curF.Blocks.length<=5000:=by omega
  have hc5:r.abs.curB.Code.length<=5000:=by omega
  have ef:r.p.Funcs.getD (r.p.Funcs.length - 1) default=r.abs.curF:=rfl
  have eb:r.abs.curF.Blocks.getD (r.abs.curF.Blocks.length - 1) default=r.abs.curB:=rfl
  have ei:r.abs.curB.Code.getD (r.abs.curB.Code.length - 1) default=r.abs.curI:=rfl
  have hin:r.abs.ins=true:=by unfold Lt.Read.ins; simp; omega
  have ed:(l.drop 2).take (l.length - 2)=l.drop 2:=aeA (by rw [adT]; omega)
  simp only [bZ hf hf8,dQ hf,dP hf,Int.toNat_natCast,ef,bZ hbn hb5,dP hbn,dQ hbn,eb,bZ hcn hc5,dP hcn,dQ hcn,ei,ed,true_and,and_self,adX,G8 (show r.abs.curI.Objs.length<=5000 by omega) (show 40<=200 by omega),show l.getD 1 default=Lt.w1 l from rfl];refine ifk (fun hc=>by rw [hin] at hc; simp at hc; omega) (fun _=>fun _=>?_);rw [if_neg (by rw [hin]; simp),decide_eq_true hwh.1] at h;simp only [aeE] at h;by_cases h2:2<=l.length
  ·rw [if_pos (by simp; omega)];by_cases h10:l.length<=10
   ·refine ifk (fun hc=>by simp at hc; omega) (fun _=>⟨⟨by decide,by omega⟩,by decide,⟨h2,adH _⟩,?_⟩);rw [decide_eq_true h2,decide_eq_true h10] at h;simp only [aeE] at h;cases hn1:Lt.bV (Lt.w1 l) with
    | false=>rw [if_pos (by rw [hn1]; simp)] at h; simpa using h
    | true=>
     rw [if_pos rfl];refine ⟨by show (l.drop 2).length<=1099511627776; rw [adT]; omega,?_⟩;cases hn2:(Lt.dg (l.drop 2) true).2 with
     | false=>rw [if_pos (by rw [hn2]; simp)] at h; simpa using h
     | true=>
      rw [if_pos rfl];rw [if_neg (by rw [hn1,hn2]; simp)] at h;refine fun _ _ _ _=>ifk (fun c=>?_) (fun c=>?_)
      ·rw [if_pos (by simp at c; omega)] at h; exact h
      ·rw [if_neg (by simp at c; omega)] at h; exact h
   ·refine ifk (fun _=>?_) (fun hc=>by simp at hc; omega);rw [if_pos (by rw [decide_eq_false h10]; simp)] at h; exact h
  ·rw [if_neg (by simp; omega),if_pos (by decide)];rw [if_pos (by rw [decide_eq_false h2]; simp)] at h; exact h
 ·have hc:(decide (7<=r.abs.Where)&&r.abs.ins)=false:=by unfold Lt.Read.ins; simp; omega
  have h3:KP (Lt.flt 3) r:=by
   by_cases hin:r.abs.ins=false
   ·rw [if_pos hin] at h; exact h
   ·rw [if_neg hin] at h;rw [if_pos ?_] at h
    ·exact h
    ·have:decide (7<=r.abs.Where)=false:=by
      cases hh:r.abs.ins <;> simp_all
     rw [this]; rfl
  rw [hc];exact ifk (fun _=>h3) (fun hc=>by simp at hc)
end Go.Am
end

section
namespace Go.Am
open Go
theorem TZ {α:Type} {r:Lt.Reader} {w:Int} (K:Unit->Lt.Reader->Prop) (KP:Value->Lt.Reader->Prop) (o:Option α) (X:α->Lt.Read) (Y:Lt.Read) :
  exP (Lt.gE r (match o with | some t=>(0,X t) | none=>(3,Y)) w) K KP=match o with | some t=>K () ⟨(X t).P,r.at_,w,r.first,(X t).Long⟩ | none=>KP (Lt.flt 3) r:=by cases o <;> rfl
theorem Vv (r:Lt.Reader) (l:List (List UInt8)) (hp:Lt.az r l) (KK:Unit×Lt.Reader->Prop) (KP:Value->Lt.Reader->Prop) (h:exP (Lt.CX r l) (fun z x=>KK (z,x)) KP):MP r l KK KP:=by
 obtain ⟨⟨hi,hw,hlg,_⟩,hne,hr⟩:=hp;have hr:l.length<=1099511627776:=hr
 have h0:0<l.length:=aeY.2 hne
 unfold MP;unfold Lt.CX at h;simp only [fS,mN,TZ] at h;dsimp only;dsimp +instances only [Lt.eH]
 simp only [Ul hw,dU,za,al,au,aA,bL,aQ,and_self,true_and];cases hin:r.abs.ins with
 | false=>rw [if_pos hin] at h; exact h
 | true=>
 rw [if_neg (by rw [hin]; simp)] at h;have hwh:5<=r.abs.Where/\r.abs.Where<=8:=by unfold Lt.Read.ins at hin; simpa using hin
 obtain ⟨hf,_,_,_,hb6⟩:=iH hi (by omega);obtain ⟨hbn,hph,hcd,_⟩:=mj hi (by omega);have hf:r.p.Funcs≠[]:=hf
 have hf8:r.p.Funcs.length<=5000:=by have:r.p.Funcs.length<=8:=hi.2.1.2.2; omega
 have hb5:r.abs.curF.Blocks.length<=5000:=by omega
 have ef:r.p.Funcs.getD (r.p.Funcs.length - 1) default=r.abs.curF:=rfl
 have eb:r.abs.curF.Blocks.getD (r.abs.curF.Blocks.length - 1) default=r.abs.curB:=rfl
 simp only [bZ hf hf8,dQ hf,dP hf,Int.toNat_natCast,ef,bZ hbn hb5,dP hbn,dQ hbn,eb,true_and,and_self,implies_true,forall_const,show l.getD 0 default=Lt.w0 l from rfl,show l.getD 1 default=Lt.w1 l from rfl,show l.getD 2 default=Lt.w2 l from rfl,show l.getD 3 default=Lt.w3 l from rfl];refine ifk (fun hc=>by simp at hc) (fun _=>⟨⟨by decide,h0⟩,?_⟩);refine ifk (fun e1=>?_) (fun e1=>ifk (fun e2=>?_) (fun e2=>ifk (fun e3=>?_) (fun e3=>?_)))
 ·have e1:Lt.w0 l=Lt.ig:=by simpa using e1
  have hT:Lt.p9 l=if (decide (l.length=2)&&Lt.bV (Lt.w1 l))=true then some ⟨1,⟨0,[],0⟩,[Lt.w1 l],0⟩ else none:=by
   unfold Lt.p9 Lt.gJ; rw [if_pos (Or.inl e1),if_pos e1]
  rw [hT] at h;refine fun _=>ifk (fun c=>?_) (fun c=>?_)
  ·rw [if_neg (by simp at c; simp; omega)] at h; exact h
  ·have h2:l.length=2:=by simp at c; omega
   refine ⟨⟨by decide,by omega⟩,ifk (fun c1=>?_) (fun c1=>?_)⟩
   ·rw [if_pos (by rw [c1]; simpa using h2)] at h; exact fun _ _=>h
   ·rw [if_neg (by rw [ad3.2 c1]; simp)] at h; exact h
 ·have n1:¬ Lt.w0 l=Lt.ig:=by simpa using e1
  have e2:Lt.w0 l=Lt.cu:=by simpa using e2
  have hT:Lt.p9 l=if (decide (l.length=4)&&(Lt.bV (Lt.w2 l)&&Lt.bV (Lt.w3 l))&&Lt.dC false (Lt.w1 l))=true then some ⟨2,(Lt.cm (Lt.w1 l)).1,[Lt.w2 l,Lt.w3 l],0⟩ else none:=by
   unfold Lt.p9 Lt.gJ; rw [if_pos (Or.inr (Or.inl e2)),if_neg n1,if_pos e2]
  rw [hT] at h;refine fun _=>ifk (fun c=>?_) (fun c=>?_)
  ·rw [if_neg (by simp at c; simp; omega)] at h; exact h
  ·have h2:l.length=4:=by simp at c; omega
   refine ⟨⟨by decide,by omega⟩,⟨by decide,by omega⟩,⟨by decide,by omega⟩,ifk (fun c1=>ifk (fun c2=>ifk (fun c3=>?_) (fun c3=>?_)) (fun c2=>?_)) (fun c1=>?_)⟩
   ·rw [if_pos (by rw [c1,c2,c3]; simpa using h2)] at h; exact fun _ _=>h
   ·rw [if_neg (by rw [ad3.2 c3]; simp)] at h; exact h
   ·rw [if_neg (by rw [ad3.2 c2]; simp)] at h; exact h
   ·rw [if_neg (by rw [ad3.2 c1]; simp)] at h; exact h
 ·have n1:¬ Lt.w0 l=Lt.ig:=by simpa using e1
  have n2:¬ Lt.w0 l=Lt.cu:=by simpa using e2
  have e3:Lt.w0 l=Lt.nY:=by simpa using e3
  have hT:Lt.p9 l=if (decide (l.length=2)&&Lt.dC false (Lt.w1 l))=true then some ⟨3,(Lt.cm (Lt.w1 l)).1,[],0⟩ else none:=by
   unfold Lt.p9 Lt.gJ; rw [if_pos (Or.inr (Or.inr e3)),if_neg n1,if_neg n2,if_pos e3]
  rw [hT] at h;refine fun _=>ifk (fun c=>?_) (fun c=>?_)
  ·rw [if_neg (by simp at c; simp; omega)] at h; exact h
  ·have h2:l.length=2:=by simp at c; omega
   refine ⟨⟨by decide,by omega⟩,ifk (fun c1=>?_) (fun c1=>?_)⟩
   ·rw [if_pos (by rw [c1]; simpa using h2)] at h; exact fun _ _=>h
   ·rw [if_neg (by rw [ad3.2 c1]; simp)] at h; exact h
 ·have n1:¬ Lt.w0 l=Lt.ig:=by simpa using e1
  have n2:¬ Lt.w0 l=Lt.cu:=by simpa using e2
  have n3:¬ Lt.w0 l=Lt.nY:=by simpa using e3
  have hT:Lt.p9 l=if (decide (l.length=2)&&(Lt.aY (Lt.w1 l)).2)=true then some ⟨4,⟨0,[],0⟩,[],(Lt.aY (Lt.w1 l)).1⟩ else none:=by
   unfold Lt.p9; rw [if_neg (fun hh=>hh.elim n1 (fun hh=>hh.elim n2 n3))]
  rw [hT] at h;refine fun _=>ifk (fun c=>?_) (fun c=>?_)
  ·rw [if_neg (by simp at c; simp; omega)] at h; exact h
  ·have h2:l.length=2:=by simp at c; omega
   refine ⟨⟨by decide,by omega⟩,ifk (fun c1=>?_) (fun c1=>?_)⟩
   ·have c1:(Lt.aY (Lt.w1 l)).2=false:=by simpa using c1
    rw [if_neg (by rw [c1]; simp)] at h; exact h
   ·have c1:(Lt.aY (Lt.w1 l)).2=true:=by simpa using c1
    rw [if_pos (by rw [c1]; simpa using h2)] at h; exact fun _ _=>h
theorem MQ (w:List UInt8) (l:List (List UInt8)) (o:Bool):Lt.dg (w::l) o=if Lt.dC o w=true then (if (Lt.dg l o).2=true then ((Lt.cm w).1::(Lt.dg l o).1,true) else ([],false)) else ([],false):=by
 unfold Lt.dg;cases h1:Lt.dC o w <;> cases h2:l.all (Lt.dC o) <;> simp [h1,h2]
theorem SU (r:Lt.Reader) (l:List (List UInt8)) (hp:Lt.az r l) (KK:Unit×Lt.Reader->Prop) (KP:Value->Lt.Reader->Prop) (h:exP (Lt.tH r l) (fun z x=>KK (z,x)) KP):F9 r l KK KP:=by
 obtain ⟨⟨hi,hw,hlg,_⟩,hne,hr⟩:=hp;have hr:l.length<=1099511627776:=hr
 have h0:0<l.length:=aeY.2 hne
 have e0:Lt.cz r.abs l=if (Lt.sEq l&&!Lt.bV (Lt.w0 l))=true then (3,r.abs) else LP r.abs (if Lt.sEq l then Lt.w0 l else []) (if Lt.sEq l then l.drop 2 else l):=rfl
 unfold F9;unfold Lt.tH at h;rw [e0] at h;dsimp only;simp only [Ul hw,dU,za,JF];cases hin:r.abs.ins with
 | false=>
  have h3:KP (Lt.flt 3) r:=by
   unfold LP at h;rw [if_pos hin] at h;split at h <;> exact h
  exact h3
 | true=>
 have hwh:5<=r.abs.Where/\r.abs.Where<=8:=by unfold Lt.Read.ins at hin; simpa using hin
 obtain ⟨hf,_,_,_,hb6⟩:=iH hi (by omega);obtain ⟨hbn,hph,hcd,_⟩:=mj hi (by omega);have hf:r.p.Funcs≠[]:=hf
 have hf8:r.p.Funcs.length<=5000:=by have:r.p.Funcs.length<=8:=hi.2.1.2.2; omega
 have hb5:r.abs.curF.Blocks.length<=5000:=by omega
 have hc5:r.abs.curB.Code.length<=5000:=by omega
 have ef:r.p.Funcs.getD (r.p.Funcs.length - 1) default=r.abs.curF:=rfl
 have eb:r.abs.curF.Blocks.getD (r.abs.curF.Blocks.length - 1) default=r.abs.curB:=rfl
 have l1:∀ x:Lt.Instr,([x]:List Lt.Instr).length=1:=fun _=>rfl
 have wl:IntKind.i64.wrap (r.long+1)=r.long+1:=dq (by omega) (by omega)
 simp only [bZ hf hf8,dQ hf,dP hf,Int.toNat_natCast,ef,bZ hbn hb5,dP hbn,dQ hbn,eb,l1,G8 hc5 (show 112<=200 by omega),wl,true_and,and_self,show l.getD 0 default=Lt.w0 l from rfl,show l.getD 1 default=Lt.w1 l from rfl];refine ifk (fun hc=>by simp at hc) (fun _=>?_);refine fun J1 hJ1=>?_
 have key:∀ (l':List (List UInt8)) (dst:List UInt8),0<l'.length->l'.length<=1099511627776->exP (Lt.gE r (LP r.abs dst l') ((LP r.abs dst l').2.Where - 1)) (fun z x=>KK (z,x)) KP->J1 (l',⟨0,dst,[],[],[],[]⟩):=by
  intro l' dst h0' hr' hk;refine hJ1 _ ?_;clear hJ1 h e0 J1;have hk:match Lt.ej dst l' with
    | none=>KP (Lt.flt 3) r
    | some x=>if 1024<=r.long then KP (Lt.flt 2) r else KK ((),⟨(r.abs.block (fun b=>{ b with Code:=b.Code++[x] })).P,r.at_,(if x.Op=31\/x.Op=34 then 7 else 6) - 1,r.first,r.long+1⟩):=by
   unfold LP at hk;rw [if_neg (by rw [hin]; simp)] at hk;cases hs:Lt.ej dst l' with
   | none=>rw [hs] at hk; exact hk
   | some x=>
    rw [hs] at hk;simp only [show r.abs.Long=r.long from rfl] at hk ⊢;by_cases hl:1024<=r.long
    ·rw [if_pos hl] at hk ⊢; exact hk
    ·rw [if_neg hl] at hk ⊢; exact hk
  unfold Lt.ej Lt.Fe at hk;have ew:l'.getD 0 default=Lt.w0 l':=rfl
  refine ⟨⟨by decide,h0'⟩,?_⟩;unfold Lt.yOp;simp only [ew];obtain ⟨_,_,e3,e4,e5,e6⟩:=oc (Lt.sOp (Lt.w0 l')).1;simp only [<- e3,<- e4,<- e5,<- e6];have h26:(Lt.sOp (Lt.w0 l')).1=26\/(Lt.sOp (Lt.w0 l')).1=27->(Lt.rOf (Lt.sOp (Lt.w0 l')).1).1.Named=true:=by
   rintro (e | e) <;> rw [e] <;> rfl
  generalize Lt.sOp (Lt.w0 l')=O at hk h26 ⊢;obtain ⟨op,okop⟩:=O;simp only at hk h26 ⊢
  generalize (Lt.rOf op).1=fm at hk h26 ⊢;cases hok:okop with
  | false=>rw [hok] at hk; exact hk
  | true=>
  rw [hok] at hk;refine ifk (fun hc=>by simp at hc) (fun _=>?_);refine ifk (fun hc=>?_) (fun hc=>?_)
  ·rw [if_pos (by clear hk; simpa using hc)] at hk; exact hk
  rw [if_neg (by clear hk; simpa using hc)] at hk;have ed:(l'.drop 1).take (l'.length - 1)=l'.drop 1:=aeA (by rw [adT]; omega)
  rw [ed];refine ⟨by decide,⟨by omega,adH _⟩,fun J6 hJ6=>?_⟩;have key2:∀ nm gs,(if (decide (fm.Least<=(gs.length:Int))&&decide ((gs.length:Int)<=fm.Most))=true then (if 1024<=r.long then KP (Lt.flt 2) r else KK ((),⟨(r.abs.block (fun b=>{ b with Code:=b.Code++[(⟨op,dst,nm,gs,[],[]⟩:Lt.Instr)] })).P,r.at_,(if op=31\/op=34 then 7 else 6) - 1,r.first,r.long+1⟩)) else KP (Lt.flt 3) r)->J6 ⟨op,dst,nm,gs,[],[]⟩:=by
   intro nm gs hk2;refine hJ6 _ ?_;clear hJ6 hk J6;refine fun J18 hJ18=>fun _=>?_
   have hok:(decide (fm.Least<=(gs.length:Int))&&decide ((gs.length:Int)<=fm.Most))=true->J18 ():=by
    intro hb;rw [if_pos hb] at hk2;refine hJ18 () ?_;refine ifk (fun hl=>?_) (fun hl=>?_)
    ·rw [if_pos (by simpa using hl)] at hk2; exact hk2
    rw [if_neg (by simpa using hl)] at hk2;simp only [implies_true,forall_const,al,jval,bor];refine fun _ _=>?_
    by_cases h31:op=31\/op=34
    ·rw [if_pos (by simpa using h31)];rw [if_pos h31] at hk2;exact hk2
    ·rw [if_neg (by simpa using h31)];rw [if_neg h31] at hk2;exact hk2
   refine ifk (fun c1=>ifk (fun c2=>?_) (fun c2=>?_)) (fun c1=>?_)
   ·rw [if_neg (by rw [c1]; simpa using c2)] at hk2; exact hk2
   ·exact hok (by rw [c1]; simpa using c2)
   ·rw [if_neg (by rw [ad3.2 c1]; simp)] at hk2; exact hk2
  clear hJ6;refine fun J8 hJ8=>?_
  have g8:=hJ8 (decide (op=26)||decide (op=27)) ?_
  ·cases h26:decide (op=26) with
   | true=>rw [h26] at g8; exact g8
   | false=>rw [h26] at g8; exact g8
  clear hJ8 J8;refine ifk (fun c=>?_) (fun c=>?_)
  ·have c:op=26\/op=27:=by simpa using c
   have hnm:=h26 c
   rw [if_pos c] at hk;refine fun _=>ifk (fun c3=>?_) (fun c3=>?_)
   ·rw [if_pos (by rw [adT] at c3; simp at c3; omega)] at hk; exact hk
   have h3:3<=l'.length:=by rw [adT] at c3; simp at c3; omega
   rw [if_neg (by omega)] at hk;simp only [hnm,aeE,MQ,Bool.not_not] at hk;have ew2:(l'.drop 1).getD 1 default=Lt.w2 l':=by rw [List.getD,adW]; rfl
   have ew1:((l'.drop 1).drop 0).take (1 - 0)=[Lt.w1 l']:=by
    rw [afH,aeB (show 1<l'.length by omega)];unfold Lt.w1;rw [List.getD,adA (show 1<l'.length by omega)]; rfl
   have ed3:((l'.drop 1).drop 2).take ((l'.drop 1).length - 2)=l'.drop 3:=by rw [List.drop_drop,aeA (by simp only [adT]; omega)]
   rw [ew2,ew1,ed3];refine ⟨⟨by decide,by rw [adT]; omega⟩,?_⟩;have hE:∀ {P:Prop},(Lt.bV (Lt.w2 l')=false->KP (Lt.flt 3) r)/\(Lt.bV (Lt.w2 l')=true->P)->(if Lt.bV (Lt.w2 l')=true then P else KP (Lt.flt 3) r):=by
    intro P ⟨a,b⟩;refine ifk b (fun hc=>a (ad3.2 hc))
   refine hE ⟨fun hn=>?_,fun hn=>?_⟩
   ·rw [hn] at hk; simpa using hk
   rw [hn] at hk;refine ⟨by decide,⟨by decide,by rw [adT]; omega⟩,by decide,⟨by rw [adT]; omega,adH _⟩,fun _=>?_⟩;refine eV _ 1 (fun i x=>(i=0/\x=(([]:List Lt.Arg),(0:Int)))\/(i=1/\x=([(Lt.cm (Lt.w1 l')).1],(1:Int))/\Lt.dC false (Lt.w1 l')=true)) (fun R i x hi hx hR=>?_) (fun R x hx=>?_) _ (Or.inl ⟨rfl,rfl⟩)
   ·rcases hx with ⟨rfl,rfl⟩ | ⟨h1,_⟩
    ·show (if decide ((0:Int) < (([Lt.w1 l']:List (List UInt8)).length:Int))=true then _ else _)
     rw [if_pos (by simp)];refine ⟨⟨agO _,Nat.one_pos⟩,?_⟩;show (if Lt.dC false (Lt.w1 l')=true then _ else _)
     refine ifk (fun ca=>?_) (fun ca=>?_)
     ·exact ⟨⟨by show 0+1<=_; decide,by show (0+1)*32<=_; decide⟩,hR _ (Or.inr ⟨rfl,rfl,ca⟩)⟩
     ·rw [if_neg ca] at hk; simpa using hk
    ·omega
   ·rcases hx with ⟨h1,_⟩ | ⟨_,rfl,ca⟩
    ·omega
    ·show (if decide ((1:Int) < (([Lt.w1 l']:List (List UInt8)).length:Int))=true then _ else _)
     rw [if_neg (by simp)];rw [if_pos ca] at hk;refine ⟨by show (l'.drop 3).length<=1099511627776; rw [adT]; omega,?_⟩;refine ifk (fun ca2=>?_) (fun ca2=>?_)
     ·rw [if_pos ca2] at hk;have hlen:(Lt.dg (l'.drop 3) false).1.length<=1099511627776:=by
       unfold Lt.dg; split
       ·rw [adE,adT]; omega
       ·simp
      refine ⟨⟨by rw [adX]; omega,by rw [adX]; omega⟩,key2 _ _ ?_⟩;rw [af0];simp only [aeE] at hk;refine ifk (fun cc=>?_) (fun cc=>?_)
      ·rw [if_pos cc] at hk; exact hk
      ·rw [if_neg cc] at hk; exact hk
     ·rw [if_neg ca2] at hk; simpa using hk
  ·have c:¬ (op=26\/op=27):=by simpa using c
   rw [if_neg c] at hk;refine ifk (fun hnm=>?_) (fun hnm=>?_)
   ·rw [if_pos hnm] at hk;refine fun _=>ifk (fun c3=>?_) (fun c3=>?_)
    ·rw [if_pos (by rw [adT] at c3; simp at c3; omega)] at hk; exact hk
    have h3:2<=l'.length:=by rw [adT] at c3; simp at c3; omega
    rw [if_neg (by omega)] at hk;simp only [hnm,aeE,Bool.not_not] at hk;have ew2:(l'.drop 1).getD 0 default=Lt.w1 l':=by rw [List.getD,adW]; rfl
    have ed3:((l'.drop 1).drop 1).take ((l'.drop 1).length - 1)=l'.drop 2:=by rw [List.drop_drop,aeA (by simp only [adT]; omega)]
    rw [ew2,ed3];refine ⟨⟨by decide,by rw [adT]; omega⟩,?_⟩;refine ifk (fun hn=>?_) (fun hn=>?_)
    ·rw [hn] at hk;refine ⟨by decide,⟨by rw [adT]; omega,adH _⟩,by show (l'.drop 2).length<=1099511627776; rw [adT]; omega,?_⟩;refine ifk (fun ca2=>key2 _ _ ?_) (fun ca2=>?_)
     ·rw [ca2] at hk;simp only [aeE] at hk;refine ifk (fun cc=>?_) (fun cc=>?_)
      ·rw [if_pos cc] at hk; exact hk
      ·rw [if_neg cc] at hk; exact hk
     ·rw [ad3.2 ca2] at hk; simpa using hk
    ·rw [ad3.2 hn] at hk; simpa using hk
   ·rw [if_neg hnm] at hk;have hnm:fm.Named=false:=ad3.2 hnm
    simp only [hnm,afB,ag4,afG] at hk;refine ⟨by show (l'.drop 1).length<=1099511627776; rw [adT]; omega,?_⟩;refine ifk (fun ca2=>key2 _ _ ?_) (fun ca2=>?_)
    ·rw [ca2] at hk;simp only [aeE] at hk;refine ifk (fun cc=>?_) (fun cc=>?_)
     ·rw [if_pos cc] at hk; exact hk
     ·rw [if_neg cc] at hk; exact hk
    ·rw [ad3.2 ca2] at hk; simpa using hk
 have es:((decide (2 < (l.length:Int)))&&(decide (Lt.w1 l=[61])))=Lt.sEq l:=by
  unfold Lt.sEq; rw [show decide (2 < (l.length:Int))=decide (2<l.length) from decide_eq_decide.2 (by omega)]
 refine fun J3 hJ3=>?_
 have hE:=hJ3 (Lt.sEq l) ?_
 ·refine fun _=>ifk (fun hc=>⟨⟨by decide,by simp at hc; omega⟩,?_⟩) (fun hc=>?_)
  ·rw [<- es,hc,aeE] at hE; exact hE
  ·rw [<- es,ad3.2 hc,afB] at hE; exact hE
 show (if Lt.sEq l=true then _ else _)
 by_cases hs:Lt.sEq l=true
 ·rw [if_pos hs];rw [hs] at h;have h2:2<l.length:=by unfold Lt.sEq at hs; simp only [ac9,decide_eq_true_eq] at hs; exact hs.1
  refine ⟨⟨by decide,h0⟩,?_⟩;refine ifk (fun hc=>⟨by decide,⟨by omega,adH _⟩,?_⟩) (fun hc=>?_)
  ·rw [hc] at h;have ed:(l.drop 2).take (l.length - 2)=l.drop 2:=aeA (by rw [adT]; omega)
   rw [ed];exact key _ _ (by rw [adT]; omega) (by rw [adT]; omega) h
  ·rw [ad3.2 hc] at h;exact h
 ·rw [if_neg hs];rw [ad3.2 hs] at h;exact key _ _ h0 hr h
end Go.Am
end

section
namespace Go.Am
open Go
def Runs:Lt.Read->List (List (List UInt8))->Lt.Read->Prop
 | r,[],r'=>r=r'
 | r,w::t,r'=>∃ r1,(∀ b,Lt.aI r w b=(0,r1))/\Runs r1 t r'
theorem cH:∀ {a b:List (List (List UInt8))} {r r1 r2:Lt.Read},Runs r a r1->Runs r1 b r2->Runs r (a++b) r2
 | [],b,r,r1,r2,h1,h2=>by have:r=r1:=h1; subst this; exact h2
 | w::t,b,r,r1,r2,⟨q,hq,h1⟩,h2=>⟨q,hq,cH h1 h2⟩
theorem pb {r r1:Lt.Read} {w:List (List UInt8)} (h:∀ b,Lt.aI r w b=(0,r1)):Runs r [w] r1:=⟨r1,h,rfl⟩
theorem eZ (r:Lt.Read):Runs r [] r:=rfl
theorem sL:∀ (L:List Lt.Line) (n:Int) (b:Bool) (r r':Lt.Read),Runs r (L.map fun x=>x.Words) r' ->
  Lt.dx (numb n L) b r=if r'.out then (r'.P,0,0) else (⟨false,[],[],[],[]⟩,0,3)
 | [],n,b,r,r',h=>by have:r=r':=h; subst this; rfl
 | x::t,n,b,r,r',⟨q,hq,h⟩=>by
  rw [numb,Lt.dx];simp only [hq b,if_true];exact sL t _ _ q r' h
theorem ff {r:Lt.Read}:¬ ((false,(0:Int)),r).1.1=true:=fun h=>by simp at h
theorem mg {r r1:Lt.Read} {l:List (List UInt8)} {b:Bool} (he:Lt.sEq l=false) (hs:¬ Lt.w0 l=Lt.kB) (h:Lt.bA r l=((true,0),r1)):Lt.aI r l b=(0,r1):=by
 unfold Lt.aI;rw [he,if_neg (by decide),if_neg hs,h]; rfl
theorem qC {r r1:Lt.Read} {l:List (List UInt8)} {b:Bool} (he:Lt.sEq l=false) (hs:¬ Lt.w0 l=Lt.kB) (hh:Lt.bA r l=((false,0),r)) (h:Lt.bN r l=((true,0),r1)):Lt.aI r l b=(0,r1):=by
 unfold Lt.aI;rw [he,if_neg (by decide),if_neg hs,hh,if_neg ff,h]; rfl
theorem s6 {r r1:Lt.Read} {l:List (List UInt8)} {b:Bool} (he:Lt.sEq l=false) (hs:¬ Lt.w0 l=Lt.kB) (hh:Lt.bA r l=((false,0),r)) (hp:Lt.bN r l=((false,0),r)) (h:Lt.bg r l=((true,0),r1)):Lt.aI r l b=(0,r1):=by
 unfold Lt.aI;rw [he,if_neg (by decide),if_neg hs,hh,if_neg ff,hp,if_neg ff,h]; rfl
theorem Q5 {r:Lt.Read} {l:List (List UInt8)} {b:Bool} (hs:¬ Lt.w0 l=Lt.kB) (hh:Lt.bA r l=((false,0),r)) (hp:Lt.bN r l=((false,0),r)) (h:Lt.bg r l=((false,0),r)):Lt.aI r l b=Lt.cz r l:=by
 unfold Lt.aI;rw [if_neg hs,hh,if_neg ff,hp,if_neg ff,h,if_neg ff];split <;> rfl
theorem lu {r:Lt.Read} {l:List (List UInt8)} (h1:¬ Lt.w0 l=Lt.fw) (h2:¬ Lt.w0 l=Lt.gR) (h3:¬ Lt.w0 l=Lt.fj) (h4:¬ Lt.w0 l=Lt.eu) (h5:¬ Lt.w0 l=Lt.pi):Lt.bA r l=((false,0),r):=by
 unfold Lt.bA;rw [if_neg h1,if_neg h2,if_neg h3,if_neg h4,if_neg h5]
theorem ze {r:Lt.Read} {l:List (List UInt8)} (h1:¬ Lt.w0 l=Lt.eh) (h2:¬ Lt.w0 l=Lt.oF) (h3:¬ Lt.w0 l=Lt.eI) (h4:¬ Lt.w0 l=Lt.t8):Lt.bN r l=((false,0),r):=by
 unfold Lt.bN;rw [if_neg h1,if_neg h2,if_neg h3,if_neg h4]
theorem VL {r:Lt.Read} {l:List (List UInt8)} (h1:¬ Lt.w0 l=Lt.kAt) (h2:¬ Lt.w0 l=Lt.l6) (h3:¬ Lt.w0 l=Lt.ig) (h4:¬ Lt.w0 l=Lt.cu) (h5:¬ Lt.w0 l=Lt.nY) (h6:¬ Lt.w0 l=Lt.jg):Lt.bg r l=((false,0),r):=by
 unfold Lt.bg;rw [if_neg (by rintro (h | h | h | h | h | h) <;> contradiction)]
theorem Ou {r:Lt.Read} {l:List (List UInt8)} (h:Lt.w0 l=Lt.fw):Lt.bA r l=((true,(Lt.dk r l).1),(Lt.dk r l).2):=by
 unfold Lt.bA;rw [if_pos h]
theorem Nn {r:Lt.Read} {l:List (List UInt8)} (h:Lt.w0 l=Lt.gR):Lt.bA r l=((true,(Lt.eE r l).1),(Lt.eE r l).2):=by
 unfold Lt.bA;rw [if_neg (show ¬ Lt.w0 l=Lt.fw by rw [h]; decide),if_pos h]
theorem Kl {r:Lt.Read} {l:List (List UInt8)} (h:Lt.w0 l=Lt.fj):Lt.bA r l=((true,(Lt.da r l).1),(Lt.da r l).2):=by
 unfold Lt.bA;rw [if_neg (show ¬ Lt.w0 l=Lt.fw by rw [h]; decide),if_neg (show ¬ Lt.w0 l=Lt.gR by rw [h]; decide),if_pos h]
theorem IE {r:Lt.Read} {l:List (List UInt8)} (h:Lt.w0 l=Lt.eu):Lt.bA r l=((true,(Lt.cY r l).1),(Lt.cY r l).2):=by
 unfold Lt.bA;rw [if_neg (show ¬ Lt.w0 l=Lt.fw by rw [h]; decide),if_neg (show ¬ Lt.w0 l=Lt.gR by rw [h]; decide),if_neg (show ¬ Lt.w0 l=Lt.fj by rw [h]; decide),if_pos h]
theorem QH {r:Lt.Read} {l:List (List UInt8)} (h:Lt.w0 l=Lt.pi):Lt.bA r l=((true,(Lt.fp r l).1),(Lt.fp r l).2):=by
 unfold Lt.bA;rw [if_neg (show ¬ Lt.w0 l=Lt.fw by rw [h]; decide),if_neg (show ¬ Lt.w0 l=Lt.gR by rw [h]; decide),if_neg (show ¬ Lt.w0 l=Lt.fj by rw [h]; decide),if_neg (show ¬ Lt.w0 l=Lt.eu by rw [h]; decide),if_pos h]
theorem OA {r:Lt.Read} {l:List (List UInt8)} (h:Lt.w0 l=Lt.eh):Lt.bN r l=((true,(Lt.eJ r l).1),(Lt.eJ r l).2):=by
 unfold Lt.bN;rw [if_pos h]
theorem UU {r:Lt.Read} {l:List (List UInt8)} (h:Lt.w0 l=Lt.oF):Lt.bN r l=((true,(Lt.ic r l).1),(Lt.ic r l).2):=by
 unfold Lt.bN;rw [if_neg (show ¬ Lt.w0 l=Lt.eh by rw [h]; decide),if_pos h]
theorem NK {r:Lt.Read} {l:List (List UInt8)} (h:Lt.w0 l=Lt.eI):Lt.bN r l=((true,(Lt.cR r l).1),(Lt.cR r l).2):=by
 unfold Lt.bN;rw [if_neg (show ¬ Lt.w0 l=Lt.eh by rw [h]; decide),if_neg (show ¬ Lt.w0 l=Lt.oF by rw [h]; decide),if_pos h]
theorem Um {r:Lt.Read} {l:List (List UInt8)} (h:Lt.w0 l=Lt.t8):Lt.bN r l=((true,(Lt.jD r l).1),(Lt.jD r l).2):=by
 unfold Lt.bN;rw [if_neg (show ¬ Lt.w0 l=Lt.eh by rw [h]; decide),if_neg (show ¬ Lt.w0 l=Lt.oF by rw [h]; decide),if_neg (show ¬ Lt.w0 l=Lt.eI by rw [h]; decide),if_pos h]
theorem T8 {r:Lt.Read} {l:List (List UInt8)} (hi:r.ins=true) (h:Lt.w0 l=Lt.kAt):Lt.bg r l=((true,(Lt.sAt r l).1),(Lt.sAt r l).2):=by
 unfold Lt.bg;rw [if_pos (.inl h),hi,if_neg (by decide),if_pos h]
theorem S3 {r:Lt.Read} {l:List (List UInt8)} (hi:r.ins=true) (h:Lt.w0 l=Lt.l6):Lt.bg r l=((true,(Lt.jB r l).1),(Lt.jB r l).2):=by
 unfold Lt.bg;rw [if_pos (.inr (.inl h)),hi,if_neg (by decide),if_neg (show ¬ Lt.w0 l=Lt.kAt by rw [h]; decide),if_pos h]
theorem fy {w:List UInt8} (h:Lt.Name w=true):¬ w=[61]:=by rintro rfl; revert h; decide
theorem KB {a:Lt.Arg} (h:Lt.aJ a=true) (ok:a.ok):¬ Lt.ac a=[61]:=by
 intro e;have:=mf h ok
 rw [e] at this;have h2:(Lt.cm [61]).2=false:=by decide +kernel
 rw [this] at h2;cases h2
theorem VE (a b:List UInt8):Lt.sEq [a,b]=false:=rfl
theorem iI {a w:List UInt8} {l:List (List UInt8)} (h:¬ w=[61]):Lt.sEq (a::w::l)=false:=by
 unfold Lt.sEq;have:decide (Lt.w1 (a::w::l)=[61])=false:=decide_eq_false h
 rw [this,Bool.and_false]
theorem Qj (w:List UInt8):Lt.pg w=Lt.kind w:=by
 unfold Lt.pg Lt.kind;rw [aR,agW]
theorem j8 {k:List UInt8} {v:Lt.Var} (h1:Lt.Name v.Name=true) (h2:Lt.kind v.Type_=true):Lt.fv [k,v.Name,v.Type_]=true:=by
 unfold Lt.fv;rw [aR,Qj];show (true&&(Lt.Name v.Name&&Lt.kind v.Type_))=true
 rw [h1,h2]; rfl
theorem j0 {α:Type} [Inhabited α] (l:List α) (x:α) (f:α->α):Lt.last (l++[x]) f=l++[f x]:=by
 unfold Lt.last;rw [fb,WL]
def stP (s:Bool) (cs:List Lt.Class) (gs:List Lt.Var) (es:List Lt.Extern) (fs:List Lt.Func) (w n:Int):Lt.Read:=⟨⟨s,cs,gs,es,fs⟩,w,n⟩
def stF (p:Lt.Program) (fs:List Lt.Func) (f:Lt.Func) (w n:Int):Lt.Read:=⟨{ p with Funcs:=fs++[f] },w,n⟩
def stB (p:Lt.Program) (fs:List Lt.Func) (f:Lt.Func) (bs:List Lt.Block) (b:Lt.Block) (w n:Int):Lt.Read:=stF p fs { f with Blocks:=bs++[b] } w n
def stI (p:Lt.Program) (fs:List Lt.Func) (f:Lt.Func) (bs:List Lt.Block) (b:Lt.Block) (cs:List Lt.Instr) (x:Lt.Instr) (w n:Int):Lt.Read:=stB p fs f bs { b with Code:=cs++[x] } w n
section
variable (p:Lt.Program) (fs:List Lt.Func) (f:Lt.Func) (bs:List Lt.Block) (b:Lt.Block) (cs:List Lt.Instr) (x:Lt.Instr) (w n:Int)
theorem iK (g:Lt.Func->Lt.Func):(stF p fs f w n).func g=stF p fs (g f) w n:=by
 unfold Lt.Read.func stF;rw [j0]
theorem fu (g:Lt.Block->Lt.Block):(stB p fs f bs b w n).block g=stB p fs f bs (g b) w n:=by
 unfold Lt.Read.block stB;rw [iK];simp only [j0]
theorem mJ (g:Lt.Instr->Lt.Instr):(stI p fs f bs b cs x w n).instr g=stI p fs f bs b cs (g x) w n:=by
 unfold Lt.Read.instr stI;rw [fu];simp only [j0]
theorem mZ:(stF p fs f w n).curF=f:=by unfold Lt.Read.curF stF; exact fb _ _
theorem YG:(stB p fs f bs b w n).curB=b:=by
 unfold Lt.Read.curB stB; rw [mZ]; exact fb _ _
theorem zn:(stI p fs f bs b cs x w n).curI=x:=by
 unfold Lt.Read.curI stI; rw [YG]; exact fb _ _
end
theorem Mn {s:Bool} {cs:List Lt.Class} {gs:List Lt.Var} {es:List Lt.Extern} {fs:List Lt.Func} {w n:Int} {c:List UInt8} (ho:w<=2\/w=9) (hc:Lt.Name c=true) (hl:cs.length < 8) :
  Runs (stP s cs gs es fs w n) [[Lt.fw,c]] (stP s (cs++[⟨c,[]⟩]) gs es fs 1 n):=by
 refine pb fun b=>mg (VE _ _) (by show ¬ Lt.fw=Lt.kB; decide) ?_
 refine (Ou rfl).trans ?_;have:Lt.dk (stP s cs gs es fs w n) [Lt.fw,c]=(0,stP s (cs++[⟨c,[]⟩]) gs es fs 1 n):=by
  unfold Lt.dk;rw [aR];have h1:(Lt.Read.out (stP s cs gs es fs w n)&&decide (List.length [Lt.fw,c]=2)&&Lt.Name (Lt.w1 [Lt.fw,c]))=true:=by
   show ((decide (w<=2)||decide (w=9))&&true&&Lt.Name c)=true
   rw [hc]; simpa using ho
  rw [h1,if_neg (by decide),if_neg (by show ¬ 8<=cs.length; omega)];rfl
 rw [this]
theorem qU {l:List Lt.Var} {k:Int} (h:Lt.typed l k=true):∀ v∈l,Lt.Name v.Name=true/\Lt.kind v.Type_=true:=by
 intro v hv;unfold Lt.typed at h;simp only [ac9,adI] at h;exact h.2 v hv
theorem xJ {s:Bool} {cs:List Lt.Class} {gs:List Lt.Var} {es:List Lt.Extern} {fs:List Lt.Func} {n:Int}:∀ (l:List Lt.Var) (c:Lt.Class),(∀ v∈l,Lt.Name v.Name=true/\Lt.kind v.Type_=true)->c.Fields.length+l.length<=8 ->
  Runs (stP s (cs++[c]) gs es fs 1 n) (l.map fun v=>[Lt.gR,v.Name,v.Type_]) (stP s (cs++[{ c with Fields:=c.Fields++l }]) gs es fs 1 n)
 | [],c,_,_=>by simpa using eZ _
 | v::l,c,h,hl=>by
  obtain ⟨h1,h2⟩:=h v (by simp);have hl':c.Fields.length+(l.length+1)<=8:=hl
  have ih:=xJ (s:=s) (cs:=cs) (gs:=gs) (es:=es) (fs:=fs) (n:=n) l { c with Fields:=c.Fields++[v] } (fun x hx=>h x (by simp [hx])) (by simp; omega)
  refine ⟨stP s (cs++[{ c with Fields:=c.Fields++[v] }]) gs es fs 1 n,fun b=>mg (iI (fy h1)) (by show ¬ Lt.gR=Lt.kB; decide) ?_,by simpa using ih⟩;refine (Nn rfl).trans ?_;have:Lt.eE (stP s (cs++[c]) gs es fs 1 n) [Lt.gR,v.Name,v.Type_]=(0,stP s (cs++[{ c with Fields:=c.Fields++[v] }]) gs es fs 1 n):=by
   unfold Lt.eE;rw [j8 h1 h2];have e:(stP s (cs++[c]) gs es fs 1 n).P.Classes=cs++[c]:=rfl
   rw [e,fb,j0,if_neg (by show ¬ (decide ((1:Int)=1)&&true)=false; decide),if_neg (by omega)];rfl
  rw [this]
theorem yn {s:Bool} {gs:List Lt.Var} {es:List Lt.Extern} {fs:List Lt.Func} {n:Int}:∀ (l cs:List Lt.Class) (w:Int),(w<=2\/w=9)->(∀ c∈l,Lt.bD c=true)->cs.length+l.length<=8 ->
  ∃ w',(w'<=2\/w'=9)/\Runs (stP s cs gs es fs w n) ((l.flatMap Lt.cQ).map fun x=>x.Words) (stP s (cs++l) gs es fs w' n)
 | [],cs,w,hw,_,_=>⟨w,hw,by simpa using eZ _⟩
 | c::l,cs,w,hw,h,hl=>by
  have hc:=h c (by simp)
  unfold Lt.bD at hc;simp only [ac9] at hc;have hf:=iT (k:=8) hc.2
  have hl':cs.length+(l.length+1)<=8:=hl
  obtain ⟨w',hw',ih⟩:=yn (s:=s) (gs:=gs) (es:=es) (fs:=fs) (n:=n) l (cs++[c]) 1 (by omega) (fun x hx=>h x (by simp [hx])) (by simp; omega);refine ⟨w',hw',?_⟩;have a:=Mn (s:=s) (gs:=gs) (es:=es) (fs:=fs) (n:=n) (cs:=cs) hw hc.1 (by omega)
  have b:=xJ (s:=s) (cs:=cs) (gs:=gs) (es:=es) (fs:=fs) (n:=n) c.Fields ⟨c.Name,[]⟩ (qU hc.2) (by simpa using hf)
  simp only [ad6] at b;have e:((c::l).flatMap Lt.cQ).map (fun x=>x.Words)=([[Lt.fw,c.Name]]++c.Fields.map fun v=>[Lt.gR,v.Name,v.Type_])++(l.flatMap Lt.cQ).map fun x=>x.Words:=by
   simp [Lt.cQ,Lt.ln,Lt.dA,Function.comp_def]
  rw [e];have ih2:Runs (stP s (cs++[c]) gs es fs 1 n) ((l.flatMap Lt.cQ).map fun x=>x.Words) (stP s (cs++c::l) gs es fs w' n):=by simpa using ih
  exact cH (cH a b) ih2
theorem uq {s:Bool} {cs:List Lt.Class} {es:List Lt.Extern} {fs:List Lt.Func} {n:Int}:∀ (l gs:List Lt.Var) (w:Int),(w<=2\/w=9)->(∀ v∈l,Lt.Name v.Name=true/\Lt.kind v.Type_=true)->gs.length+l.length<=8 ->
  ∃ w',(w'<=2\/w'=9)/\Runs (stP s cs gs es fs w n) (l.map fun v=>[Lt.fj,v.Name,v.Type_]) (stP s cs (gs++l) es fs w' n)
 | [],gs,w,hw,_,_=>⟨w,hw,by simpa using eZ _⟩
 | v::l,gs,w,hw,h,hl=>by
  obtain ⟨h1,h2⟩:=h v (by simp);have hl':gs.length+(l.length+1)<=8:=hl
  obtain ⟨w',hw',ih⟩:=uq (s:=s) (cs:=cs) (es:=es) (fs:=fs) (n:=n) l (gs++[v]) 2 (by omega) (fun x hx=>h x (by simp [hx])) (by simp; omega);refine ⟨w',hw',stP s cs (gs++[v]) es fs 2 n,fun b=>mg (iI (fy h1)) (by show ¬ Lt.fj=Lt.kB; decide) ?_,by simpa using ih⟩;refine (Kl rfl).trans ?_;have:Lt.da (stP s cs gs es fs w n) [Lt.fj,v.Name,v.Type_]=(0,stP s cs (gs++[v]) es fs 2 n):=by
   unfold Lt.da;rw [j8 h1 h2];have ho:(Lt.Read.out (stP s cs gs es fs w n)&&true)=true:=by
    show ((decide (w<=2)||decide (w=9))&&true)=true
    simpa using hw
   rw [ho,if_neg (by decide),if_neg (by show ¬ 8<=gs.length; omega)];rfl
  rw [this]
theorem vu {s:Bool} {cs:List Lt.Class} {gs:List Lt.Var} {fs:List Lt.Func} {n:Int}:∀ (l es:List Lt.Extern) (w:Int),(w<=2\/w=9)->(∀ x∈l,Lt.bT x=true)->es.length+l.length<=8 ->
  ∃ w',(w'<=2\/w'=9)/\Runs (stP s cs gs es fs w n) (l.map fun x=>[Lt.eu,x.Name,Lt.ak x.N]) (stP s cs gs (es++l) fs w' n)
 | [],es,w,hw,_,_=>⟨w,hw,by simpa using eZ _⟩
 | v::l,es,w,hw,h,hl=>by
  have hv:=h v (by simp)
  unfold Lt.bT at hv;simp only [ac9,decide_eq_true_eq] at hv;obtain ⟨⟨h1,h2⟩,h3⟩:=hv;have hl':es.length+(l.length+1)<=8:=hl
  obtain ⟨w',hw',ih⟩:=vu (s:=s) (cs:=cs) (gs:=gs) (fs:=fs) (n:=n) l (es++[v]) 2 (by omega) (fun x hx=>h x (by simp [hx])) (by simp; omega);refine ⟨w',hw',stP s cs gs (es++[v]) fs 2 n,fun b=>mg (iI (fy h1)) (by show ¬ Lt.eu=Lt.kB; decide) ?_,by simpa using ih⟩;refine (IE rfl).trans ?_;have:Lt.cY (stP s cs gs es fs w n) [Lt.eu,v.Name,Lt.ak v.N]=(0,stP s cs gs (es++[v]) fs 2 n):=by
   unfold Lt.cY;have en:Lt.aY (Lt.w2 [Lt.eu,v.Name,Lt.ak v.N])=(v.N,true):=ji (by unfold Lt.inR; omega)
   have e1:Lt.w1 [Lt.eu,v.Name,Lt.ak v.N]=v.Name:=rfl
   rw [en,e1,aR,h1];have ho:(Lt.Read.out (stP s cs gs es fs w n)&&decide (List.length [Lt.eu,v.Name,Lt.ak v.N]=3)&&true&&((v.N,true).2&&decide (0<=(v.N,true).1)&&decide ((v.N,true).1<=8)))=true:=by
    show ((decide (w<=2)||decide (w=9))&&true&&true&&(true&&decide (0<=v.N)&&decide (v.N<=8)))=true
    simp [h2,h3,hw]
   rw [ho,if_neg (by decide),if_neg (by show ¬ 8<=es.length; omega)];rfl
  rw [this]
theorem RN {p:Lt.Program} {fs:List Lt.Func} {w n:Int} {a t:List UInt8} (ho:w<=2\/w=9) (h1:Lt.Name a=true) (h2:Lt.kind t=true) (hl:fs.length < 8) :
  Runs ⟨{ p with Funcs:=fs },w,n⟩ [[Lt.pi,a,t]] (stF p fs ⟨a,t,[],[],[]⟩ 3 0):=by
 refine pb fun b=>mg (iI (fy h1)) (by show ¬ Lt.pi=Lt.kB; decide) ?_
 refine (QH rfl).trans ?_;have:Lt.fp ⟨{ p with Funcs:=fs },w,n⟩ [Lt.pi,a,t]=(0,stF p fs ⟨a,t,[],[],[]⟩ 3 0):=by
  unfold Lt.fp;rw [j8 (v:=⟨a,t⟩) h1 h2];have ho:(Lt.Read.out ⟨{ p with Funcs:=fs },w,n⟩&&true)=true:=by
   show ((decide (w<=2)||decide (w=9))&&true)=true
   simpa using ho
  rw [ho,if_neg (by decide),if_neg (by show ¬ 8<=fs.length; omega)];rfl
 rw [this]
theorem xC {p:Lt.Program} {fs:List Lt.Func} {n:Int}:∀ (l:List Lt.Var) (f:Lt.Func),(∀ v∈l,Lt.Name v.Name=true/\Lt.kind v.Type_=true)->f.Params.length+l.length<=6 ->
  Runs (stF p fs f 3 n) (l.map fun v=>[Lt.eh,v.Name,v.Type_]) (stF p fs { f with Params:=f.Params++l } 3 n)
 | [],f,_,_=>by simpa using eZ _
 | v::l,f,h,hl=>by
  obtain ⟨h1,h2⟩:=h v (by simp);have hl':f.Params.length+(l.length+1)<=6:=hl
  have ih:=xC (p:=p) (fs:=fs) (n:=n) l { f with Params:=f.Params++[v] } (fun x hx=>h x (by simp [hx])) (by simp; omega)
  refine ⟨stF p fs { f with Params:=f.Params++[v] } 3 n,fun b=>qC (iI (fy h1)) (by show ¬ Lt.eh=Lt.kB; decide) (lu (by show ¬ Lt.eh=_; decide) (by show ¬ Lt.eh=_; decide) (by show ¬ Lt.eh=_; decide) (by show ¬ Lt.eh=_; decide) (by show ¬ Lt.eh=_; decide)) ?_,by simpa using ih⟩;refine (OA rfl).trans ?_;have:Lt.eJ (stF p fs f 3 n) [Lt.eh,v.Name,v.Type_]=(0,stF p fs { f with Params:=f.Params++[v] } 3 n):=by
   unfold Lt.eJ;rw [j8 h1 h2,mZ,iK,if_neg (by show ¬ (decide ((3:Int)=3)&&true)=false; decide),if_neg (by omega)];rfl
  rw [this]
theorem EV {p:Lt.Program} {fs:List Lt.Func} {n:Int}:∀ (l:List Lt.Var) (f:Lt.Func) (w:Int),(w=3\/w=4)->(∀ v∈l,Lt.Name v.Name=true/\Lt.kind v.Type_=true)->f.Vars.length+l.length<=1024 ->
  ∃ w',(w'=3\/w'=4)/\Runs (stF p fs f w n) (l.map fun v=>[Lt.oF,v.Name,v.Type_]) (stF p fs { f with Vars:=f.Vars++l } w' n)
 | [],f,w,hw,_,_=>⟨w,hw,by simpa using eZ _⟩
 | v::l,f,w,hw,h,hl=>by
  obtain ⟨h1,h2⟩:=h v (by simp);have hl':f.Vars.length+(l.length+1)<=1024:=hl
  obtain ⟨w',hw',ih⟩:=EV (p:=p) (fs:=fs) (n:=n) l { f with Vars:=f.Vars++[v] } 4 (.inr rfl) (fun x hx=>h x (by simp [hx])) (by simp; omega);refine ⟨w',hw',stF p fs { f with Vars:=f.Vars++[v] } 4 n,fun b=>qC (iI (fy h1)) (by show ¬ Lt.oF=Lt.kB; decide) (lu (by show ¬ Lt.oF=_; decide) (by show ¬ Lt.oF=_; decide) (by show ¬ Lt.oF=_; decide) (by show ¬ Lt.oF=_; decide) (by show ¬ Lt.oF=_; decide)) ?_,by simpa using ih⟩;refine (UU rfl).trans ?_;have:Lt.ic (stF p fs f w n) [Lt.oF,v.Name,v.Type_]=(0,stF p fs { f with Vars:=f.Vars++[v] } 4 n):=by
   unfold Lt.ic;have ho:((decide ((stF p fs f w n).Where=3)||decide ((stF p fs f w n).Where=4))&&true)=true:=by
    show ((decide (w=3)||decide (w=4))&&true)=true
    simpa using hw
   rw [j8 h1 h2,mZ,iK,ho,if_neg (by decide),if_neg (by omega)];rfl
  rw [this]
theorem Nq {p:Lt.Program} {fs:List Lt.Func} {f:Lt.Func} {w n:Int} {a:List UInt8} (hw:w=3\/w=4\/w=9) (h1:Lt.Name a=true) (hl:f.Blocks.length < 256) :
  Runs (stF p fs f w n) [[Lt.eI,a]] (stB p fs f f.Blocks ⟨a,[],[],⟨0,⟨0,[],0⟩,[],0⟩⟩ 5 n):=by
 refine pb fun b=>qC (VE _ _) (by show ¬ Lt.eI=Lt.kB; decide) (lu (by show ¬ Lt.eI=_; decide) (by show ¬ Lt.eI=_; decide) (by show ¬ Lt.eI=_; decide) (by show ¬ Lt.eI=_; decide) (by show ¬ Lt.eI=_; decide)) ?_
 refine (NK rfl).trans ?_;have:Lt.cR (stF p fs f w n) [Lt.eI,a]=(0,stB p fs f f.Blocks ⟨a,[],[],⟨0,⟨0,[],0⟩,[],0⟩⟩ 5 n):=by
  unfold Lt.cR;have ho:((decide ((stF p fs f w n).Where=3)||decide ((stF p fs f w n).Where=4)||decide ((stF p fs f w n).Where=9))&&decide (List.length [Lt.eI,a]=2)&&Lt.Name (Lt.w1 [Lt.eI,a]))=true:=by
   show ((decide (w=3)||decide (w=4)||decide (w=9))&&true&&Lt.Name a)=true
   rw [h1];rcases hw with h | h | h <;> simp [h]
  rw [aR,ho,mZ,iK,if_neg (by decide),if_neg (by omega)];rfl
 rw [this]
theorem Ml {x:Lt.Phi} (h:Lt.phi x=true) (ok:x.ok):Lt.aH (Lt.sN x) 2 false=(x.Ins.map fun i=>⟨i.Block,i.A⟩,true):=by
 obtain ⟨_,_,_,h4⟩:=Cj h;unfold Lt.aH Lt.sN;have hg:=sJ (objs:=false) (l:=x.Ins.map fun i=>⟨i.Block,i.A⟩) (by
  intro b hb;obtain ⟨i,hi,rfl⟩:=ad0.1 hb;have:=h4 i hi
  unfold Lt.lb at this;simp only [ac9] at this;exact ⟨this.1,this.2,ok.2 i hi⟩)
 rw [List.flatMap_map] at hg;have ed:([Lt.t8,x.Dst]++x.Ins.flatMap fun i=>[i.Block,Lt.ac i.A]).drop (2:Int).toNat=x.Ins.flatMap fun i=>[i.Block,Lt.ac i.A]:=rfl
 rw [ed,hg,if_neg (by simp; omega)]
theorem VG (l:List Lt.In):(l.map fun i=>(⟨i.Block,i.A⟩:Lt.Bind)).map (fun x=>(⟨x.Name,x.A⟩:Lt.In))=l:=by
 rw [adV]; exact ahB _
theorem Em {p:Lt.Program} {fs:List Lt.Func} {f:Lt.Func} {bs:List Lt.Block}:∀ (l:List Lt.Phi) (b:Lt.Block) (n:Nat),(∀ x∈l,Lt.phi x=true/\x.ok)->n+l.length<=1024 ->
  Runs (stB p fs f bs b 5 n) (l.map Lt.sN) (stB p fs f bs { b with Phis:=b.Phis++l } 5 ((n+l.length:Nat):Int))
 | [],b,n,_,_=>by simpa using eZ _
 | x::l,b,n,h,hl=>by
  obtain ⟨h1,hok⟩:=h x (by simp);obtain ⟨hd,hne,h256,_⟩:=Cj h1;have hl':n+(l.length+1)<=1024:=hl
  have ih:=Em (p:=p) (fs:=fs) (f:=f) (bs:=bs) l { b with Phis:=b.Phis++[x] } (n+1) (fun y hy=>h y (by simp [hy])) (by omega)
  have e:n+1+l.length=n+(x::l).length:=by simp; omega
  rw [e] at ih;refine ⟨stB p fs f bs { b with Phis:=b.Phis++[x] } 5 ((n+1:Nat):Int),fun c=>qC (iI (fy hd)) (by show ¬ Lt.t8=Lt.kB; decide) (lu (by show ¬ Lt.t8=_; decide) (by show ¬ Lt.t8=_; decide) (by show ¬ Lt.t8=_; decide) (by show ¬ Lt.t8=_; decide) (by show ¬ Lt.t8=_; decide)) ?_,by simpa using ih⟩;refine (Um rfl).trans ?_;have:Lt.jD (stB p fs f bs b 5 n) (Lt.sN x)=(0,stB p fs f bs { b with Phis:=b.Phis++[x] } 5 ((n+1:Nat):Int)):=by
   unfold Lt.jD;rw [Ml h1 hok,aR];have ho:(decide ((stB p fs f bs b 5 (n:Int)).Where=5)&&((x.Ins.map fun i=>(⟨i.Block,i.A⟩:Lt.Bind)),true).2&&!decide ((((x.Ins.map fun i=>(⟨i.Block,i.A⟩:Lt.Bind)),true)).1.length=0)&&Lt.Name (Lt.w1 (Lt.sN x)))=true:=by
    show (true&&true&&!decide ((x.Ins.map fun i=>(⟨i.Block,i.A⟩:Lt.Bind)).length=0)&&Lt.Name x.Dst)=true
    rw [hd];simp [hne]
   rw [ho,if_neg (by decide),if_neg (by
    show ¬ (256 < (x.Ins.map fun i=>(⟨i.Block,i.A⟩:Lt.Bind)).length\/1024<=(n:Int))
    simp only [adE]; omega),fu]
   simp only [VG];rfl
  rw [this]
def db (i:Lt.Instr):List (List UInt8):=
 (Lt.Of i.Op).1.Word::(if i.Op=26\/i.Op=27 then (Lt.puts i.Args).getD 0 default::i.Name::(Lt.puts i.Args).drop 1 else (if (Lt.Of i.Op).1.Named then [i.Name] else [])++Lt.puts i.Args)
theorem Ww (i:Lt.Instr):Lt.words i=(if (Lt.Of i.Op).1.Dst then [i.Dst,[61]] else [])++db i:=by
 unfold Lt.words db;simp
theorem bare (i:Lt.Instr) (h:Lt.instr i=true) (ok:i.ok):Lt.ej i.Dst (db i)=some { i with Frames:=[],Objs:=[] }:=by
 have ho:=eP h
 obtain ⟨_,e2,e3,e4,e5,e6⟩:=oc i.Op;have hop:=Yy ho.of
 have hsa:=E9 ho.aok ok.1
 unfold Lt.ej;have ew:Lt.w0 (db i)=(Lt.Of i.Op).1.Word:=rfl
 rw [ew,hop];simp only [e3,e4,e5,e6,aR];have hD:((Lt.Of i.Op).1.Dst==!decide (i.Dst=[]))=true:=by rw [ho.dst]; simp
 rw [hD,if_neg (by decide)];have hr:Lt.Fe i.Op (db i)=some (i.Name,Lt.puts i.Args):=by
  unfold Lt.Fe;by_cases hc:i.Op=26\/i.Op=27
  ·have hl:=ho.least hc
   rw [if_pos hc];unfold db;rw [if_pos hc];cases ha:i.Args with
   | nil=>rw [ha] at hl; simp at hl
   | cons a r=>rw [if_neg (by simp)]; rfl
  ·rw [if_neg hc,e4];unfold db;rw [if_neg hc];cases hn:(Lt.Of i.Op).1.Named with
   | true=>rw [if_pos rfl,if_pos rfl,if_neg (by simp)]; rfl
   | false=>
    have:i.Name=[]:=by have:=ho.nm; rw [hn] at this; simpa using this
    rw [if_neg (by decide),if_neg (by decide),this]; rfl
 rw [hr];simp only [hsa];have hN:(!((Lt.Of i.Op).1.Named&&!Lt.Name i.Name))=true:=by
  cases hn:(Lt.Of i.Op).1.Named with
  | true=>rw [ho.nmN hn]; rfl
  | false=>rfl
 rw [hN,decide_eq_true ho.lo,decide_eq_true ho.hi]; rfl
theorem aaE {op:Int} (h:(Lt.Of op).2=true) (hd:(Lt.Of op).1.Dst=false):op=27\/op=30\/op=33\/op=34:=by
 by_cases hc:1<=op/\op<=34
 ·obtain ⟨k,rfl⟩:=afJ (show 0<=op by omega);have hk:k < 35:=by omega
  have:∀ k:Fin 35,1<=k.1->(Lt.Of (k.1:Int)).1.Dst=false->k.1=27\/k.1=30\/k.1=33\/k.1=34:=by decide +kernel
  have:=this ⟨k,hk⟩ (by show 1<=k; omega) hd
  simp only at this
  omega
 ·exfalso
  rw [<- (oc op).1] at h;unfold Lt.rOf at h;rw [if_pos (by omega)] at h;cases h
theorem Tl {objs:Bool} {l:List Lt.Arg} (h:Lt.bx l objs=true) (ok:Lt.p7 l):∀ w∈Lt.puts l,¬ w=[61]:=by
 intro w hw;obtain ⟨a,ha,rfl⟩:=ad0.1 hw;unfold Lt.bx at h;have:=adI.1 h a ha
 unfold Lt.aZ at this;simp only [ac9] at this;exact KB this.1 (ok a ha)
theorem abI {i:Lt.Instr} (h:Lt.instr i=true) (ok:i.ok):Lt.sEq (db i)=false:=by
 have ho:=eP h
 have hp:=Tl ho.aok ok.1
 have key:∀ w∈(db i).drop 1,¬ w=[61]:=by
  unfold db;simp only [ae6,afH];intro w hw;split at hw
  ·rename_i hc;have hl:=ho.least hc
   have hN:(Lt.Of i.Op).1.Named=true:=by rcases hc with e | e <;> rw [e] <;> decide +kernel
   cases ha:i.Args with
   | nil=>rw [ha] at hl; simp at hl
   | cons a r=>
    rw [ha] at hw hp;rcases adK.1 hw with rfl | hw
    ·exact hp _ (by simp [Lt.puts])
    rcases adK.1 hw with rfl | hw
    ·exact fy (ho.nmN hN)
    ·exact hp w (by
      have:w∈r.map Lt.ac:=hw
      simp [Lt.puts]; right; simpa using this)
  ·rcases adJ.1 hw with hw | hw
   ·split at hw
    ·rename_i hn;rw [adM.1 hw]; exact fy (ho.nmN hn)
    ·cases hw
   ·exact hp w hw
 unfold Lt.sEq;rw [agC];cases hw:db i with
 | nil=>exact .inl rfl
 | cons a t=>
  rw [hw] at key;cases t with
  | nil=>exact .inl rfl
  | cons b t=>exact .inr (decide_eq_false (key b (by simp)))
theorem QP {p:Lt.Program} {fs:List Lt.Func} {f:Lt.Func} {bs:List Lt.Block} {b:Lt.Block} {w:Int} {n:Nat} {i:Lt.Instr} (hw:5<=w/\w<=8) (h:Lt.instr i=true) (ok:i.ok) (hl:n+1<=1024) :
  Runs (stB p fs f bs b w n) [Lt.words i] (stI p fs f bs b b.Code { i with Frames:=[],Objs:=[] } (if i.Op=31\/i.Op=34 then 7 else 6) ((n+1:Nat):Int)):=by
 have ho:=eP h
 have hb:=bare i h ok
 have hin:(stB p fs f bs b w (n:Int)).ins=true:=by
  show (decide (5<=w)&&decide (w<=8))=true
  simp [hw.1,hw.2]
 refine pb fun c=>?_
 rw [Ww];cases hd:(Lt.Of i.Op).1.Dst with
 | true=>
  rw [if_pos rfl];have hN:=ho.dstN hd
  have he:Lt.sEq ([i.Dst,[61]]++db i)=true:=by
   unfold Lt.sEq;have h1:decide (2 < ([i.Dst,[61]]++db i).length)=true:=by
    unfold db; simp
   rw [h1]; rfl
  unfold Lt.aI;rw [he,if_pos rfl];unfold Lt.cz;have e0:Lt.w0 ([i.Dst,[61]]++db i)=i.Dst:=rfl
  have e2:([i.Dst,[61]]++db i).drop 2=db i:=rfl
  rw [he,e0,aR,hN,hin,if_neg (by decide),if_neg (by decide),if_pos rfl,if_pos rfl,e2,hb];simp only
  rw [if_neg (by show ¬ (1024:Int)<=(n:Int); omega),fu];rfl
 | false=>
  rw [if_neg (by decide),ad6];have he:=abI h ok
  have hD:i.Dst=[]:=by have:=ho.dst; rw [hd] at this; simpa using this
  have e0:Lt.w0 (db i)=(Lt.Of i.Op).1.Word:=rfl
  have hk:∀ k∈[Lt.kB,Lt.fw,Lt.gR,Lt.fj,Lt.eu,Lt.pi,Lt.eh,Lt.oF,Lt.eI,Lt.t8,Lt.kAt,Lt.l6,Lt.ig,Lt.cu,Lt.nY,Lt.jg],¬ Lt.w0 (db i)=k:=by
   rw [e0];rcases aaE ho.of hd with e | e | e | e <;> rw [e] <;> decide +kernel
  rw [Q5 (hk _ (by simp)) (lu (hk _ (by simp)) (hk _ (by simp)) (hk _ (by simp)) (hk _ (by simp)) (hk _ (by simp))) (ze (hk _ (by simp)) (hk _ (by simp)) (hk _ (by simp)) (hk _ (by simp))) (VL (hk _ (by simp)) (hk _ (by simp)) (hk _ (by simp)) (hk _ (by simp)) (hk _ (by simp)) (hk _ (by simp)))];unfold Lt.cz;rw [he,hin,afB,if_neg (by decide),if_neg (by decide),if_neg (by decide),if_neg (by decide)];rw [hD] at hb;rw [hb];simp only
  rw [if_neg (by show ¬ (1024:Int)<=(n:Int); omega),fu];simp only [hD];rfl
theorem Is {x:Lt.Frame} (h:Lt.frame x=true) (ok:x.ok):Lt.aH (Lt.fZ x) 4 true=(x.Vars,true):=by
 obtain ⟨_,_,_,_,_,h4⟩:=qi h;unfold Lt.aH Lt.fZ;have hg:=sJ (objs:=true) (l:=x.Vars) (by
  intro b hb;have:=h4 b hb
  unfold Lt.gn at this;simp only [ac9] at this;exact ⟨this.1,this.2,ok.2 b hb⟩)
 have ed:([Lt.kAt,x.Func,x.Block,Lt.number x.At]++x.Vars.flatMap fun b=>[b.Name,Lt.ac b.A]).drop (4:Int).toNat=x.Vars.flatMap fun b=>[b.Name,Lt.ac b.A]:=rfl
 rw [ed,hg,if_neg (by simp; omega)]
theorem xM {p:Lt.Program} {fs:List Lt.Func} {f:Lt.Func} {bs:List Lt.Block} {b:Lt.Block} {cs:List Lt.Instr} {n:Int}:∀ (l:List Lt.Frame) (i:Lt.Instr),(∀ x∈l,Lt.frame x=true/\x.ok)->i.Frames.length+l.length<=16 ->
  Runs (stI p fs f bs b cs i 7 n) (l.map Lt.fZ) (stI p fs f bs b cs { i with Frames:=i.Frames++l } 7 n)
 | [],i,_,_=>by simpa using eZ _
 | x::l,i,h,hl=>by
  obtain ⟨h1,hok⟩:=h x (by simp);obtain ⟨hf,hb,ha0,ha1,h16,_⟩:=qi h1;have hl':i.Frames.length+(l.length+1)<=16:=hl
  have ih:=xM (p:=p) (fs:=fs) (f:=f) (bs:=bs) (b:=b) (cs:=cs) (n:=n) l { i with Frames:=i.Frames++[x] } (fun y hy=>h y (by simp [hy])) (by simp; omega)
  refine ⟨stI p fs f bs b cs { i with Frames:=i.Frames++[x] } 7 n,fun c=>s6 (iI (fy hf)) (by show ¬ Lt.kAt=Lt.kB; decide) (lu (by show ¬ Lt.kAt=_; decide) (by show ¬ Lt.kAt=_; decide) (by show ¬ Lt.kAt=_; decide) (by show ¬ Lt.kAt=_; decide) (by show ¬ Lt.kAt=_; decide)) (ze (by show ¬ Lt.kAt=_; decide) (by show ¬ Lt.kAt=_; decide) (by show ¬ Lt.kAt=_; decide) (by show ¬ Lt.kAt=_; decide)) ?_,by simpa using ih⟩;refine (T8 (by show (decide ((5:Int)<=7)&&decide ((7:Int)<=8))=true; decide) rfl).trans ?_;have:Lt.sAt (stI p fs f bs b cs i 7 n) (Lt.fZ x)=(0,stI p fs f bs b cs { i with Frames:=i.Frames++[x] } 7 n):=by
   unfold Lt.sAt;have en:Lt.aY (Lt.w3 (Lt.fZ x))=(x.At,true):=ji (by unfold Lt.inR; omega)
   have e1:Lt.w1 (Lt.fZ x)=x.Func:=rfl
   have e2:Lt.w2 (Lt.fZ x)=x.Block:=rfl
   rw [Is h1 hok,aR,aR,en,e1,e2,hf,hb,zn,mJ];have ho:(decide ((stI p fs f bs b cs i 7 n).Where=7)&&(x.Vars,true).2&&true&&true&&((x.At,true).2&&decide (0<=(x.At,true).1)&&decide ((x.At,true).1<=1024)))=true:=by
    show (true&&true&&true&&true&&(true&&decide (0<=x.At)&&decide (x.At<=1024)))=true
    simp [ha0,ha1]
   rw [ho,if_neg (by decide),if_neg (by show ¬ (16<x.Vars.length\/16<=i.Frames.length); omega)]
  rw [this]
theorem DA {p:Lt.Program} {fs:List Lt.Func} {f:Lt.Func} {bs:List Lt.Block} {b:Lt.Block} {cs:List Lt.Instr} {n:Int}:∀ (l:List Lt.Virt) (i:Lt.Instr) (w:Int),(w=7\/w=8)->(∀ x∈l,Lt.virt x=true/\x.ok)->i.Objs.length+l.length<=99 ->
  ∃ w',(w'=7\/w'=8)/\Runs (stI p fs f bs b cs i w n) (l.map Lt.lz) (stI p fs f bs b cs { i with Objs:=i.Objs++l } w' n)
 | [],i,w,hw,_,_=>⟨w,hw,by simpa using eZ _⟩
 | x::l,i,w,hw,h,hl=>by
  obtain ⟨h1,hok⟩:=h x (by simp);obtain ⟨hc,h8,hv⟩:=yZ h1;have hl':i.Objs.length+(l.length+1)<=99:=hl
  obtain ⟨w',hw',ih⟩:=DA (p:=p) (fs:=fs) (f:=f) (bs:=bs) (b:=b) (cs:=cs) (n:=n) l { i with Objs:=i.Objs++[x] } 8 (.inr rfl) (fun y hy=>h y (by simp [hy])) (by simp; omega);refine ⟨w',hw',stI p fs f bs b cs { i with Objs:=i.Objs++[x] } 8 n,fun c=>s6 (iI (fy hc)) (by show ¬ Lt.l6=Lt.kB; decide) (lu (by show ¬ Lt.l6=_; decide) (by show ¬ Lt.l6=_; decide) (by show ¬ Lt.l6=_; decide) (by show ¬ Lt.l6=_; decide) (by show ¬ Lt.l6=_; decide)) (ze (by show ¬ Lt.l6=_; decide) (by show ¬ Lt.l6=_; decide) (by show ¬ Lt.l6=_; decide) (by show ¬ Lt.l6=_; decide)) ?_,by simpa using ih⟩;have hin:(stI p fs f bs b cs i w n).ins=true:=by
   show (decide (5<=w)&&decide (w<=8))=true
   rcases hw with rfl | rfl <;> decide
  refine (S3 hin rfl).trans ?_;have:Lt.jB (stI p fs f bs b cs i w n) (Lt.lz x)=(0,stI p fs f bs b cs { i with Objs:=i.Objs++[x] } 8 n):=by
   unfold Lt.jB;have ed:(Lt.lz x).drop 2=Lt.puts x.Vals:=rfl
   have e1:Lt.w1 (Lt.lz x)=x.Class:=rfl
   have el:(Lt.lz x).length=x.Vals.length+2:=by simp [Lt.lz,Lt.puts]
   rw [ed,E9 hv hok,aR,e1,hc,zn,mJ,el];have ho:(decide (7<=(stI p fs f bs b cs i w n).Where)&&decide (2<=x.Vals.length+2)&&decide (x.Vals.length+2<=10)&&true&&(x.Vals,true).2)=true:=by
    show (decide (7<=w)&&decide (2<=x.Vals.length+2)&&decide (x.Vals.length+2<=10)&&true&&true)=true
    simp; omega
   rw [ho,if_neg (by decide),if_neg (by omega)];rfl
  rw [this]
theorem JH {p:Lt.Program} {fs:List Lt.Func} {f:Lt.Func} {bs:List Lt.Block} {b:Lt.Block} {w:Int} {n:Nat} {i:Lt.Instr} (hw:5<=w/\w<=8) (h:Lt.instr i=true) (ok:i.ok) (hl:n+1<=1024) :
  ∃ w',(5<=w'/\w'<=8)/\Runs (stB p fs f bs b w n) ((Lt.dO i).map fun x=>x.Words) (stB p fs f bs { b with Code:=b.Code++[i] } w' ((n+1:Nat):Int)):=by
 have ho:=eP h
 have a:=QP (p:=p) (fs:=fs) (f:=f) (bs:=bs) (b:=b) hw h ok hl
 have e:(Lt.dO i).map (fun x=>x.Words)=[Lt.words i]++(i.Frames.map Lt.fZ++i.Objs.map Lt.lz):=by
  simp [Lt.dO,Lt.ln,Function.comp_def]
 rw [e];by_cases hc:i.Op=31\/i.Op=34
 ·rw [if_pos hc] at a;have b1:=xM (p:=p) (fs:=fs) (f:=f) (bs:=bs) (b:=b) (cs:=b.Code) (n:=((n+1:Nat):Int)) i.Frames { i with Frames:=[],Objs:=[] } (fun x hx=>⟨ho.fr x hx,ok.2.1 x hx⟩) (by simpa using ho.frames)
  obtain ⟨w',hw',b2⟩:=DA (p:=p) (fs:=fs) (f:=f) (bs:=bs) (b:=b) (cs:=b.Code) (n:=((n+1:Nat):Int)) i.Objs { i with Objs:=[] } 7 (.inl rfl) (fun x hx=>⟨ho.ob x hx,ok.2.2 x hx⟩) (by simpa using ho.objs);simp only [ad6] at b1 b2;exact ⟨w',by omega,cH a (cH b1 b2)⟩
 ·rw [if_neg hc] at a;obtain ⟨e1,e2⟩:=ho.none (by omega);refine ⟨6,by omega,?_⟩;have ei:({ i with Frames:=[],Objs:=[] }:Lt.Instr)=i:=by
   rw [<- e1,<- e2]
  rw [ei] at a;rw [e1,e2];exact a
theorem A2 {p:Lt.Program} {fs:List Lt.Func} {f:Lt.Func} {bs:List Lt.Block}:∀ (l:List Lt.Instr) (b:Lt.Block) (w:Int) (n:Nat),(5<=w/\w<=8)->(∀ i∈l,Lt.instr i=true/\i.ok)->n+l.length<=1024 ->
  ∃ w',(5<=w'/\w'<=8)/\Runs (stB p fs f bs b w n) ((l.flatMap Lt.dO).map fun x=>x.Words) (stB p fs f bs { b with Code:=b.Code++l } w' ((n+l.length:Nat):Int))
 | [],b,w,n,hw,_,_=>⟨w,hw,by simpa using eZ _⟩
 | i::l,b,w,n,hw,h,hl=>by
  obtain ⟨h1,hok⟩:=h i (by simp);have hl':n+(l.length+1)<=1024:=hl
  obtain ⟨w1,hw1,a⟩:=JH (p:=p) (fs:=fs) (f:=f) (bs:=bs) (b:=b) hw h1 hok (n:=n) (by omega);obtain ⟨w2,hw2,ih⟩:=A2 (p:=p) (fs:=fs) (f:=f) (bs:=bs) l { b with Code:=b.Code++[i] } w1 (n+1) hw1 (fun y hy=>h y (by simp [hy])) (by omega);have e:n+1+l.length=n+(i::l).length:=by simp; omega
  rw [e] at ih;refine ⟨w2,hw2,?_⟩;rw [adS,ad5];exact cH a (by simpa using ih)
theorem UA {t:Lt.Term} (h:Lt.cr t=true) (ok:t.ok):Lt.gJ (Lt.dS t)=some t:=by
 rcases rg h with ⟨x,rfl,h1⟩ | ⟨a,x,y,rfl,h1,h2,h3⟩ | ⟨a,rfl,h1⟩ | ⟨n,rfl⟩
 ·have e:Lt.dS ⟨1,⟨0,[],0⟩,[x],0⟩=[Lt.ig,x]:=rfl
  rw [e];unfold Lt.gJ;rw [if_pos (show Lt.w0 [Lt.ig,x]=Lt.ig from rfl),aR,if_pos (by show (true&&Lt.Name x)=true; rw [h1]; rfl)];rfl
 ·have e:Lt.dS ⟨2,a,[x,y],0⟩=[Lt.cu,Lt.ac a,x,y]:=by simp [Lt.dS]
  have ha:Lt.cm (Lt.ac a)=(a,true):=mf (by unfold Lt.aZ at h1; simp only [ac9] at h1; exact h1.1) ok.1
  rw [e];unfold Lt.gJ;rw [if_neg (by show ¬ Lt.cu=_; decide),if_pos (show Lt.w0 [Lt.cu,Lt.ac a,x,y]=Lt.cu from rfl),aR,aR,if_pos (by
   show (true&&(Lt.Name x&&Lt.Name y)&&Lt.dC false (Lt.ac a))=true
   rw [h2,h3,qR h1 ok.1]; rfl)]
  show some (⟨2,(Lt.cm (Lt.ac a)).1,[x,y],0⟩:Lt.Term)=_
  rw [ha]
 ·have e:Lt.dS ⟨3,a,[],0⟩=[Lt.nY,Lt.ac a]:=by simp [Lt.dS]
  have ha:Lt.cm (Lt.ac a)=(a,true):=mf (by unfold Lt.aZ at h1; simp only [ac9] at h1; exact h1.1) ok.1
  rw [e];unfold Lt.gJ;rw [if_neg (by show ¬ Lt.nY=_; decide),if_neg (by show ¬ Lt.nY=_; decide),if_pos (show Lt.w0 [Lt.nY,Lt.ac a]=Lt.nY from rfl),if_pos (by
   show (true&&Lt.dC false (Lt.ac a))=true
   rw [qR h1 ok.1]; rfl)]
  show some (⟨3,(Lt.cm (Lt.ac a)).1,[],0⟩:Lt.Term)=_
  rw [ha]
 ·have e:Lt.dS ⟨4,⟨0,[],0⟩,[],n⟩=[Lt.jg,Lt.ak n]:=by simp [Lt.dS]
  have ha:Lt.aY (Lt.ak n)=(n,true):=ji ok.2
  rw [e];unfold Lt.gJ;rw [if_neg (by show ¬ Lt.jg=_; decide),if_neg (by show ¬ Lt.jg=_; decide),if_neg (by show ¬ Lt.jg=_; decide),if_pos (show Lt.w0 [Lt.jg,Lt.ak n]=Lt.jg from rfl),if_pos (by
   show (true&&(Lt.aY (Lt.ak n)).2)=true
   rw [ha]; rfl)]
  show some (⟨4,⟨0,[],0⟩,[],(Lt.aY (Lt.ak n)).1⟩:Lt.Term)=_
  rw [ha]
theorem WH {p:Lt.Program} {fs:List Lt.Func} {f:Lt.Func} {bs:List Lt.Block} {b:Lt.Block} {w n:Int} {t:Lt.Term} (hw:5<=w/\w<=8) (h:Lt.cr t=true) (ok:t.ok) :
  Runs (stB p fs f bs b w n) [Lt.dS t] (stB p fs f bs { b with End:=t } 9 n):=by
 have hin:(stB p fs f bs b w n).ins=true:=by
  show (decide (5<=w)&&decide (w<=8))=true
  simp [hw.1,hw.2]
 have key:Lt.oE (stB p fs f bs b w n) (Lt.dS t)=(0,stB p fs f bs { b with End:=t } 9 n):=by
  unfold Lt.oE;rw [UA h ok];simp only [fu];rfl
 have hk:Lt.sEq (Lt.dS t)=false/\(Lt.w0 (Lt.dS t)=Lt.ig\/Lt.w0 (Lt.dS t)=Lt.cu\/Lt.w0 (Lt.dS t)=Lt.nY\/Lt.w0 (Lt.dS t)=Lt.jg):=by
  rcases rg h with ⟨x,rfl,h1⟩ | ⟨a,x,y,rfl,h1,h2,h3⟩ | ⟨a,rfl,h1⟩ | ⟨n,rfl⟩
  ·exact ⟨rfl,.inl rfl⟩
  ·have e:Lt.dS ⟨2,a,[x,y],0⟩=[Lt.cu,Lt.ac a,x,y]:=by simp [Lt.dS]
   rw [e];unfold Lt.aZ at h1;simp only [ac9] at h1;exact ⟨iI (KB h1.1 ok.1),.inr (.inl rfl)⟩
  ·have e:Lt.dS ⟨3,a,[],0⟩=[Lt.nY,Lt.ac a]:=by simp [Lt.dS]
   rw [e]; exact ⟨rfl,.inr (.inr (.inl rfl))⟩
  ·have e:Lt.dS ⟨4,⟨0,[],0⟩,[],n⟩=[Lt.jg,Lt.ak n]:=by simp [Lt.dS]
   rw [e]; exact ⟨rfl,.inr (.inr (.inr rfl))⟩
 obtain ⟨he,hk⟩:=hk;have hn:∀ k∈[Lt.kB,Lt.fw,Lt.gR,Lt.fj,Lt.eu,Lt.pi,Lt.eh,Lt.oF,Lt.eI,Lt.t8,Lt.kAt,Lt.l6],¬ Lt.w0 (Lt.dS t)=k:=by
  rcases hk with e | e | e | e <;> rw [e] <;> decide
 refine pb fun c=>s6 he (hn _ (by simp)) (lu (hn _ (by simp)) (hn _ (by simp)) (hn _ (by simp)) (hn _ (by simp)) (hn _ (by simp))) (ze (hn _ (by simp)) (hn _ (by simp)) (hn _ (by simp)) (hn _ (by simp))) ?_
 unfold Lt.bg;rw [if_pos (.inr (.inr hk)),hin,if_neg (by decide),if_neg (hn _ (by simp)),if_neg (hn _ (by simp)),key]
theorem JY {p:Lt.Program} {fs:List Lt.Func} {f:Lt.Func} {w:Int} {n:Nat} {b:Lt.Block} (hw:w=3\/w=4\/w=9) (h:Lt.block b=true) (ok:b.ok) (hb:f.Blocks.length < 256) (hl:n+(b.Phis.length+b.Code.length)<=1024) :
  Runs (stF p fs f w n) ((Lt.bB b).map fun x=>x.Words) (stF p fs { f with Blocks:=f.Blocks++[b] } 9 ((n+(b.Phis.length+b.Code.length):Nat):Int)):=by
 obtain ⟨hn,he,hp,hc⟩:=mP h;obtain ⟨o1,o2,o3⟩:=ok;have a1:=Nq (p:=p) (fs:=fs) (f:=f) (n:=(n:Int)) hw hn hb
 have a2:=Em (p:=p) (fs:=fs) (f:=f) (bs:=f.Blocks) b.Phis ⟨b.Name,[],[],⟨0,⟨0,[],0⟩,[],0⟩⟩ n (fun x hx=>⟨hp x hx,o1 x hx⟩) (by omega)
 simp only [ad6] at a2;obtain ⟨w',hw',a3⟩:=A2 (p:=p) (fs:=fs) (f:=f) (bs:=f.Blocks) b.Code ⟨b.Name,b.Phis,[],⟨0,⟨0,[],0⟩,[],0⟩⟩ 5 (n+b.Phis.length) (by omega) (fun x hx=>⟨hc x hx,o2 x hx⟩) (by omega);simp only [ad6] at a3;have a4:=WH (p:=p) (fs:=fs) (f:=f) (bs:=f.Blocks) (b:=⟨b.Name,b.Phis,b.Code,⟨0,⟨0,[],0⟩,[],0⟩⟩) (n:=((n+b.Phis.length+b.Code.length:Nat):Int)) hw' he o3
 have e:(Lt.bB b).map (fun x=>x.Words)=[[Lt.eI,b.Name]]++(b.Phis.map Lt.sN++((b.Code.flatMap Lt.dO).map (fun x=>x.Words)++[Lt.dS b.End])):=by
  simp [Lt.bB,Lt.ln,Function.comp_def]
 rw [e,<- af6];exact cH a1 (cH a2 (cH a3 a4))
theorem vt {p:Lt.Program} {fs:List Lt.Func}:∀ (l:List Lt.Block) (f:Lt.Func) (w:Int) (n:Nat),(w=3\/w=4\/w=9)->(∀ b∈l,Lt.block b=true/\b.ok)->f.Blocks.length+l.length<=256->n+longs l<=1024 ->
  Runs (stF p fs f w n) ((l.flatMap Lt.bB).map fun x=>x.Words) (stF p fs { f with Blocks:=f.Blocks++l } (if l=[] then w else 9) ((n+longs l:Nat):Int))
 | [],f,w,n,_,_,_,_=>by simpa [longs] using eZ _
 | b::l,f,w,n,hw,h,hb,hl=>by
  obtain ⟨h1,hok⟩:=h b (by simp);have hb':f.Blocks.length+(l.length+1)<=256:=hb
  have el:longs (b::l)=(b.Phis.length+b.Code.length)+longs l:=by simp [longs]
  rw [el] at hl ⊢;have a:=JY (p:=p) (fs:=fs) (f:=f) hw h1 hok (by omega) (n:=n) (by omega)
  have ih:=vt (p:=p) (fs:=fs) l { f with Blocks:=f.Blocks++[b] } 9 (n+(b.Phis.length+b.Code.length)) (by omega) (fun y hy=>h y (by simp [hy])) (by simp; omega) (by omega)
  rw [adS,ad5,if_neg (by simp),<- af6];have e9:(if l=[] then (9:Int) else 9)=9:=by split <;> rfl
  rw [e9] at ih;exact cH a (by simpa using ih)
theorem OL {p:Lt.Program} {fs:List Lt.Func} {w n:Int} {f:Lt.Func} (hw:w<=2\/w=9) (h:Lt.ax f=true) (ok:f.ok) (hl:fs.length < 8) :
  Runs ⟨{ p with Funcs:=fs },w,n⟩ ((Lt.cK f).map fun x=>x.Words) ⟨{ p with Funcs:=fs++[f] },9,(longs f.Blocks:Int)⟩:=by
 have ho:=nX h
 have a1:=RN (p:=p) (fs:=fs) (n:=n) hw ho.name ho.res hl
 have a2:=xC (p:=p) (fs:=fs) (n:=0) f.Params ⟨f.Name,f.Result,[],[],[]⟩ (qU ho.params) (by simpa using iT (k:=6) ho.params)
 simp only [ad6] at a2;obtain ⟨w',hw',a3⟩:=EV (p:=p) (fs:=fs) (n:=0) f.Vars ⟨f.Name,f.Result,f.Params,[],[]⟩ 3 (.inl rfl) (qU ho.vars) (by simpa using iT (k:=1024) ho.vars);simp only [ad6] at a3;have a4:=vt (p:=p) (fs:=fs) f.Blocks ⟨f.Name,f.Result,f.Params,f.Vars,[]⟩ w' 0 (by omega) (fun b hb=>⟨ho.bl b hb,ok b hb⟩) (by simpa using ho.len) (by simpa using ho.long)
 simp only [ad6,if_neg ho.ne,afD] at a4;have e:(Lt.cK f).map (fun x=>x.Words)=[[Lt.pi,f.Name,f.Result]]++(f.Params.map (fun v=>[Lt.eh,v.Name,v.Type_])++(f.Vars.map (fun v=>[Lt.oF,v.Name,v.Type_])++(f.Blocks.flatMap Lt.bB).map fun x=>x.Words)):=by
  simp [Lt.cK,Lt.ln,Lt.dA,Function.comp_def]
 rw [e];exact cH a1 (cH a2 (cH a3 a4))
theorem xA {p:Lt.Program}:∀ (l fs:List Lt.Func) (w n:Int),(w<=2\/w=9)->(∀ f∈l,Lt.ax f=true/\f.ok)->fs.length+l.length<=8 ->
  ∃ w' n',(w'<=2\/w'=9)/\Runs ⟨{ p with Funcs:=fs },w,n⟩ ((l.flatMap Lt.cK).map fun x=>x.Words) ⟨{ p with Funcs:=fs++l },w',n'⟩
 | [],fs,w,n,hw,_,_=>⟨w,n,hw,by simpa using eZ _⟩
 | f::l,fs,w,n,hw,h,hl=>by
  obtain ⟨h1,hok⟩:=h f (by simp);have hl':fs.length+(l.length+1)<=8:=hl
  have a:=OL (p:=p) (n:=n) hw h1 hok (fs:=fs) (by omega)
  obtain ⟨w',n',hw',ih⟩:=xA (p:=p) l (fs++[f]) 9 (longs f.Blocks) (.inr rfl) (fun y hy=>h y (by simp [hy])) (by simp; omega);refine ⟨w',n',hw',?_⟩;rw [adS,ad5];exact cH a (by simpa using ih)
def Fd (p:Lt.Program):List Lt.Line:=p.Classes.flatMap Lt.cQ++Lt.dA Lt.fj p.Globals++p.Externs.map Lt.gM++p.Funcs.flatMap Lt.cK
theorem MD {p:Lt.Program} (h:Lt.bb p=true) (ok:p.ok):∃ w n,(w<=2\/w=9)/\Runs ⟨⟨p.SSA,[],[],[],[]⟩,0,0⟩ ((Fd p).map fun x=>x.Words) ⟨p,w,n⟩:=by
 have ho:=qL h
 obtain ⟨w1,hw1,a1⟩:=yn (s:=p.SSA) (gs:=[]) (es:=[]) (fs:=[]) (n:=0) p.Classes [] 0 (by omega) ho.cl (by simpa using ho.nc);obtain ⟨w2,hw2,a2⟩:=uq (s:=p.SSA) (cs:=p.Classes) (es:=[]) (fs:=[]) (n:=0) p.Globals [] w1 hw1 (qU ho.glob) (by simpa using iT (k:=8) ho.glob);obtain ⟨w3,hw3,a3⟩:=vu (s:=p.SSA) (cs:=p.Classes) (gs:=p.Globals) (fs:=[]) (n:=0) p.Externs [] w2 hw2 ho.ex (by simpa using ho.ne);obtain ⟨w4,n4,hw4,a4⟩:=xA (p:=p) p.Funcs [] w3 0 hw3 (fun f hf=>⟨ho.fn f hf,ok f hf⟩) (by simpa using ho.nf);simp only [ad6] at a1 a2 a3 a4;refine ⟨w4,n4,hw4,?_⟩;have e:(Fd p).map (fun x=>x.Words)=(p.Classes.flatMap Lt.cQ).map (fun x=>x.Words)++(p.Globals.map (fun v=>[Lt.fj,v.Name,v.Type_])++(p.Externs.map (fun x=>[Lt.eu,x.Name,Lt.ak x.N])++(p.Funcs.flatMap Lt.cK).map fun x=>x.Words)):=by
  simp [Fd,Lt.ln,Lt.dA,Lt.gM,Lt.number,Function.comp_def]
 rw [e];exact cH a1 (cH a2 (cH a3 a4))
theorem Mz {p:Lt.Program} (h:Lt.bb p=true) (ok:p.ok) (hl:(Lt.s8 p).length<=4194304):Lt.bY (Lt.s8 p)=(p,0,0):=by
 have e:=xh h
 rw [e] at hl ⊢;obtain ⟨w,n,hw,hr⟩:=MD h ok;have hout:(⟨p,w,n⟩:Lt.Read).out=true:=by
  show (decide (w<=2)||decide (w=9))=true
  simpa using hw
 unfold Lt.bY;rw [MR (Mp h) hl];simp only [if_true];have el:Lt.di p=(if p.SSA then [Lt.ln [Lt.kB]] else [])++Fd p:=by
  unfold Lt.di Fd; simp
 rw [el];cases hs:p.SSA with
 | true=>
  rw [hs] at hr;rw [if_pos rfl];show Lt.dx (⟨1,[Lt.kB]⟩::numb (1+1) (Fd p)) true _=_
  have h1:Lt.aI ⟨⟨false,[],[],[],[]⟩,0,0⟩ [Lt.kB] true=(0,⟨⟨true,[],[],[],[]⟩,0,0⟩):=rfl
  rw [Lt.dx,h1,if_pos rfl,sL _ _ _ _ _ hr,hout]; rfl
 | false=>
  rw [hs] at hr;rw [if_neg (by decide),ad6,sL _ _ _ _ _ hr,hout]; rfl
end Go.Am
end
