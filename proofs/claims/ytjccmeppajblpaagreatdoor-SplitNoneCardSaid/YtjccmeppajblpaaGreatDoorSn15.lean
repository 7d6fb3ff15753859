/-
  Part 15: AmOldK · AmPk · AmL18a · AmL18b · AmL18c · AmNice19 · AmG19 · AmL19a · AmL19b · AmPk3 · AmL19c · AmL19d · AmE14.
-/
import Derived.Test.YtjccmeppajblpaaGreatDoorSn14
set_option linter.unusedSimpArgs false
set_option linter.unusedVariables false
set_option linter.unusedSectionVars false
set_option linter.unnecessarySimpa false
section
namespace Go.Am
open Go Go.Proofs
def dj (x1:Int) (KK:(Int)->Prop):Prop:=
 KK (IntKind.u8.wrap (IntKind.i64.wrap (48+x1)))
def kE (a0_n:Int) (KK:(Int)->Prop):Prop:=
 if (decide (a0_n < 0))=true then dj (IntKind.i64.wrap (0-a0_n)) KK else dj a0_n KK
def gH (x3:Int) (x4:List Int) (KK:(List UInt8)->Prop):Prop:=
 (((0:Int)<=x3/\x3.toNat<=20/\20<=20/\x4.length=20))/\KK ((((x4.take 20).drop x3.toNat).take (20-x3.toNat)).map fun n=>UInt8.ofNat n.toNat)
def fm (a0_n:Int) (x1:Int) (x2:List Int) (KK:(List UInt8)->Prop):Prop:=
 if (decide (a0_n < 0))=true then (((0:Int)<=(IntKind.i64.wrap (x1 - 1))/\(IntKind.i64.wrap (x1 - 1)) < 20/\x2.length=20))/\gH (IntKind.i64.wrap (x1 - 1)) (x2.set (IntKind.i64.wrap (x1 - 1)).toNat 45) KK else gH x1 x2 KK
def cX (a0_n:Int) (KK:(List UInt8)->Prop):Nat->Int->Int->(List Int)->Prop
 | 0,_,_,_=>False
 | n9+1,x5,x6,x7=>(True)/\(((0:Int)<=(IntKind.i64.wrap (x5 - 1))/\(IntKind.i64.wrap (x5 - 1)) < 20/\x7.length=20))/\(True)/\if (decide ((IntKind.i64.wrap (Int.tdiv x6 10))=0))=true then fm a0_n (IntKind.i64.wrap (x5 - 1)) (x7.set (IntKind.i64.wrap (x5 - 1)).toNat (Lt.dG (Int.tmod x6 10))) KK else (fun y1 y2 y3=>cX a0_n KK n9 y1 y2 y3) (IntKind.i64.wrap (x5 - 1)) (IntKind.i64.wrap (Int.tdiv x6 10)) (x7.set (IntKind.i64.wrap (x5 - 1)).toNat (Lt.dG (Int.tmod x6 10)))
def ta (a0_n:Int) (KK:(List UInt8)->Prop):Prop:=
 ∃ n9,cX a0_n KK n9 20 a0_n [0,0,0,0,0,0,0,0,0,0,0,0,0,0,0,0,0,0,0,0]
theorem zM (n:Int) (KK:Int->Prop) (h:KK (Lt.dG n)):kE n KK:=by
 unfold kE dj; unfold Lt.dG at h;by_cases hn:n < 0
 ·simp only [hn,decide_true,if_true] at h ⊢; exact h
 ·simp only [hn,decide_false,SV,if_false] at h ⊢; exact h
theorem ch {n:Int} (h1:-9223372036854775808<=n) (h2:n < 9223372036854775808):IntKind.i64.wrap n=n:=by
 simp only [IntKind.wrap,IntKind.signed,IntKind.bits];simp;omega
theorem Bk {r:Int}:UInt8.ofNat (Lt.dG (Int.tmod r 10)).toNat=UInt8.ofNat (48+r.natAbs % 10):=by
 have hb:(Int.tmod r 10).natAbs=r.natAbs % 10:=by simp [Int.natAbs_tmod]
 have hlt:r.natAbs % 10 < 10:=Nat.mod_lt _ (by omega)
 have h:Lt.dG (Int.tmod r 10)=((48+r.natAbs % 10:Nat):Int):=by
  unfold Lt.dG;have e1:(if Int.tmod r 10 < 0 then IntKind.i64.wrap (0-Int.tmod r 10) else Int.tmod r 10)=((r.natAbs % 10:Nat):Int):=by
   split
   ·rw [ch (by omega) (by omega)]; omega
   ·omega
  rw [e1,ch (by omega) (by omega)];simp only [IntKind.wrap,IntKind.signed,IntKind.bits];simp;omega
 rw [h,Int.toNat_natCast]
theorem cY {n:Nat} (h:n < 10):Lt.digs n=[UInt8.ofNat (48+n)]:=by
 rw [Lt.digs,if_pos h]
theorem iX {n:Nat} (h:¬ n < 10):Lt.digs n=Lt.digs (n / 10)++[UInt8.ofNat (48+n % 10)]:=by
 rw [Lt.digs,if_neg h]
abbrev by8 (l:List Int):List UInt8:=l.map fun n=>UInt8.ofNat n.toNat
theorem sZ (l:List Int) (i:Nat) (v:Int) (h:i<l.length):(l.set i v).drop i=v::l.drop (i+1):=by
 rw [Tr (by simpa using h)];simp only [List.getElem_set_self]
 congr 1
 exact List.drop_set_of_lt (by omega)
theorem Co (n:Int) (KK:List UInt8->Prop):∀ (k:Nat) (r:Int) (at_:Nat) (arr:List Int),r.natAbs < 10 ^ (k+1)->k+1<=at_->at_<=20->arr.length=20->r.natAbs<=9223372036854775808 ->
  (∀ at' arr',at_<=at'+(k+1)->at' < 20->arr'.length=20->by8 (arr'.drop at')=Lt.digs r.natAbs++by8 (arr.drop at_)->fm n (at':Int) arr' KK) ->
  cX n KK (k+1) (at_:Int) r arr:=by
 intro k;induction k with
 | zero=>
  intro r at_ arr h1 h2 h3 h4 h5 hk;have w:IntKind.i64.wrap ((at_:Int) - 1)=((at_ - 1:Nat):Int):=by rw [ch (by omega) (by omega)]; omega
  have hq:IntKind.i64.wrap (Int.tdiv r 10)=0:=by
   have:(Int.tdiv r 10).natAbs=r.natAbs / 10:=by rw [Int.natAbs_tdiv]; rfl
   have h0:r.natAbs / 10=0:=by omega
   have:Int.tdiv r 10=0:=by omega
   rw [this]; rfl
  simp only [cX,w,hq,decide_true,if_true,Int.toNat_natCast];refine ⟨trivial,⟨SR _,by omega,h4⟩,trivial,?_⟩;refine hk (at_ - 1) _ (by omega) (by omega) (by simpa using h4) ?_;rw [sZ _ _ _ (by omega),cY (by omega)];simp only [by8,List.map_cons,Bk];rw [Nat.mod_eq_of_lt (by omega),show at_ - 1+1=at_ by omega];rfl
 | succ k ih=>
  intro r at_ arr h1 h2 h3 h4 h5 hk;have w:IntKind.i64.wrap ((at_:Int) - 1)=((at_ - 1:Nat):Int):=by rw [ch (by omega) (by omega)]; omega
  have hq:(Int.tdiv r 10).natAbs=r.natAbs / 10:=by rw [Int.natAbs_tdiv]; rfl
  have wq:IntKind.i64.wrap (Int.tdiv r 10)=Int.tdiv r 10:=ch (by omega) (by omega)
  simp only [cX,w,wq,Int.toNat_natCast];refine ⟨trivial,⟨SR _,by omega,h4⟩,trivial,?_⟩;have hd:by8 ((arr.set (at_ - 1) (Lt.dG (Int.tmod r 10))).drop (at_ - 1))=UInt8.ofNat (48+r.natAbs % 10)::by8 (arr.drop at_):=by
   rw [sZ _ _ _ (by omega)];simp only [by8,List.map_cons,Bk];rw [show at_ - 1+1=at_ by omega]
  split
  ·rename_i hc;have hc':Int.tdiv r 10=0:=by simpa using hc
   have h0:r.natAbs / 10=0:=by rw [<- hq,hc']; rfl
   refine hk (at_ - 1) _ (by omega) (by omega) (by simpa using h4) ?_;rw [hd,cY (by omega),Nat.mod_eq_of_lt (by omega)];rfl
  ·rename_i hc;have hc':¬ Int.tdiv r 10=0:=by simpa using hc
   have h10:¬ r.natAbs < 10:=by
    intro hlt;exact hc' (by omega)
   refine ih _ _ _ (by rw [hq]; rw [Nat.pow_succ] at h1; omega) (by omega) (by omega) (by simpa using h4) (by omega) (fun at' arr' k1 k2 k3 k4=>hk at' arr' (by omega) k2 k3 ?_);rw [k4,hd,iX h10,hq];simp
theorem EJ (n:Int) (hp:Lt.lR n) (KK:List UInt8->Prop) (h:KK (Lt.bP n)):ta n KK:=by
 unfold Lt.lR Lt.inR at hp;refine ⟨19,Co n KK 18 n 20 _ (by omega) (by omega) (by omega) rfl (by omega) (fun at' arr' k1 k2 k3 k4=>?_)⟩;simp only [List.drop_eq_nil_of_le (show ([0,0,0,0,0,0,0,0,0,0,0,0,0,0,0,0,0,0,0,0]:List Int).length<=20 from SN _),by8,List.map_nil,TV] at k4;unfold fm;split
 ·rename_i hc;have hn:n < 0:=by simpa using hc
  have w:IntKind.i64.wrap ((at':Int) - 1)=((at' - 1:Nat):Int):=by rw [ch (by omega) (by omega)]; omega
  rw [w,Int.toNat_natCast];refine ⟨⟨SR _,by omega,k3⟩,⟨SR _,by rw [Int.toNat_natCast]; omega,by omega,by simpa using k3⟩,?_⟩;rw [Int.toNat_natCast,Ub (by simp [k3]),Ub (by simp [k3]),sZ _ _ _ (by omega),List.map_cons,show at' - 1+1=at' by omega];have:Lt.bP n=45::Lt.digs n.natAbs:=by simp [Lt.bP,hn]
  rw [this] at h;simp only [k4];exact h
 ·rename_i hc;have hn:¬ n < 0:=by simpa using hc
  refine ⟨⟨SR _,by rw [Int.toNat_natCast]; omega,by omega,k3⟩,?_⟩;rw [Int.toNat_natCast,Ub (by simp [k3]),Ub (by simp [k3]),k4];have:Lt.bP n=Lt.digs n.natAbs:=by simp [Lt.bP,hn]
  rw [this] at h;exact h
set_option maxRecDepth 100000 in
set_option maxHeartbeats 4000000 in
theorem wj (g:G) (hg:g.nt=Tryz.f70.ntmps) (a0_n:Int) (K:AV->Prop) (KK:(Int)->Prop) (hKK:∀ r,KK r->K (o1 (cI .u8) r) ) (h:kE a0_n KK) :
  AW Tryz.prog g (Tryz.f70.body.getD .skip) (Eo Tryz.prog [.tmp 2] K) ⟨aL 0 [.one ((cI .i64).enc a0_n)],[]⟩:=by
 have hcs:CT.Ok Tryz.prog []:=CT.ok0
 have hn:g.nt=10:=hg
 have hm:Tryz.prog.follows .mixedOrders=true:=by kernel_rfl
 unfold Tryz.f70;dsimp only [Option.getD_some];unfold kE at h;apply cy
 intro K1 hK1;have hx:=True.intro
 refine rgA [0] [] ?_;refine stA ?_;refine enA ?_;refine hK1 _ ?_;refine vJ [] [0] [] (fun y:Int=>⟨[(0,.one (.c (.d (.int .i64 y))))],[]⟩) (fun y=>dj y KK) ?_ ?_
 ·apply cy
  intro K3 hK3;have hx:=True.intro
  refine rgA [0,4] [] ?_
  iterate 2 refine stA ?_
  refine enA ?_;refine hK3 _ ?_;refine cdA h rfl (fun h=>?_) (fun h=>?_)
  ·have hx:=True.intro
   refine rgA [0] [] ?_
   iterate 3 refine stA ?_
   refine enA ?_;exact ⟨(IntKind.i64.wrap (0-a0_n)),siA,h⟩
  ·apply oA
   exact ⟨a0_n,siA,h⟩
 ·rintro x1 h
  change dj x1 KK at h
  unfold dj at h;apply cy
  intro K2 hK2;have hx:=True.intro
  refine rgA [2] [] ?_
  iterate 4 refine stA ?_
  refine enA ?_;refine hK2 _ ?_;apply DV
  exact fiA (hKK _ h)
def nM:CK1:=lL (fn1 (cI .i64) (o1 (cI .u8)) (fun _=>True) Lt.dG)
theorem D6:Con Tryz.prog 70 nM:=
 OO (fn:=Tryz.f70) (c:=Tryz.f70.body.getD .skip) (by kernel_rfl) (by kernel_rfl) (by kernel_rfl) (by decide +kernel) (fun g a0_n K hg hp hK=>wj g hg a0_n K _ (fun _ h=>h) (zM a0_n _ hK))
attribute [push_cast] nM
set_option maxRecDepth 100000 in
set_option maxHeartbeats 4000000 in
theorem Aj (g:G) (hg:g.nt=Tryz.f56.ntmps) (a0_n:Int) (K:AV->Prop) (KK:(List UInt8)->Prop) (hKK:∀ r,KK r->K (o1 cS r) ) (h:ta a0_n KK) :
  AW Tryz.prog g (Tryz.f56.body.getD .skip) (Eo Tryz.prog [.tmp 2] K) ⟨aL 0 [.one ((cI .i64).enc a0_n)],[]⟩:=by
 have hcs:CT.Ok Tryz.prog [(70,nM)]:=(CT.cons D6 CT.ok0)
 have hn:g.nt=27:=hg
 have hm:Tryz.prog.follows .mixedOrders=true:=by kernel_rfl
 unfold Tryz.f56;dsimp only [Option.getD_some];unfold ta at h;apply cy
 intro K1 hK1;have hx:=True.intro
 refine rgA [0] [] ?_;refine stA ?_;refine enA ?_;refine hK1 _ ?_;apply cy
 intro K2 hK2;have hx:=True.intro
 refine rgA [0,3] [] ?_;refine stA ?_;refine enA ?_;refine hK2 _ ?_;apply cy
 intro K3 hK3;have hx:=True.intro
 refine rgA [0,3,4] [] ?_;refine stA ?_;refine enA ?_;refine hK3 _ ?_;refine vJ [] [0,3,4] [] (fun y:Int×List Int=>⟨[(0,.one (.c (.d (.int .i64 a0_n)))),(3,.one (.c (.pl ⟨.loc 3,0,[]⟩))),(4,.one (.c (.d (.int .i64 y.1))))],[(.loc 3,⟨true,y.2.map (tI .u8)⟩)]⟩) (fun y=>fm a0_n y.1 y.2 KK) ?_ ?_
 ·apply cy
  intro K7 hK7;have hx:=True.intro
  refine rgA [0,3,4,5] [] ?_
  iterate 2 refine stA ?_
  refine enA ?_;refine hK7 _ ?_;apply uJ
  intro Q8 hN8 hE8 hO8;obtain ⟨n9,h⟩:=h;refine LJ [] [0,3,4,5] [] (fun y:Nat×Int×Int×List Int=>⟨[(0,.one (.c (.d (.int .i64 a0_n)))),(3,.one (.c (.pl ⟨.loc 3,0,[]⟩))),(4,.one (.c (.d (.int .i64 y.2.1)))),(5,.one (.c (.d (.int .i64 y.2.2.1))))],[(.loc 3,⟨true,y.2.2.2.map (tI .u8)⟩)]⟩) (fun y=>cX a0_n KK y.1 y.2.1 y.2.2.1 y.2.2.2) (fun y=>y.1) (n9,20,a0_n,[0,0,0,0,0,0,0,0,0,0,0,0,0,0,0,0,0,0,0,0]) ?_ h ?_
  ·first | exact siA (by rfl) | exact siA
  clear h;rintro ⟨n9,x5,x6,x7⟩ h K9 hK9
  cases n9 with
  | zero=>exact h.elim
  | succ n9=>
   change cX a0_n KK (n9+1) x5 x6 x7 at h
   unfold cX at h;apply uJ
   intro Q10 hN10 hE10 hO10;apply cy
   intro K11 hK11;have hx:=True.intro
   refine rgA [0,3,4,5] [] ?_
   iterate 3 refine stA ?_
   refine enA ?_;refine hK11 _ ?_;apply cy
   intro K12 hK12;obtain ⟨ho1,ho2,h⟩:=h;have hx:=True.intro
   have hx:=And.intro (show ¬ (10:Int)=0 from by decide) hx
   have hx:=AC ho2.1 hx
   have hx:=AC (show (IntKind.i64.wrap (x5 - 1)) < ((20:Nat):Int) from ho2.2.1) hx
   have hx:=And.intro ho2.2.2 hx
   have hx:=And.intro (show (IntKind.i64.wrap (x5 - 1)).toNat < 20 from by omega) hx
   have hx:=And.intro (show 0 < 20 - (IntKind.i64.wrap (x5 - 1)).toNat from by omega) hx
   have hx:=And.intro (show (x7.map (tI .u8))[(IntKind.i64.wrap (x5 - 1)).toNat]? = some (tI .u8 (x7.getD (IntKind.i64.wrap (x5 - 1)).toNat default)) from FZ (tI .u8) x7 (by omega)) hx
   refine rgA [0,3,4,5] [] ?_
   iterate 6 refine stA ?_
   refine enA ?_;refine hK12 _ ?_;apply cy
   intro K13 hK13;obtain ⟨ho1,h⟩:=h;have hx:=True.intro
   have hx:=And.intro (show ¬ (10:Int)=0 from by decide) hx
   refine rgA [0,3,4,5] [] ?_
   iterate 3 refine stA ?_
   refine enA ?_;refine hK13 _ ?_;apply cy
   intro K14 hK14;have hx:=True.intro
   refine rgA [0,3,4,5,17] [] ?_
   iterate 2 refine stA ?_
   refine enA ?_;refine hK14 _ ?_;refine cdA h rfl (fun h=>?_) (fun h=>?_)
   ·apply Gi
    refine hO10 _ _ (by simp) ?_;refine hE8 _ ?_;exact ⟨((IntKind.i64.wrap (x5 - 1)),(x7.set (IntKind.i64.wrap (x5 - 1)).toNat (Lt.dG (Int.tmod x6 10)))),siA,h⟩
   ·apply oA
    refine hN10 _ ?_;exact hK9 _ (n9,(IntKind.i64.wrap (x5 - 1)),(IntKind.i64.wrap (Int.tdiv x6 10)),(x7.set (IntKind.i64.wrap (x5 - 1)).toNat (Lt.dG (Int.tmod x6 10)))) siA h (Nat.lt_succ_self _)
 ·rintro ⟨x1,x2⟩ h
  change fm a0_n x1 x2 KK at h
  unfold fm at h;refine vJ [] [3,4] [] (fun y:Int×List Int=>⟨[(3,.one (.c (.pl ⟨.loc 3,0,[]⟩))),(4,.one (.c (.d (.int .i64 y.1))))],[(.loc 3,⟨true,y.2.map (tI .u8)⟩)]⟩) (fun y=>gH y.1 y.2 KK) ?_ ?_
  ·apply cy
   intro K5 hK5;have hx:=True.intro
   refine rgA [3,4,19] [] ?_
   iterate 2 refine stA ?_
   refine enA ?_;refine hK5 _ ?_;refine cdA h rfl (fun h=>?_) (fun h=>?_)
   ·apply cy
    intro K6 hK6;have hx:=True.intro
    refine rgA [3,4] [] ?_
    iterate 3 refine stA ?_
    refine enA ?_;refine hK6 _ ?_;obtain ⟨ho1,h⟩:=h;have hx:=True.intro
    have hx:=AC ho1.1 hx
    have hx:=AC (show (IntKind.i64.wrap (x1 - 1)) < ((20:Nat):Int) from ho1.2.1) hx
    have hx:=And.intro ho1.2.2 hx
    have hx:=And.intro (show (IntKind.i64.wrap (x1 - 1)).toNat < 20 from by omega) hx
    have hx:=And.intro (show 0 < 20 - (IntKind.i64.wrap (x1 - 1)).toNat from by omega) hx
    have hx:=And.intro (show (x2.map (tI .u8))[(IntKind.i64.wrap (x1 - 1)).toNat]? = some (tI .u8 (x2.getD (IntKind.i64.wrap (x1 - 1)).toNat default)) from FZ (tI .u8) x2 (by omega)) hx
    refine rgA [3,4] [] ?_
    iterate 3 refine stA ?_
    refine enA ?_;exact ⟨((IntKind.i64.wrap (x1 - 1)),(x2.set (IntKind.i64.wrap (x1 - 1)).toNat 45)),siA,h⟩
   ·apply oA
    exact ⟨(x1,x2),siA,h⟩
  ·rintro ⟨x3,x4⟩ h
   change gH x3 x4 KK at h
   unfold gH at h;apply cy
   intro K4 hK4;refine frB (.loc 3) ?_;obtain ⟨ho1,h⟩:=h;have hx:=True.intro
   have hx:=AC ho1.1 hx
   have hx:=AC ho1.2.1 hx
   have hx:=AC ho1.2.2.1 hx
   have hx:=AC ho1.2.2.2 hx
   refine rgA [2] [] ?_
   iterate 4 refine stA ?_
   refine enA ?_;refine hK4 _ ?_;apply DV
   exact fiA (hKK _ h)
def Al:CKt:=bZ [(.i .i64)] [.s] (fun x=>Lt.lR x) (fun x=>Lt.bP x)
theorem Bp:Cont Tryz.prog 56 Al:=
 lU (φ:=fun avs K=>∃ n:Int,avs=[.one ((cI .i64).enc n)]/\Lt.lR n/\K (o1 cS (Lt.bP n))) (fun x K hp hk=>⟨x,rfl,hp,hk⟩)
  (lS (fn:=Tryz.f56) (c:=Tryz.f56.body.getD .skip) (by kernel_rfl) (by kernel_rfl) (by kernel_rfl) _ (fun avs K ⟨x,hx,_,_⟩=>by rw [hx]; exact (by decide +kernel:1<=Tryz.f56.ntmps)) (fun g avs K hg ⟨x,hx,hp,hk⟩=>by
   subst hx;exact Aj g hg x K _ (fun _ h=>h) (EJ x hp _ hk)))
end Go.Am
end

section
namespace Go.Am
open Go
theorem ifk {c:Prop} [Decidable c] {A B:Prop} (h1:c->A) (h2:¬ c->B):if c then A else B:=by
 by_cases hc:c
 ·rw [if_pos hc]; exact h1 hc
 ·rw [if_neg hc]; exact h2 hc
theorem kk {α:Type} {KK:α->Prop} {a b:α} (h:KK a) (e:a=b):KK b:=e ▸ h
theorem Av:∀ (k n:Nat),n < 10 ^ (k+1)->(Lt.digs n).length<=k+1
 | 0,n,h=>by rw [cY (by omega)]; simp
 | k+1,n,h=>by
  by_cases h10:n < 10
  ·rw [cY h10]; simp
  ·rw [iX h10];have:=Av k (n / 10) (by rw [Nat.pow_succ] at h; omega)
   simp only [Tg,SU,Te];omega
theorem E9 {n:Int} (h:Lt.inR n):(Lt.bP n).length<=20:=by
 unfold Lt.inR at h;have:=Av 18 n.natAbs (by omega)
 unfold Lt.bP;simp only [Tg];split <;> simp <;> omega
theorem qY {α:Type} [Inhabited α] {l:List α} {P:α->Prop} (h:∀ x∈l,P x) {i:Nat} (hi:i<l.length):P (l.getD i default):=h _ (bQ l hi)
theorem eC {α:Type} [Inhabited α] (l:List α) (most:Int) (go:List α->Int->Int) (h0:∀ b,go [] b=b) (h1:∀ x r b,¬ b<=most->go (x::r) b=b) (KK:Int->Prop) (A B:(Int×Int->Prop)->Int×Int->Prop)
  (hs:∀ R b i,l.length<=LEN->i<l.length->b<=most->(∀ b',KK (go (l.drop (i+1)) b')->R (b',IntKind.i64.wrap ((i:Int)+1)))->KK (go (l.getD i default::l.drop (i+1)) b)->A R (b,(i:Int)))
  (he:∀ R b i,KK b->B R (b,i)) (b:Int) (h:KK (go l b)):ax (fun R v=>l.length<=4611686018427387904->if (decide (v.2 < (l.length:Int))&&decide (v.1<=most))=true then A R v else B R v) (b,0):=by
 by_cases hl:l.length<=LEN
 ·refine JQ l hl go KK _ (fun R b i hi ih h _=>?_) (fun R b h _=>?_) b h
  ·by_cases hb:b<=most
   ·rw [if_pos (by simp only [cz hi,hb,decide_true,Up])];exact hs R b i hl hi hb ih h
   ·rw [if_neg (by simp [hb])];rw [h1 _ _ _ hb] at h;exact he R b i h
  ·rw [if_neg (by simp)];rw [h0] at h;exact he R b _ h
 ·exact ⟨1,fun h=>absurd h hl⟩
theorem wi (l:List Lt.Var) (most:Int) (KK:Int->Prop) (h:KK (Lt.dW l most)):l4 l most KK:=by
 unfold l4; (try simp only [eZ,eW,eT,lx,vg,jval,bor,band,bnand,bimp,and_self]);unfold Lt.dW at h;intro _;refine ifk (fun hc=>kk h (by grind)) (fun hc _=>?_);refine eC l most (Lt.vN most) (fun _=>rfl) (fun x r b hb=>by simp [Lt.vN,hb]) KK _ _ (fun R b i hl hi hb ih h=>?_) (fun R b i h=>h) _ (kk h (by grind));simp only [Int.toNat_natCast]
 try dsimp +instances only [Int.toNat_natCast]
 refine ⟨⟨SR i,hi⟩,fun _=>?_⟩;simp only [Lt.vN,Lt.plus,hb,if_true] at h;have o:=ob hi
 grind
theorem ww (l:List Lt.Arg) (most:Int) (KK:Int->Prop) (h:KK (Lt.dk l most)):ml l most KK:=by
 unfold ml; (try simp only [eZ,eW,eT,lx,vg,jval,bor,band,bnand,bimp,and_self]);unfold Lt.dk at h;intro _;refine ifk (fun hc=>kk h (by grind)) (fun hc _=>?_);refine eC l most (Lt.uQ most) (fun _=>rfl) (fun x r b hb=>by simp [Lt.uQ,hb]) KK _ _ (fun R b i hl hi hb ih h=>?_) (fun R b i h=>h) _ (kk h (by grind));simp only [Int.toNat_natCast]
 try dsimp +instances only [Int.toNat_natCast]
 refine ⟨⟨SR i,hi⟩,fun _=>?_⟩;simp only [Lt.uQ,Lt.plus,hb,if_true] at h;exact ih _ h
theorem vO (x:Lt.Instr) (most:Int) (hp:Lt.KD x most) (KK:Int->Prop) (h:KK (Lt.dN x most)):kV x most KK:=by
 obtain ⟨⟨_,okF,_⟩,hm⟩:=hp;unfold kV; dsimp only; (try simp only [eZ,eW,eT,jval,bor,band,bnand,bimp,and_self]);unfold Lt.dN at h;intro _;refine ifk (fun hc=>kk h (by grind)) (fun hc _ _ _=>?_);rw [if_neg hc] at h;intro J hJ;have hj:J (Lt.upto most (Lt.plus (Lt.plus (Lt.plus 1 x.Dst.length) x.Frames.length) x.Objs.length) (x.Name.length:Int)):=by
  refine hJ _ ?_;dsimp only;refine eC x.Frames most (Lt.jq most) (fun _=>rfl) (fun x r b hb=>by simp [Lt.jq,hb]) (fun n=>KK (Lt.pM most x.Objs n)) _ _ (fun R b i hl hi hb ih h=>?_) (fun R b i h=>?_) _ (kk h (by unfold Lt.upto; grind))
  ·simp only [Int.toNat_natCast]
   try dsimp +instances only [Int.toNat_natCast]
   have o:(0:Int)<=(i:Int)/\i<x.Frames.length:=⟨SR i,hi⟩
   simp only [o,and_self,true_and];intro _;simp only [Lt.jq,Lt.plus,hb,if_true] at h;have okf:=qY okF hi
   generalize x.Frames.getD i default=f at h okf ⊢;intro J2 hJ2;have hj2:J2 (if IntKind.i64.wrap (b+(f.Func.length:Int))<=most then IntKind.i64.wrap (IntKind.i64.wrap (b+(f.Func.length:Int))+(f.Block.length:Int)) else IntKind.i64.wrap (b+(f.Func.length:Int))):=by
    refine hJ2 _ ?_;refine eC f.Vars most (Lt.lC most) (fun _=>rfl) (fun x r b hb=>by simp [Lt.lC,hb]) (fun n=>KK (Lt.pM most x.Objs (Lt.jq most (x.Frames.drop (i+1)) n))) _ _ (fun R2 b2 j hl2 hj hb2 ih2 h=>?_) (fun R2 b2 j h=>?_) _ (kk h (by grind))
    ·simp only [Int.toNat_natCast]
     try dsimp +instances only [Int.toNat_natCast]
     have o2:(0:Int)<=(j:Int)/\j<f.Vars.length:=⟨SR j,hj⟩
     simp only [o2,and_self,true_and]; (try simp only [eZ,eW,eT,lx,vg,jval,bor,band,bnand,bimp,and_self]);intro _;simp only [Lt.lC,Lt.plus,hb2,if_true] at h
     grind
    ·exact ih _ h
   grind
  ·refine eC x.Objs most (Lt.pM most) (fun _=>rfl) (fun x r b hb=>by simp [Lt.pM,hb]) KK _ _ (fun R b i hl hi hb ih h=>?_) (fun R b i h=>h) _ h;simp only [Int.toNat_natCast]
   try dsimp +instances only [Int.toNat_natCast]
   have o:(0:Int)<=(i:Int)/\i<x.Objs.length:=⟨SR i,hi⟩
   simp only [o,and_self,true_and]; (try simp only [eZ,eW,eT,lx,vg,jval,bor,band,bnand,bimp,and_self]);intro _;simp only [Lt.pM,Lt.plus,hb,if_true] at h
   grind
 unfold Lt.upto Lt.plus at hj
 grind
theorem vh (b:Lt.Block) (most:Int) (hp:Lt.KX b most) (KK:Int->Prop) (h:KK (Lt.dB b most)):kC b most KK:=by
 obtain ⟨⟨okP,okC,okE⟩,hm⟩:=hp;unfold kC; dsimp only; (try simp only [eZ,eW,eT,jval,bor,band,bnand,bimp,and_self]);unfold Lt.dB at h;intro _;refine ifk (fun hc=>kk h (by grind)) (fun hc _=>?_);rw [if_neg (by simpa only [Bool.or_assoc] using hc)] at h;intro J hJ;have hj:J (Lt.upto most (Lt.plus 1 b.Name.length) (b.End.A.S.length:Int)):=by
  refine hJ _ ?_;refine eC b.End.To most (Lt.cTo most) (fun _=>rfl) (fun x r b hb=>by simp [Lt.cTo,hb]) (fun n=>KK (Lt.nl most b.Code (Lt.oP most b.Phis n))) _ _ (fun R n i hl hi hb ih h=>?_) (fun R n i h=>?_) _ h
  ·simp only [Int.toNat_natCast]
   try dsimp +instances only [Int.toNat_natCast]
   refine ⟨⟨SR i,hi⟩,fun _=>?_⟩;simp only [Lt.cTo,Lt.plus,hb,if_true] at h;exact ih _ h
  ·refine eC b.Phis most (Lt.oP most) (fun _=>rfl) (fun x r b hb=>by simp [Lt.oP,hb]) (fun n=>KK (Lt.nl most b.Code n)) _ _ (fun R n i hl hi hb ih h=>?_) (fun R n i h=>?_) _ h
   ·simp only [Int.toNat_natCast]
    try dsimp +instances only [Int.toNat_natCast]
    have o:(0:Int)<=(i:Int)/\i<b.Phis.length:=⟨SR i,hi⟩
    simp only [o,and_self,true_and];intro _;simp only [Lt.oP,Lt.plus,hb,if_true] at h;generalize b.Phis.getD i default=x at h ⊢;refine eC x.Ins most (Lt.Aq most) (fun _=>rfl) (fun x r b hb=>by simp [Lt.Aq,hb]) (fun n=>KK (Lt.nl most b.Code (Lt.oP most (b.Phis.drop (i+1)) n))) _ _ (fun R2 b2 j hl2 hj hb2 ih2 h=>?_) (fun R2 b2 j h=>?_) _ h
    ·simp only [Int.toNat_natCast]
     try dsimp +instances only [Int.toNat_natCast]
     have o2:(0:Int)<=(j:Int)/\j<x.Ins.length:=⟨SR j,hj⟩
     simp only [o2,and_self,true_and]; (try simp only [eZ,eW,eT,lx,vg,jval,bor,band,bnand,bimp,and_self]);intro _;simp only [Lt.Aq,Lt.plus,hb2,if_true] at h
     grind
    ·exact ih _ h
   ·refine eC b.Code most (Lt.nl most) (fun _=>rfl) (fun x r b hb=>by simp [Lt.nl,hb]) KK _ _ (fun R n i hl hi hb ih h=>?_) (fun R n i h=>h) _ h;simp only [Int.toNat_natCast]
    try dsimp +instances only [Int.toNat_natCast]
    refine ⟨⟨SR i,hi⟩,⟨qY okC hi,hm⟩,?_⟩;simp only [Lt.nl,hb,if_true] at h;exact ih _ h
 unfold Lt.upto Lt.plus at hj
 grind
theorem Bz (f:Lt.Func) (most:Int) (hp:Lt.G0 f most) (KK:Int->Prop) (h:KK (Lt.jG f most)):qf f most KK:=by
 obtain ⟨okB,hm⟩:=hp;unfold qf; dsimp only; (try simp only [eZ,eW,eT,jval,bor,band,bnand,bimp,and_self]);unfold Lt.jG at h;intro _;refine ifk (fun hc=>kk h (by grind)) (fun hc _=>?_);rw [if_neg (by simpa using hc)] at h;intro J hJ;have hj:J (Lt.upto most (Lt.plus 1 f.Name.length) (f.Result.length:Int)):=by
  refine hJ _ ?_;refine eC f.Blocks most (Lt.kU most) (fun _=>rfl) (fun x r b hb=>by simp [Lt.kU,hb]) KK _ _ (fun R n i hl hi hb ih h=>?_) (fun R n i h=>h) _ (kk h (by unfold Lt.upto; grind));simp only [Int.toNat_natCast]
  try dsimp +instances only [Int.toNat_natCast]
  refine ⟨⟨SR i,hi⟩,⟨qY okB hi,hm⟩,?_⟩;simp only [Lt.kU,hb,if_true] at h;exact ih _ h
 unfold Lt.upto Lt.plus at hj
 grind
theorem pY:∀ (n:Nat),Lt.digs n≠[]/\∀ c∈Lt.digs n,48<=c.toNat/\c.toNat<=57:=by
 intro n;induction n using Nat.strongRecOn with
 | _ n ih=>
  by_cases h:n < 10
  ·rw [cY h];refine ⟨by simp,fun c hc=>?_⟩;simp only [SY] at hc;subst hc;simp only [UInt8.toNat_ofNat'];omega
  ·rw [iX h];refine ⟨by simp,fun c hc=>?_⟩;rcases Tj.1 hc with hc | hc
   ·exact (ih (n / 10) (by omega)).2 c hc
   ·simp only [SY] at hc;subst hc;simp only [UInt8.toNat_ofNat'];omega
theorem B8 {a b:Nat} (ha:a < 256) (hb:b < 256) (h:UInt8.ofNat a=UInt8.ofNat b):a=b:=by
 have:=congrArg UInt8.toNat h
 simp only [UInt8.toNat_ofNat'] at this;omega
theorem CQ:∀ (n m:Nat),Lt.digs n=Lt.digs m->n=m:=by
 intro n;induction n using Nat.strongRecOn with
 | _ n ih=>
  intro m h;by_cases hn:n < 10
  ·by_cases hm:m < 10
   ·rw [cY hn,cY hm] at h;simp only [List.cons.injEq,and_true] at h;have:=B8 (by omega) (by omega) h
    omega
   ·rw [cY hn,iX hm] at h;have h1:=congrArg List.length h
    have h2:=List.length_pos_iff.2 (pY (m / 10)).1
    simp only [Tg,SU,Te] at h1;omega
  ·by_cases hm:m < 10
   ·rw [cY hm,iX hn] at h;have h1:=congrArg List.length h
    have h2:=List.length_pos_iff.2 (pY (n / 10)).1
    simp only [Tg,SU,Te] at h1;omega
   ·rw [iX hn,iX hm] at h;obtain ⟨h1,h2⟩:=List.append_inj' h (by simp);have h3:=ih (n / 10) (by omega) _ h1
    simp only [List.cons.injEq,and_true] at h2;have:=B8 (by omega) (by omega) h2
    omega
theorem DF {n m:Int} (h:Lt.bP n=Lt.bP m):n=m:=by
 unfold Lt.bP at h;have hd:∀ k,∀ r,Lt.digs k≠45::r:=by
  intro k r e;have:=(pY k).2 45 (by rw [e]; simp)
  have h45:(45:UInt8).toNat=45:=by decide
  omega
 by_cases hn:n < 0
 ·by_cases hm:m < 0
  ·simp only [hn,hm,if_true,Tz,TZ,List.cons.injEq,true_and] at h;have:=CQ _ _ h
   omega
  ·simp only [hn,hm,if_true,if_false,Tz,TZ] at h;exact absurd h.symm (hd _ _)
 ·by_cases hm:m < 0
  ·simp only [hn,hm,if_true,if_false,Tz,TZ] at h;exact absurd h (hd _ _)
  ·simp only [hn,hm,if_false,TZ] at h;have:=CQ _ _ h
   omega
theorem KV {α:Type} [Inhabited α] (l:List α) (p:α->Bool) (q:Bool) (KK:Bool->Prop) (body:(Int->Prop)->Int->Prop)
  (hs:∀ R i,i<l.length->(p (l.getD i default)=false->R (IntKind.i64.wrap ((i:Int)+1)))->(p (l.getD i default)=true->KK true)->body R (i:Int))
  (hb:¬ l.length<=LEN->∀ R v,body R v) (he:∀ R,KK q->body R (l.length:Int)) (h:KK (l.any p||q)):ax body 0:=by
 by_cases hl:l.length<=LEN
 ·refine kJ l hl (fun (_:Unit) i=>i) (fun t _=>t.any p||q) KK body (fun R _ i hi ih h=>?_) (fun R _ h=>he R (by simpa using h)) () h;refine hs R i hi (fun hp=>ih () ?_) (fun hp=>?_)
  ·simp only [UP,hp,TW] at h; exact h
  ·simp only [UP,hp,Bool.true_or] at h; exact h
 ·exact ⟨1,hb hl _ _⟩
theorem BT (f:Lt.Func) (s:List UInt8) (KK:Int×Bool->Prop) (h:KK (Lt.aA f s)):qP f s KK:=by
 unfold qP;unfold Lt.aA at h;intro hl;refine aN _ f.Blocks.length (fun i x=>x=(i:Int)/\KK (Lt.cj s (f.Blocks.drop i) (i:Int))) (fun R i x hi hx ih=>?_) (fun R x hx=>?_) 0 ⟨rfl,h⟩
 ·obtain ⟨rfl,h⟩:=hx;have e:f.Blocks.getD i default=f.Blocks[i]:=by rw [List.getD,SK hi]; rfl
  rw [Tr hi,<- e] at h;rw [if_pos (cz hi)];refine ⟨ob hi,?_⟩;simp only [Int.toNat_natCast];unfold Lt.cj at h;refine ifk (fun hp=>?_) (fun hp=>?_)
  ·rw [if_pos (by simpa using hp)] at h; exact h
  ·rw [if_neg (by simpa using hp)] at h;refine ih _ ⟨aw (by omega),?_⟩;simpa using h
 ·obtain ⟨rfl,h⟩:=hx;rw [if_neg (by simp)];rw [T7] at h;exact h
theorem xF {α:Type} [DecidableEq α]:∀ (l k:List α),l.Nodup->(∀ x∈l,x∈k)->l.length<=k.length
 | [],_,_,_=>Tf _
 | x::r,k,h,hs=>by
  have hx:=hs x (by simp)
  have h2:=Ti.1 h
  have ih:=xF r (k.erase x) h2.2 (fun y hy=>(List.mem_erase_of_ne (fun e=>h2.1 (by rw [<- e]; exact hy))).2 (hs y (by simp [hy])))
  rw [List.length_erase_of_mem hx] at ih;have:=List.length_pos_of_mem hx
  simp only [SU];omega
theorem jI (known:List (List UInt8)) (begin:List UInt8):∀ (k n:Nat),n<=Lt.ee known begin k n/\Lt.ee known begin k n<=n+k/\(∀ i,n<=i->i<Lt.ee known begin k n->begin++Lt.bP (i:Int)∈known)/\(Lt.ee known begin k n<n+k->begin++Lt.bP (Lt.ee known begin k n:Int) ∉ known)
 | 0,n=>⟨SN _,SN _,fun i h1 h2=>by have:i<n:=h2; omega,fun h=>by have:n<n+0:=h; omega⟩
 | k+1,n=>by
  unfold Lt.ee;by_cases h:begin++Lt.bP (n:Int)∈known
  ·rw [if_pos h];obtain ⟨h1,h2,h3,h4⟩:=jI known begin k (n+1);refine ⟨by omega,by omega,fun i hi hi2=>?_,fun h=>h4 (by omega)⟩;rcases S0 n i with h' | h'
   ·exact h3 i h' hi2
   ·obtain rfl:i=n:=by omega
    exact h
  ·rw [if_neg h];exact ⟨SN _,by omega,fun i h1 h2=>by omega,fun _=>h⟩
theorem tE (known:List (List UInt8)) (begin:List UInt8):begin++Lt.bP (Lt.ee known begin known.length 0:Int) ∉ known:=by
 obtain ⟨h1,h2,h3,h4⟩:=jI known begin known.length 0;rcases S0 (Lt.ee known begin known.length 0) (0+known.length) with h | h
 ·exact h4 h
 ·intro hin;have e:Lt.ee known begin known.length 0=known.length:=by omega
  rw [e] at h3 hin;have hnd:((List.range (known.length+1)).map fun (i:Nat)=>begin++Lt.bP (i:Int)).Nodup:=by
   rw [Uh,List.pairwise_map];refine (Uh.1 List.nodup_range).imp (fun hne e=>hne ?_);have:=DF (List.append_cancel_left e)
   omega
  have:=xF _ known hnd (fun x hx=>by
   obtain ⟨i,hi,rfl⟩:=S9.1 hx;have hi:=Tm.1 hi
   rcases S0 i known.length with h' | h'
   ·exact h3 i (Tf _) h'
   ·obtain rfl:i=known.length:=by omega
    exact hin)
  simp at this;omega
abbrev Cm (m:List (List UInt8×Bool)) (k:List UInt8):Bool:=(aU (β:=Bool) .s m k).getD (dflt .bo)
theorem GO:∀ (m:List (List UInt8×Bool)) (k0 k:List UInt8),Cm (eh .s m k0 true) k=(decide (k0=k)||Cm m k)
 | [],k0,k=>by
  show ((match decide (k0=k) with | true=>some true | false=>none:Option Bool).getD false)=(decide (k0=k)||false)
  cases decide (k0=k) <;> rfl
 | (a,b)::m,k0,k=>by
  have e1:eh .s ((a,b)::m) k0 true=match decide (a=k0) with | true=>(k0,true)::m | false=>(a,b)::eh .s m k0 true:=rfl
  have e2:∀ (a:List UInt8) (b:Bool) (m:List (List UInt8×Bool)),Cm ((a,b)::m) k=match decide (a=k) with | true=>b | false=>Cm m k:=by
   intro a b m;show (match decide (a=k) with | true=>some b | false=>aU .s m k:Option Bool).getD false=_
   cases decide (a=k) <;> rfl
  rw [e1];by_cases h1:a=k0
  ·subst h1;rw [show decide (a=a)=true by simp];dsimp only;rw [e2,e2];cases decide (a=k) <;> simp
  ·rw [show decide (a=k0)=false by simpa using h1];dsimp only;rw [e2,e2,GO m k0 k];by_cases h2:a=k
   ·subst h2;have:decide (k0=a)=false:=by simpa using fun e=>h1 e.symm
    simp [this]
   ·rw [show decide (a=k)=false by simpa using h2]
def ua (m:List (List UInt8×Bool)) (K:List (List UInt8)):Prop:=∀ k,Cm m k=decide (k∈K)
theorem ua.ins {m:List (List UInt8×Bool)} {K:List (List UInt8)} (h:ua m K) (k0:List UInt8):ua (eh .s m k0 true) (K++[k0]):=by
 intro k;rw [GO,h k,Bool.eq_iff_iff];simp only [T5,decide_eq_true_eq,Tj,SY];constructor
 ·rintro (h | h)
  ·exact .inr h.symm
  ·exact .inl h
 ·rintro (h | h)
  ·exact .inr h
  ·exact .inl h.symm
end Go.Am
end

section
namespace Go.Am
open Go
theorem EW (f:Lt.Func) (s:List UInt8) (KK:Int×Bool->Prop) (h:KK (Lt.iU f s)):uN f s KK:=by
 unfold uN;unfold Lt.iU Lt.aA at h;refine aN _ f.Blocks.length (fun i x=>x=(i:Int)/\KK (Lt.cj s (f.Blocks.drop i) (i:Int))) (fun R i x hi hx ih hl=>?_) (fun R x hx hl=>?_) 0 ⟨rfl,h⟩
 ·obtain ⟨rfl,h⟩:=hx;have e:f.Blocks.getD i default=f.Blocks[i]:=by rw [List.getD,SK hi]; rfl
  rw [Tr hi,<- e] at h;rw [if_pos (cz hi)];refine ⟨ob hi,?_⟩;simp only [Int.toNat_natCast];unfold Lt.cj at h;refine ifk (fun hp=>?_) (fun hp=>?_)
  ·rw [if_pos (by simpa using hp)] at h; exact h
  ·rw [if_neg (by simpa using hp)] at h;refine ih _ ⟨aw (by omega),?_⟩;simpa using h
 ·obtain ⟨rfl,h⟩:=hx;rw [if_neg (by simp)];rw [T7] at h;exact h
theorem obI {i:Int} {n:Nat} (h:0<=i/\i < (n:Int)):(0:Int)<=i/\i.toNat<n:=by omega
theorem DB (f:Lt.Func) (i k:Int) (hp:Lt.qe f i k) (KK:Bool->Prop) (h:KK (Lt.qw f i k)):uf f i k KK:=by
 unfold uf;unfold Lt.qw at h;have hb:=obI hp
 refine KV (Lt.bY f i.toNat) _ false KK _ (fun R j hj ih hk=>?_) (fun hl R v=>⟨hb,fun h0=>absurd h0 hl⟩) (fun R h=>⟨hb,fun _=>?_⟩) (by simpa using h)
 ·refine ⟨hb,fun _=>?_⟩;rw [if_pos (show decide ((j:Int) < ((f.Blocks.getD i.toNat default).End.To.length:Int))=true from cz hj)];refine ⟨hb,ob hj,fun J hJ=>?_⟩;simp only [Int.toNat_natCast];have go:∀ b:Bool,((Lt.aA f ((Lt.bY f i.toNat).getD j default)).2&&decide ((Lt.aA f ((Lt.bY f i.toNat).getD j default)).1=k))=b->J b:=by
   intro b hb2;refine hJ b ?_;dsimp only;cases b with
   | true=>rw [if_pos rfl]; exact hk hb2
   | false=>rw [if_neg (by simp)]; exact ih hb2
  refine ifk (fun h2=>go _ ?_) (fun h2=>go _ ?_)
  ·have h2:(Lt.aA f ((Lt.bY f i.toNat).getD j default)).2=true:=h2
   rw [h2,TH]; rfl
  ·have h2:(Lt.aA f ((Lt.bY f i.toNat).getD j default)).2=false:=by
    cases hc:(Lt.aA f ((Lt.bY f i.toNat).getD j default)).2 with
    | false=>rfl
    | true=>exact absurd hc h2
   rw [h2,Ua]
 ·rw [if_neg (by show ¬ decide (((Lt.bY f i.toNat).length:Int) < ((Lt.bY f i.toNat).length:Int))=true; simp)]; exact h
def jP (l:List Bool):Nat:=(l.filter fun b=>!b).length
theorem pP:∀ (l:List Bool) (k:Nat),l.getD k true=false->jP (l.set k true)+1=jP l
 | [],k,h=>by simp at h
 | b::r,0,h=>by
  have h:b=false:=h
  subst h;simp [jP]
 | b::r,k+1,h=>by
  have:=pP r k (by simpa using h)
  unfold jP at this ⊢;cases b <;> simp_all
def yS (f:Lt.Func) (l:List Bool):Prop:=l.length=f.Blocks.length/\∀ k,l.getD k false=true->Lt.Reach f k
theorem yS.set {f:Lt.Func} {l:List Bool} (h:yS f l) {k:Nat} (hr:k<f.Blocks.length->Lt.Reach f k):yS f (l.set k true):=by
 refine ⟨by rw [S3]; exact h.1,fun j hj=>?_⟩;by_cases e:k=j
 ·subst e;refine hr ?_;rcases S0 k f.Blocks.length with h' | h'
  ·exact h'
  ·have hl:=h.1
   rw [List.getD,SZ (by rw [S3]; omega)] at hj; simp at hj
 ·refine h.2 j ?_;rw [List.getD,SW e] at hj;exact hj
theorem sJ {α:Type} {body:(α->Prop)->α->Prop} (P:α->Prop) (μ:α->Nat) (hs:∀ R x,P x->(∀ y,P y->μ y<μ x->R y)->body R x) (x:α) (h:P x):ax body x:=by
 have key:∀ n x,P x->μ x<n->nk body n x:=by
  intro n;induction n with
  | zero=>intro x _ h; omega
  | succ n ih=>intro x hx hm; exact hs _ x hx (fun y hy hlt=>ih y hy (by omega))
 exact ⟨_,key (μ x+1) x h (by omega)⟩
theorem FX {i:Int} {n:Nat} (h0:0<=i) (h1:i < (n:Int)) (hn:n<=4611686018427387904):IntKind.i64.wrap (i+1)=i+1:=ch (by omega) (by omega)
theorem On (l:List Bool) (k:Nat):jP (l.set k true)<=jP l:=by
 cases h:l.getD k true with
 | false=>have:=pP l k h; omega
 | true=>
  have e:l.set k true=l:=by
   rcases S0 k l.length with h' | h'
   ·refine Tw fun j=>?_
    rw [Tp];split
    ·rename_i e; subst e;rw [List.getD,SK h'] at h;rw [SK h'];simpa using h.symm
    ·rfl
   ·exact List.set_eq_of_length_le h'
  rw [e]; exact SN _
theorem Jp (f:Lt.Func) (hp:Lt.uY f) (KK:List Bool->Prop) (h:∀ y,Lt.qv f y->KK y):zN f KK:=by
 unfold zN;unfold Lt.uY at hp;dsimp only;have hn:((f.Blocks.length:Int)).toNat=f.Blocks.length:=Int.toNat_natCast _
 intro _;refine ⟨⟨by omega,by omega,by omega⟩,fun _=>?_⟩;have h00:yS f (List.replicate (f.Blocks.length:Int).toNat (dflt .bo)):=by
  refine ⟨by simp,fun k hk=>?_⟩;rw [List.getD,Uv] at hk;split at hk
  ·exact absurd hk (by show ¬ (default:Bool)=true; decide)
  ·simp at hk
 refine sJ (fun x=>yS f x.1/\(x.2=true->0<f.Blocks.length)) (fun x=>2*jP x.1+x.2.toNat) (fun R x ⟨hx,hx2⟩ ih=>?_) _ ⟨h00,fun hb=>by simpa using hb⟩
 ·obtain ⟨l,b⟩:=x;dsimp only at hx hx2 ih ⊢;refine ifk (fun hb=>?_) (fun _=>h l hx);subst hb;have hpos:=hx2 rfl
  have hl:=hx.1
  refine ⟨⟨by omega,by omega⟩,by omega,?_⟩;have hx0:yS f (l.set 0 true):=hx.set (fun _=>.first hpos)
  have hc0:=On l 0
  refine sJ (fun v=>yS f v.1/\jP v.1+v.2.1.toNat<=jP (l.set 0 true)/\0<=v.2.2/\v.2.2<=(f.Blocks.length:Int)) (fun v=>((f.Blocks.length:Int)-v.2.2).toNat) (fun R3 v ⟨h1,h2,h3,h4⟩ ih3=>?_) _ ⟨hx0,by simp,by simp,by simp⟩;obtain ⟨l3,m3,i⟩:=v;dsimp only at h1 h2 h3 h4 ih3 ⊢;intro _;have hl3:=h1.1
  rw [hl3];refine ifk (fun hi=>?_) (fun _=>ih _ ⟨h1,fun _=>hpos⟩ ?_)
  ·have hi:i < (f.Blocks.length:Int):=by simpa using hi
   refine sJ (fun v=>yS f v.1/\jP v.1+v.2.1.toNat<=jP (l.set 0 true)/\0<=v.2.2/\v.2.2<=(f.Blocks.length:Int)) (fun v=>((f.Blocks.length:Int)-v.2.2).toNat) (fun R5 v ⟨g1,g2,g3,g4⟩ ih5=>?_) _ ⟨h1,h2,by simp,by simp⟩;obtain ⟨l5,m5,k⟩:=v;dsimp only at g1 g2 g3 g4 ih5 ⊢;have hl5:=g1.1
   have leave:R3 (l5,m5,IntKind.i64.wrap (i+1)):=by
    rw [FX h3 hi (by omega)];exact ih3 _ ⟨g1,g2,by dsimp only; omega,by dsimp only; omega⟩ (by dsimp only; omega)
   intro J7 hJ7;rw [hl5];intro _;refine ifk (fun hk=>⟨⟨h3,hi⟩,hJ7 _ ?_⟩) (fun _=>hJ7 _ (by simpa using leave));have hk:k < (f.Blocks.length:Int):=by simpa using hk
   dsimp only;refine ifk (fun hm=>?_) (fun _=>leave);have hri:Lt.Reach f i.toNat:=g1.2 _ hm
   have on:∀ l6 m6,yS f l6->jP l6+m6.toNat<=jP (l.set 0 true)->R5 (l6,m6,IntKind.i64.wrap (k+1)):=by
    intro l6 m6 k1 k2;rw [FX g3 hk (by omega)];exact ih5 _ ⟨k1,k2,by dsimp only; omega,by dsimp only; omega⟩ (by dsimp only; omega)
   intro J9 hJ9 J11 hJ11;refine ⟨⟨g3,by omega⟩,?_⟩;refine ifk (fun hu=>⟨⟨h3,hi⟩,hJ11 _ ?_⟩) (fun _=>hJ11 _ ?_)
   ·dsimp only;refine ifk (fun hlead=>?_) (fun _=>hJ9 _ (on _ _ g1 g2));refine ⟨⟨g3,by omega⟩,by omega,hJ9 _ (on _ _ (g1.set (fun hlt=>?_)) ?_)⟩
    ·refine .next i.toNat k.toNat hri hlt ?_;rw [Int.toNat_of_nonneg h3,Int.toNat_of_nonneg g3]; exact hlead
    ·have hu2:l5.getD k.toNat true=false:=by
      have hlt:k.toNat<l5.length:=by omega
      rw [List.getD,SK hlt] at hu ⊢;simpa using hu
     have:=pP l5 k.toNat hu2
     simp only [Bool.toNat_true];omega
   ·dsimp only;rw [if_neg (by simp)];exact hJ9 _ (on _ _ g1 g2)
  ·cases m3 with
   | true=>simp only [Bool.toNat_true] at h2 ⊢; omega
   | false=>simp only [Bool.toNat_true,Bool.toNat_false] at h2 ⊢; omega
theorem Fz (f:Lt.Func) (hp:Lt.uY f) (KK:Bool->Prop) (h:∀ y,Lt.nL f y->KK y):tY f KK:=by
 unfold tY;have kF:KK false:=h false (fun e=>by cases e)
 have hn:f.Blocks.length<=1000000:=hp
 refine aN _ f.Blocks.length (fun i x=>x=(i:Int)/\∀ j,j<i->Lt.PE f j) (fun R i x hi ⟨hx,hok⟩ ih=>?_) (fun R x ⟨hx,hok⟩=>?_) 0 ⟨rfl,fun j hj=>by omega⟩
 ·subst hx;dsimp only;intro _;rw [if_pos (cz hi)];refine ⟨ob hi,?_⟩;simp only [Int.toNat_natCast];refine ifk (fun _=>kF) (fun h1=>⟨⟨SR i,hi⟩,?_⟩);have h1:(Lt.aA f (f.Blocks.getD i default).Name).1=(i:Int):=by
   have:decide ((Lt.iU f (f.Blocks.getD i default).Name).1=(i:Int))=true:=by simpa using h1
   exact of_decide_eq_true this
  refine aN _ (Lt.bY f i).length (fun k x=>x=(k:Int)/\∀ k',k'<k->(Lt.aA f ((Lt.bY f i).getD k' default)).2=true/\(Lt.aA f ((Lt.bY f i).getD k' default)).1≠0/\∀ j,j<k'->(Lt.bY f i).getD j default≠(Lt.bY f i).getD k' default) (fun R3 k x hk ⟨hx,hok2⟩ ih3=>?_) (fun R3 x ⟨hx,hok2⟩=>?_) 0 ⟨rfl,fun j hj=>by omega⟩
  ·subst hx;intro hlen;rw [if_pos (cz hk)];refine ⟨ob hk,fun J hJ=>?_⟩;simp only [Int.toNat_natCast];refine ifk (fun _=>hJ true (by dsimp only; rw [if_pos rfl]; exact kF)) (fun h2=>hJ _ ?_);have h2:(Lt.aA f ((Lt.bY f i).getD k default)).2=true:=by
    have:(Lt.iU f ((f.Blocks.getD i default).End.To.getD k default)).2=true:=by simpa using h2
    exact this
   dsimp only;refine ifk (fun _=>kF) (fun h3=>?_);have h3:(Lt.aA f ((Lt.bY f i).getD k default)).1≠0:=by
    have:¬ (Lt.iU f ((f.Blocks.getD i default).End.To.getD k default)).1=0:=by simpa using h3
    exact this
   refine aN _ k (fun j x=>x=(j:Int)/\∀ j',j'<j->(Lt.bY f i).getD j' default≠(Lt.bY f i).getD k default) (fun R7 j x hj ⟨hx,hok3⟩ ih7=>?_) (fun R7 x ⟨hx,hok3⟩=>?_) 0 ⟨rfl,fun j hj=>by omega⟩
   ·subst hx;rw [if_pos (cz hj)];refine ⟨ob (n:=(Lt.bY f i).length) (by omega),ob hk,?_⟩;simp only [Int.toNat_natCast];refine ifk (fun _=>kF) (fun h4=>ih7 _ ⟨aw (by have:(Lt.bY f i).length<=4611686018427387904:=hlen; omega),fun j' hj'=>?_⟩);rcases S0 j' j with h' | h'
    ·exact hok3 j' h'
    ·obtain rfl:j'=j:=by omega
     have:¬ (f.Blocks.getD i default).End.To.getD j' default=(f.Blocks.getD i default).End.To.getD k default:=by simpa using h4
     exact this
   ·subst hx;rw [if_neg (by simp)];refine ih3 _ ⟨aw (by have:(Lt.bY f i).length<=4611686018427387904:=hlen; omega),fun k' hk'=>?_⟩;rcases S0 k' k with h' | h'
    ·exact hok2 k' h'
    ·obtain rfl:k'=k:=by omega
     exact ⟨h2,h3,hok3⟩
  ·subst hx;intro _;rw [if_neg (by simp [Lt.bY])];refine ih _ ⟨aw (by omega),fun j hj=>?_⟩;rcases S0 j i with h' | h'
   ·exact hok j h'
   ·obtain rfl:j=i:=by omega
    exact ⟨h1,hok2⟩
 ·subst hx;dsimp only;intro _;rw [if_neg (by simp)];refine ⟨hp,fun l ⟨hl,hre⟩=>?_⟩;refine aN _ l.length (fun k x=>x=(k:Int)/\∀ k',k'<k->Lt.Reach f k') (fun R k x hk ⟨hx,hok2⟩ ih=>?_) (fun R x ⟨hx,hok2⟩=>?_) 0 ⟨rfl,fun j hj=>by omega⟩
  ·subst hx;intro _;rw [if_pos (cz hk)];refine ⟨ob hk,?_⟩;simp only [Int.toNat_natCast];refine ifk (fun _=>kF) (fun h1=>ih _ ⟨aw (by omega),fun k' hk'=>?_⟩);rcases S0 k' k with h' | h'
   ·exact hok2 k' h'
   ·obtain rfl:k'=k:=by omega
    exact hre _ (by simpa using h1)
  ·subst hx;intro _;rw [if_neg (by simp)];intro _;refine h _ (fun hy=>⟨hok,fun k hk=>hok2 k (by omega),?_⟩);have:(0:Int) < (l.length:Int):=of_decide_eq_true hy
   omega
theorem I1 (f:Lt.Func) (hp:Lt.tS f) (KK:Bool->Prop) (h:∀ y,Lt.qu f y->KK y):zW f KK:=by
 unfold zW;have kF:KK false:=h false (fun e=>by cases e)
 intro J hJ;have jF:J false:=hJ _ kF
 refine ⟨hp,ifk (fun h1=>ifk (fun h2=>ifk (fun h3=>ifk (fun h4=>?_) (fun _=>jF)) (fun _=>jF)) (fun _=>jF)) (fun _=>jF)⟩;have h3:(f.Blocks.length:Int)<=40:=of_decide_eq_true h3
 exact ⟨by show f.Blocks.length<=1000000; omega,fun y hy=>hJ _ (h _ fun e=>⟨of_decide_eq_true h1,h2,by omega,of_decide_eq_true h4,hy e⟩)⟩
theorem IB (l:List Int) (v:Int) (KK:Int->Prop) (h:KK (Lt.xG l v)):yW l v KK:=by
 unfold yW;unfold Lt.xG at h;intro hl;refine aN _ l.length (fun i x=>x=(i:Int)/\KK (Lt.D3 v (l.drop i) (i:Int))) (fun R i x hi hx ih=>?_) (fun R x hx=>?_) 0 ⟨rfl,h⟩
 ·obtain ⟨rfl,h⟩:=hx;have e:l.getD i default=l[i]:=by rw [List.getD,SK hi]; rfl
  rw [Tr hi,<- e] at h;rw [if_pos (cz hi)];refine ⟨ob hi,?_⟩;simp only [Int.toNat_natCast];unfold Lt.D3 at h;refine ifk (fun hp=>?_) (fun hp=>?_)
  ·rw [if_pos (by simpa using hp)] at h; exact h
  ·rw [if_neg (by simpa using hp)] at h;refine ih _ ⟨aw (by omega),?_⟩;simpa using h
 ·obtain ⟨rfl,h⟩:=hx;rw [if_neg (by simp)];rw [T7] at h;exact h
theorem DH (l:List Int) (v:Int) (KK:Bool->Prop) (h:KK (Lt.uj l v)):Cn l v KK:=h
theorem BV (v:Int):∀ (l:List Int) (i:Int),0<=i->(0<=Lt.D3 v l i ↔ v∈l)
 | [],i,h=>by simp [Lt.D3]
 | x::r,i,h=>by
  unfold Lt.D3;by_cases e:v=x
  ·rw [if_pos e]; simp [e,h]
  ·rw [if_neg e,BV v r (i+1) (by omega)]; simp [e]
theorem E3 (l:List Int) (v:Int):Lt.uj l v=decide (v∈l):=by
 unfold Lt.uj Lt.xG;rw [Bool.eq_iff_iff];simp [BV v l 0 (by omega)]
end Go.Am
end

section
namespace Go.Am
open Go
theorem zT {α:Type} (a:List α) (x:α) (b:List α) (d:α) {i:Nat} (h:a.length=i):(a++x::b).getD i d=x:=by
 subst h; simp [List.getD]
theorem zu {α:Type} (a:List α) (x y:α) (b:List α) {i:Nat} (h:a.length=i):(a++x::b).set i y=a++y::b:=by
 subst h; simp
theorem MV (f:Lt.Func) (KK:Bool->Prop) (h:KK (Lt.JC f)):EK f KK:=by
 unfold EK;unfold Lt.JC at h;intro hlen;refine ifk (fun h1=>?_) (fun h1=>?_)
 ·have h1:(60:Int) < (f.Blocks.length:Int):=of_decide_eq_true h1
  rw [show decide ((f.Blocks.length:Int)<=60)=false from decide_eq_false (by omega),Ua] at h;exact h
 ·have h1:(f.Blocks.length:Int)<=60:=by simpa using h1
  rw [decide_eq_true h1,TH] at h;refine KJ f.Blocks hlen _ true KK _ (fun R i hi ih hF _=>?_) (fun R hk _=>?_) (by rw [Um]; exact h)
  ·rw [if_pos (cz hi)];intro J hJ;refine ⟨ob hi,fun _=>?_⟩;dsimp +instances only [Int.toNat_natCast]
   generalize hb:f.Blocks.getD i default=b at ih hF;refine ifk (fun h2=>hJ true ?_) (fun h2=>?_)
   ·dsimp only;rw [if_pos rfl];refine hF ?_;have h2:(8:Int) < (b.End.To.length:Int):=of_decide_eq_true h2
    rw [show decide ((b.End.To.length:Int)<=8)=false from decide_eq_false (by omega),Ua]
   ·have h2:(b.End.To.length:Int)<=8:=by simpa using h2
    rw [decide_eq_true h2,TH] at ih hF;refine ⟨⟨SR i,hi⟩,hJ _ ?_⟩;dsimp only;refine ifk (fun h3=>hF ?_) (fun h3=>?_)
    ·have h3:(40:Int) < (b.Phis.length:Int):=of_decide_eq_true h3
     rw [show decide ((b.Phis.length:Int)<=40)=false from decide_eq_false (by omega),Ua]
    ·have h3:(b.Phis.length:Int)<=40:=by simpa using h3
     rw [decide_eq_true h3,TH] at ih hF;have hlp:b.Phis.length<=LEN:=by unfold LEN; omega
     refine kJ b.Phis hlp (fun (_:Unit) i=>i) (fun t _=>t.all fun p=>decide ((p.Ins.length:Int)<=60)) (fun z=>(z=true->R (IntKind.i64.wrap ((i:Int)+1)))/\(z=false->KK false)) _ (fun R2 _ j hj ih2 h=>?_) (fun R2 _ h=>?_) () ⟨ih,hF⟩
     ·refine ⟨⟨SR i,hi⟩,fun _=>?_⟩;dsimp +instances only [Int.toNat_natCast]
      rw [hb,if_pos (cz hj)];refine ⟨⟨SR i,hi⟩,ob hj,fun _=>?_⟩;simp only [S6] at h;refine ifk (fun h4=>h.2 ?_) (fun h4=>ih2 () ?_)
      ·have h4:(60:Int) < ((b.Phis.getD j default).Ins.length:Int):=of_decide_eq_true h4
       rw [show decide (((b.Phis.getD j default).Ins.length:Int)<=60)=false from decide_eq_false (by omega),Ua]
      ·have h4:((b.Phis.getD j default).Ins.length:Int)<=60:=by simpa using h4
       rw [decide_eq_true h4] at h;simpa only [TH] using h
     ·refine ⟨⟨SR i,hi⟩,fun _=>?_⟩;dsimp +instances only [Int.toNat_natCast]
      rw [hb,if_neg (by simp)];exact h.1 rfl
  ·rw [if_neg (by simp)]; exact hk
theorem Kj (f:Lt.Func) (hp:Lt.CF f) (KK:List (List Int)->Prop) (h:KK (Lt.fY f)):Ff f KK:=by
 unfold Ff;obtain ⟨hn,hT⟩:=hp;have hln:(Lt.fY f).length=f.Blocks.length:=by simp [Lt.fY]
 dsimp only;intro _;refine ⟨⟨by omega,by omega,by omega⟩,fun _=>?_⟩;refine j9 f.Blocks.length (by unfold LEN; omega) (fun i=>(Lt.fY f).take i++List.replicate (f.Blocks.length-i) []) _ (fun R i hi hR=>?_) (fun R=>?_) (by rw [show (f.Blocks.length:Int).toNat=f.Blocks.length from Int.toNat_natCast _]; simp [dflt])
 ·dsimp only;rw [if_pos (cz hi)];refine ⟨ob hi,fun _=>?_⟩;dsimp +instances only [Int.toNat_natCast]
  have hb:(f.Blocks.getD i default).End.To.length<=1000000:=hT _ (bQ _ hi)
  generalize hTo:(f.Blocks.getD i default).End.To=to at hb;have hrow:(Lt.fY f).getD i []=to.filterMap (Lt.gU f):=by
   unfold Lt.fY;rw [List.getD,SM,SK hi,<- hTo,List.getD,SK hi]; rfl
  have hla:((Lt.fY f).take i).length=i:=by rw [TF]; omega
  refine j9 to.length (by unfold LEN; omega) (fun k=>(Lt.fY f).take i++(to.take k).filterMap (Lt.gU f)::List.replicate (f.Blocks.length-i - 1) []) _ (fun R3 k hk hR3=>?_) (fun R3=>?_) ?_
  ·dsimp only;rw [if_pos (cz hk)];intro J hJ;refine ⟨ob hk,?_⟩;dsimp +instances only [Int.toNat_natCast]
   have e:to.take (k+1)=to.take k++[to.getD k default]:=bL to hk
   have hlen:((Lt.fY f).take i++(to.take k).filterMap (Lt.gU f)::List.replicate (f.Blocks.length-i - 1) []).length=f.Blocks.length:=by
    simp only [Tg,SU,T3,hla]; omega
   rw [zT _ _ _ _ hla,zu _ _ _ _ hla,hlen];have hfm:((to.take k).filterMap (Lt.gU f)).length<=1000000:=Th (Uq _ _) (by rw [TF]; omega)
   rw [e,List.filterMap_append] at hR3;refine ifk (fun h2=>⟨⟨by omega,by omega⟩,⟨by simp only [SU,Te]; omega,by simp only [SU,Te]; omega⟩,⟨by omega,by omega⟩,hi,(by trivial),hJ _ ?_⟩) (fun h2=>hJ _ ?_)
   ·have e2:[to.getD k default].filterMap (Lt.gU f)=[(Lt.aA f (to.getD k default)).1]:=by
     simp only [Ue,List.filterMap_nil,Lt.gU]; rw [if_pos h2]
    rw [e2] at hR3; exact hR3
   ·have e2:[to.getD k default].filterMap (Lt.gU f)=[]:=by
     simp only [Ue,List.filterMap_nil,Lt.gU]; rw [if_neg h2]
    rw [e2,TV] at hR3; exact hR3
  ·dsimp only;rw [if_neg (by simp),TI,<- hrow];have e3:(Lt.fY f).take (i+1)=(Lt.fY f).take i++[(Lt.fY f).getD i []]:=bL (Lt.fY f) (by omega)
   rw [e3,TL,TY,show f.Blocks.length - (i+1)=f.Blocks.length-i - 1 by omega] at hR;exact hR
  ·rw [show f.Blocks.length-i=(f.Blocks.length-i - 1)+1 by omega,TX]; rfl
 ·dsimp only;rw [if_neg (by simp),<- hln,TI,Nat.sub_self];simpa using h
theorem na {α:Type} (P:Nat->α) (n k:Nat) (d:α) (hk:k<n):((List.range n).map P).getD k d=P k:=by
 rw [List.getD,SM,Us hk]; rfl
theorem wr {α:Type} (P Q:Nat->α) (n k:Nat) (y:α) (h1:Q k=y) (h2:∀ j,j≠k->Q j=P j):((List.range n).map P).set k y=(List.range n).map Q:=by
 refine Tw fun j=>?_
 rw [Tp];by_cases e:k=j
 ·subst e;rw [if_pos rfl];simp only [List.length_map,List.length_range,SM];split
  ·rename_i hk; rw [Us hk]; simp [h1]
  ·rename_i hk; rw [SZ (by simp; omega)]; rfl
 ·rw [if_neg e,SM,SM];cases hr:(List.range n)[j]? with
  | none=>rfl
  | some z=>
   obtain ⟨hj,rfl⟩:=Tl.1 hr;simp [h2 j (fun e2=>e e2.symm)]
def cn (g:List (List Int)) (i j k:Nat):List Int:=(((List.range i).filter fun i=>decide ((k:Int)∈g.getD i [])).map fun (i:Nat)=>(i:Int))++if (k:Int)∈(g.getD i []).take j then [(i:Int)] else []
theorem DQ (g:List (List Int)) (i j k:Nat) (hj:(g.getD i []).length<=j):cn g i j k=cn g (i+1) 0 k:=by
 unfold cn;rw [Ui,List.filter_append,TP,Ub hj];simp only [List.take_zero,List.not_mem_nil,if_false,TV]
 congr 1
 by_cases h:(k:Int)∈g.getD i []
 ·rw [if_pos h,List.filter_cons_of_pos (by simpa using h)]; rfl
 ·rw [if_neg h,Uw (by simpa using h)]; rfl
theorem Fi (g:List (List Int)) (i j k:Nat):(cn g i j k).length<=i+1:=by
 unfold cn;have h:=List.length_filter_le (fun i=>decide ((k:Int)∈g.getD i [])) (List.range i)
 rw [List.length_range] at h;simp only [Tg,List.length_map];split <;> simp only [SU,Te] <;> omega
theorem s5 (g:List (List Int)) (i j k:Nat):(i:Int)∈cn g i j k ↔ (k:Int)∈(g.getD i []).take j:=by
 unfold cn;rw [Tj];constructor
 ·rintro (h | h)
  ·obtain ⟨x,hx,e⟩:=S9.1 h;have:=Tm.1 (Uj.1 hx).1
   omega
  ·split at h
   ·assumption
   ·simp at h
 ·intro h;right
  rw [if_pos h]; simp
theorem C0 (g:List (List Int)) (hp:Lt.uI g) (KK:List (List Int)->Prop) (h:KK (Lt.eJ g)):qm g KK:=by
 unfold qm;obtain ⟨hn,hT⟩:=hp;intro _;refine ⟨⟨by omega,by omega,by omega⟩,fun _=>?_⟩;refine j9 g.length (by unfold LEN; omega) (fun i=>(List.range g.length).map (cn g i 0)) _ (fun R i hi hR=>?_) (fun R=>?_) ?_
 ·dsimp only;rw [if_pos (cz hi)];refine ⟨ob hi,fun _=>?_⟩;dsimp +instances only [Int.toNat_natCast]
  have hb:(g.getD i []).length<=1000000:=hT _ (bQ _ hi)
  generalize hrow:g.getD i []=row at hb;refine j9 row.length (by unfold LEN; omega) (fun j=>(List.range g.length).map (cn g i j)) _ (fun R3 j hj hR3=>?_) (fun R3=>?_) rfl
  ·dsimp only;rw [if_pos (cz hj)];intro J hJ;refine ⟨ob hj,?_⟩;dsimp +instances only [Int.toNat_natCast]; simp only [List.length_map,List.length_range]
   have e:row.take (j+1)=row.take j++[row.getD j default]:=bL row hj
   generalize hc:row.getD j default=c at e;have hmem:∀ k:Nat,(k:Int)∈row.take (j+1) ↔ ((k:Int)∈row.take j\/(k:Int)=c):=by
    intro k; rw [e,Tj,SY]
   have same:(¬ (0<=c/\c < (g.length:Int))\/c∈row.take j)->R3 ((List.range g.length).map (cn g i j),IntKind.i64.wrap ((j:Int)+1)):=by
    intro hs;have:(List.range g.length).map (cn g i (j+1))=(List.range g.length).map (cn g i j):=by
     refine S1 fun k hk=>?_
     have hk:=Tm.1 hk
     unfold cn;rw [hrow]
     congr 1
     have:((k:Int)∈row.take (j+1)) ↔ (k:Int)∈row.take j:=by
      rw [hmem];constructor
      ·rintro (h | h)
       ·exact h
       ·rcases hs with hs | hs
        ·omega
        ·rw [h]; exact hs
      ·exact .inl
     simp only [this]
    rw [this] at hR3; exact hR3
   intro J2 hJ2;have no:(¬ (0<=c/\c < (g.length:Int))\/c∈row.take j)->J2 false:=fun hs=>hJ2 _ (by dsimp only; rw [if_neg (by simp)]; exact hJ _ (same hs))
   refine ifk (fun h1=>ifk (fun h2=>?_) (fun h2=>no (.inl (by have:=of_decide_eq_true h1; simp at h2; omega)))) (fun h1=>no (.inl (by simp at h1; omega)));have h1:0<=c:=of_decide_eq_true h1
   have h2:c < (g.length:Int):=of_decide_eq_true h2
   refine ⟨⟨h1,h2⟩,trivial,?_⟩;have hcn:c.toNat<g.length:=by omega
   have hcc:((c.toNat:Nat):Int)=c:=Int.toNat_of_nonneg h1
   rw [na _ _ _ _ hcn,E3];by_cases hin:c∈row.take j
   ·rw [decide_eq_true ((s5 g i j c.toNat).2 (by rw [hrow,hcc]; exact hin))];exact no (.inr hin)
   ·have hin2:(i:Int) ∉ cn g i j c.toNat:=fun h=>hin (by have:=(s5 g i j c.toNat).1 h; rwa [hrow,hcc] at this)
    rw [decide_eq_false hin2];refine hJ2 _ ?_;dsimp only;rw [if_pos (by simp),na _ _ _ _ hcn];have hlen:=Fi g i j c.toNat
    refine ⟨⟨h1,h2⟩,⟨by simp only [SU,Te]; omega,by simp only [SU,Te]; omega⟩,⟨h1,h2⟩,hcn,(by trivial),hJ _ ?_⟩;rw [wr _ (cn g i (j+1)) _ _ _ ?_ ?_]
    ·exact hR3
    ·unfold cn;rw [hrow,if_pos ((hmem _).2 (.inr hcc)),hcc,if_neg hin,TV]
    ·intro k hk;unfold cn;rw [hrow]
     congr 1
     have:((k:Int)∈row.take (j+1)) ↔ (k:Int)∈row.take j:=by
      rw [hmem];constructor
      ·rintro (h | h)
       ·exact h
       ·omega
      ·exact .inl
     simp only [this]
  ·dsimp only;rw [if_neg (by simp)];have:(List.range g.length).map (cn g (i+1) 0)=(List.range g.length).map (cn g i row.length):=S1 fun k _=>(DQ g i row.length k (by rw [hrow]; exact SN _)).symm
   rw [this] at hR; exact hR
 ·dsimp only;rw [if_neg (by simp)];have:(List.range g.length).map (cn g g.length 0)=Lt.eJ g:=by
   unfold Lt.eJ;refine S1 fun k _=>?_
   unfold cn Lt.zk;simp
  rw [this]; exact h
 ·refine Tw fun k=>?_
  rw [SM,show (g.length:Int).toNat=g.length from Int.toNat_natCast _,Uv];split
  ·rename_i hk; rw [Us hk]; simp [cn,dflt]
  ·rename_i hk; rw [SZ (by simp; omega)]; rfl
theorem C6 (g:List (List Int)):(Lt.eJ g).length=g.length:=by simp [Lt.eJ]
theorem tK (s:List UInt8):∀ (l:List Lt.Block) (i:Int),(Lt.cj s l i).2=true->i<=(Lt.cj s l i).1/\(Lt.cj s l i).1<i+(l.length:Int)
 | [],i,h=>by simp [Lt.cj] at h
 | b::r,i,h=>by
  unfold Lt.cj at h ⊢;split
  ·simp only [SU]; omega
  ·rename_i hne;rw [if_neg hne] at h;have:=tK s r (i+1) h
   simp only [SU]; omega
theorem tQ {f:Lt.Func} {s:List UInt8} (h:(Lt.aA f s).2=true):0<=(Lt.aA f s).1/\(Lt.aA f s).1 < (f.Blocks.length:Int):=by
 have:=tK s f.Blocks 0 h
 unfold Lt.aA; omega
theorem n3 (f:Lt.Func) (i:Nat):(Lt.dp f i).length<=(Lt.bY f i).length:=by
 unfold Lt.dp;split
 ·simp
 ·refine Th (Uq _ _) (by simp)
theorem gL {α β:Type} (g:α->List β) (m:Nat):∀ l:List α,(∀ x∈l,(g x).length<=m)->(l.flatMap g).length<=l.length*m
 | [],_=>by simp
 | x::r,h=>by
  have h1:=h x (by simp)
  have h2:=gL g m r (fun y hy=>h y (by simp [hy]))
  simp only [Ty,Tg,SU,TO];omega
theorem Et (f:Lt.Func) (hp:Lt.mB f) (KK:List Lt.way->Prop) (h:KK (Lt.aq f)):uW f KK:=by
 unfold uW;obtain ⟨hn,hT⟩:=id hp;have hln:(Lt.fY f).length=f.Blocks.length:=by simp [Lt.fY]
 refine ⟨hp,⟨by omega,fun l hl=>?_⟩,fun _=>?_⟩
 ·obtain ⟨b,hb,rfl⟩:=S9.1 hl;exact Th (Uq _ _) (hT b hb)
 have hto:∀ i,(Lt.bY f i).length<=1000000:=by
  intro i;rcases S0 i f.Blocks.length with h | h
  ·exact hT _ (bQ _ h)
  ·unfold Lt.bY; rw [List.getD,SZ h]; show ([]:List (List UInt8)).length<=_; simp
 refine j9 f.Blocks.length (by unfold LEN; omega) (fun i=>(List.range i).flatMap (Lt.dp f)) _ (fun R i hi hR=>?_) (fun R=>?_) rfl
 ·dsimp only;rw [if_pos (cz hi)];intro J hJ;refine ⟨ob hi,fun _=>?_⟩;dsimp +instances only [Int.toNat_natCast]
  have hpre:((List.range i).flatMap (Lt.dp f)).length<=1000000*1000000:=by
   refine Th (gL _ 1000000 _ (fun x _=>Th (n3 f x) (hto x))) ?_;rw [List.length_range];exact TA _ (by omega)
  rw [Ui,List.flatMap_append] at hR;simp only [Ty,List.flatMap_nil,TV] at hR;have h4:=hto i
  generalize hpr:(List.range i).flatMap (Lt.dp f)=pre at hpre hR;refine ifk (fun h2=>hJ _ ?_) (fun h2 _=>?_)
  ·have h2:((Lt.bY f i).length:Int) < 2:=of_decide_eq_true h2
   rw [show Lt.dp f i=[] by unfold Lt.dp; rw [if_pos (by omega)],TV] at hR;exact hR
  ·have h2:¬ ((Lt.bY f i).length:Int) < 2:=fun hh=>h2 (decide_eq_true hh)
   have e:Lt.dp f i=(List.range (Lt.bY f i).length).filterMap (Lt.gC f i):=by unfold Lt.dp; rw [if_neg (by omega)]
   refine j9 (Lt.bY f i).length (by unfold LEN; omega) (fun k=>pre++(List.range k).filterMap (Lt.gC f i)) _ (fun R5 k hk hR5=>?_) (fun R5=>?_) (by simp)
   ·dsimp only;rw [if_pos (cz hk)];intro J7 hJ7;refine ⟨ob hk,?_⟩;dsimp +instances only [Int.toNat_natCast]
    rw [Ui,List.filterMap_append,<- TL] at hR5;have hlen:((List.range k).filterMap (Lt.gC f i)).length<=1000000:=Th (Uq _ _) (by rw [List.length_range]; omega)
    have go:∀ c:Bool,(c=true ↔ (Lt.aA f ((Lt.bY f i).getD k default)).2=true/\1 < ((Lt.eJ (Lt.fY f)).getD (Lt.aA f ((Lt.bY f i).getD k default)).1.toNat []).length) ->
      (if c=true then ((pre++(List.range k).filterMap (Lt.gC f i)).length+([(Lt.way.mk i k (Lt.aA f ((Lt.bY f i).getD k default)).1)]:List Lt.way).length<=4611686018427387904/\((pre++(List.range k).filterMap (Lt.gC f i)).length+([(Lt.way.mk i k (Lt.aA f ((Lt.bY f i).getD k default)).1)]:List Lt.way).length)*24<=140737488355328)/\J7 (pre++(List.range k).filterMap (Lt.gC f i)++[(Lt.way.mk i k (Lt.aA f ((Lt.bY f i).getD k default)).1)]) else J7 (pre++(List.range k).filterMap (Lt.gC f i))):=by
     intro c hc;refine ifk (fun hc2=>⟨?_,hJ7 _ ?_⟩) (fun hc2=>hJ7 _ ?_)
     ·simp only [Tg,SU,Te]; omega
     ·have:[k].filterMap (Lt.gC f i)=[Lt.way.mk i k (Lt.aA f ((Lt.bY f i).getD k default)).1]:=by
       simp only [Ue,List.filterMap_nil,Lt.gC]; rw [if_pos (hc.1 hc2)]
      rw [this] at hR5; exact hR5
     ·have:[k].filterMap (Lt.gC f i)=[]:=by
       simp only [Ue,List.filterMap_nil,Lt.gC]; rw [if_neg (fun h=>hc2 (hc.2 h))]
      rw [this,TV] at hR5; exact hR5
    intro J9 hJ9;refine ifk (fun h5=>?_) (fun h5=>hJ9 _ (go false ?_))
    ·have hlt:=tQ h5
     refine ⟨⟨hlt.1,by rw [C6,hln]; omega⟩,hJ9 _ (go _ ?_)⟩;have key:∀ n:Nat,decide ((1:Int) < (n:Int))=true ↔ 1<n:=fun n=>by rw [decide_eq_true_iff]; omega
     exact ⟨fun h6=>⟨h5,(key _).1 h6⟩,fun h6=>(key _).2 h6.2⟩
    ·constructor
     ·intro h6; cases h6
     ·intro h6; exact absurd h6.1 h5
   ·dsimp only;rw [if_neg (by simp [Lt.bY]),<- e];exact hJ _ hR
 ·dsimp only;rw [if_neg (by simp)];exact h
end Go.Am
end

section
namespace Go.Am
open Go
theorem dl {α:Type} (l:List α) {t:Nat} (h:t<l.length) (x d:α):(l.set t x).getD t d=x:=by
 rw [List.getD,S8 (by simpa using h)]; rfl
theorem JY {α:Type} [Inhabited α] (l:List α) {t:Nat} (h:t<l.length):l.set t (l.getD t default)=l:=by
 refine Tw fun j=>?_
 rw [Tp];split
 ·rename_i e; subst e;rw [List.getD,SK h]; simp [h]
 ·rfl
theorem qi {α:Type} [Inhabited α] (l:List α) {i:Nat} (h:i<l.length):l.drop i=l.getD i default::l.drop (i+1):=by
 rw [Tr h,List.getD,SK h]; rfl
abbrev stF (f:Lt.Func) (B:List Lt.Block) (t:Nat) (Q:List Lt.Phi):Lt.Func:=⟨f.Name,f.Result,f.Params,f.Vars,B.set t ⟨(B.getD t default).Name,Q,(B.getD t default).Code,(B.getD t default).End⟩⟩
theorem rJ (B:List Lt.Block) (w:Lt.way) (s:List UInt8):(Lt.ak B w s).length=B.length+1:=by simp [Lt.ak]
theorem rF (B:List Lt.Block) (w:Lt.way) (s:List UInt8) (j:Nat) (hj:j<B.length):((Lt.ak B w s).getD j default).Name=(B.getD j default).Name/\((Lt.ak B w s).getD j default).End.To.length=(B.getD j default).End.To.length:=by
 have ext:∀ (l r:List Lt.Block),j<l.length->(l++r).getD j default=l.getD j default:=by
  intro l r h; rw [List.getD,List.getD,T1 h]
 have st:∀ (l:List Lt.Block) (t:Nat) (y:Lt.Block),j<l.length->(∀ x,l.getD t default=x->y.Name=x.Name/\y.End.To.length=x.End.To.length)->((l.set t y).getD j default).Name=(l.getD j default).Name/\((l.set t y).getD j default).End.To.length=(l.getD j default).End.To.length:=by
  intro l t y h hy;by_cases e:t=j
  ·subst e;rw [dl l h]; exact hy _ rfl
  ·rw [List.getD,SW e]; exact ⟨rfl,rfl⟩
 unfold Lt.ak;dsimp only;rw [ext _ _ (by simpa using hj)];have h1:=st B w.to.toNat (Lt.dn (B.getD w.from_.toNat default).Name s (B.getD w.to.toNat default)) hj (fun x hx=>by rw [hx]; exact ⟨rfl,rfl⟩)
 have h2:=st (B.set w.to.toNat (Lt.dn (B.getD w.from_.toNat default).Name s (B.getD w.to.toNat default))) w.from_.toNat (Lt.wD w.at_.toNat s ((B.set w.to.toNat (Lt.dn (B.getD w.from_.toNat default).Name s (B.getD w.to.toNat default))).getD w.from_.toNat default)) (by simpa using hj) (fun x hx=>by rw [hx]; exact ⟨rfl,by simp [Lt.wD]⟩)
 exact ⟨h2.1.trans h1.1,h2.2.trans h1.2⟩
abbrev jM (f:Lt.Func) (i:Nat):List (List UInt8)×List Lt.Block:=((Lt.aq f).take i).foldl Lt.bM (Lt.names f,f.Blocks)
theorem AS (f:Lt.Func) {i:Nat} (h:i < (Lt.aq f).length):jM f (i+1)=Lt.bM (jM f i) ((Lt.aq f).getD i default):=by
 unfold jM;rw [bL (Lt.aq f) h,List.foldl_append]; rfl
theorem FJ (f:Lt.Func):∀ i,i<=(Lt.aq f).length->(jM f i).1.length=(Lt.names f).length+i/\(jM f i).2.length=f.Blocks.length+i/\∀ j,j<f.Blocks.length->((jM f i).2.getD j default).Name=(f.Blocks.getD j default).Name/\((jM f i).2.getD j default).End.To.length=(f.Blocks.getD j default).End.To.length
 | 0,_=>⟨rfl,rfl,fun _ _=>⟨rfl,rfl⟩⟩
 | i+1,h=>by
  obtain ⟨h1,h2,h3⟩:=FJ f i (by omega);rw [AS f (by omega)];unfold Lt.bM;dsimp only;refine ⟨by simp only [Tg,SU,Te]; omega,by rw [rJ]; omega,fun j hj=>?_⟩;have h4:=rF (jM f i).2 ((Lt.aq f).getD i default) (Lt.fM (jM f i).1) j (by omega)
  exact ⟨h4.1.trans (h3 j hj).1,h4.2.trans (h3 j hj).2⟩
theorem Ll (f:Lt.Func):∀ w∈Lt.aq f,(0<=w.from_/\w.from_ < (f.Blocks.length:Int))/\(0<=w.to/\w.to < (f.Blocks.length:Int))/\0<=w.at_/\w.at_ < ((Lt.bY f w.from_.toNat).length:Int):=by
 intro w hw;unfold Lt.aq at hw;obtain ⟨i,hi,hw⟩:=List.mem_flatMap.1 hw;have hi:=Tm.1 hi
 unfold Lt.dp at hw;split at hw
 ·simp at hw
 ·obtain ⟨k,hk,hw⟩:=List.mem_filterMap.1 hw;have hk:=Tm.1 hk
  unfold Lt.gC at hw;dsimp only at hw;split at hw
  ·rename_i h;have h5:=tQ h.1
   obtain rfl:=Option.some.inj hw;dsimp only;rw [Int.toNat_natCast];exact ⟨⟨by omega,by omega⟩,h5,by omega,by omega⟩
  ·cases hw
theorem Dk (f:Lt.Func) (h1:f.Blocks.length<=1000) (h2:∀ b∈f.Blocks,b.End.To.length<=1000):(Lt.aq f).length<=1000000:=by
 unfold Lt.aq;refine Th (gL _ 1000 _ (fun x hx=>Th (n3 f x) ?_)) ?_
 ·exact h2 _ (bQ _ (Tm.1 hx))
 ·rw [List.length_range];exact TA 1000 h1
theorem Jn (f:Lt.Func) (hp:Lt.ri f) (KK:Lt.Func->Prop) (h:KK (Lt.fp f)):yL f KK:=by
 unfold yL;obtain ⟨hb1,hb2,hb3⟩:=hp;have hn1:f.Blocks.length+(f.Params.length+f.Vars.length)=(Lt.names f).length:=by simp [Lt.names]
 intro _;refine aN _ f.Blocks.length (fun i x=>x.1=(i:Int)/\ua x.2 ((f.Blocks.take i).map (·.Name))) (fun R i x hi hx ih=>?_) (fun R x hx=>?_) (0,[]) ⟨rfl,fun k=>rfl⟩
 ·obtain ⟨x1,x2⟩:=x;obtain ⟨e,hx⟩:=hx;dsimp only at e hx ⊢;subst e;rw [if_pos (cz hi)];refine ⟨ob hi,ih _ ⟨aw (by omega),?_⟩⟩;simp only [Int.toNat_natCast];rw [bL _ hi,TP];exact hx.ins _
 obtain ⟨x1,x2⟩:=x;obtain ⟨e,hx⟩:=hx;dsimp only at e hx ⊢;subst e;rw [if_neg (by simp)];intro _;rw [TI] at hx;refine aN _ 2 (fun j x=>x.1=(j:Int)/\ua x.2 (f.Blocks.map (·.Name)++([f.Params,f.Vars].take j).flatten.map (·.Name))) (fun R j x hj hx ih=>?_) (fun R x hx=>?_) (0,x2) ⟨rfl,by simpa using hx⟩
 ·obtain ⟨x1,x2⟩:=x;obtain ⟨e,hx⟩:=hx;dsimp only at e hx ⊢;subst e;rw [if_pos (decide_eq_true (by simp; omega))];refine ⟨⟨SR j,by simp; omega⟩,fun _=>?_⟩;simp only [Int.toNat_natCast];have hjl:([f.Params,f.Vars].getD j []).length<=(Lt.names f).length:=by
   match j,hj with
   | 0,_=>show f.Params.length<=_; omega
   | 1,_=>show f.Vars.length<=_; omega
  have htake:([f.Params,f.Vars].take (j+1)).flatten=([f.Params,f.Vars].take j).flatten++[f.Params,f.Vars].getD j []:=by
   match j,hj with
   | 0,_=>simp
   | 1,_=>simp
  refine aN _ ([f.Params,f.Vars].getD j []).length (fun i x=>x.1=(i:Int)/\ua x.2 ((f.Blocks.map (·.Name)++([f.Params,f.Vars].take j).flatten.map (·.Name))++(([f.Params,f.Vars].getD j []).take i).map (·.Name))) (fun R i x hi hx ih=>?_) (fun R x hx=>?_) (0,x2) ⟨rfl,by simpa using hx⟩
  ·obtain ⟨x1,x2⟩:=x;obtain ⟨e,hx⟩:=hx;dsimp only at e hx ⊢;subst e;rw [if_pos (cz hi)];refine ⟨ob hi,ih _ ⟨aw (by omega),?_⟩⟩;simp only [Int.toNat_natCast];rw [bL _ hi,TP,<- TL];exact hx.ins _
  ·obtain ⟨x1,x2⟩:=x;obtain ⟨e,hx⟩:=hx;dsimp only at e hx ⊢;subst e;rw [if_neg (by simp)];refine ih _ ⟨aw (by omega),?_⟩;rw [TI] at hx;rw [htake,TP,<- TL];exact hx
 obtain ⟨x1,x2⟩:=x;obtain ⟨e,hx⟩:=hx;dsimp only at e hx;subst e;have hx:ua x2 (Lt.names f):=by
  intro k;rw [hx k];simp [Lt.names]
 rw [if_neg (by simp)];have hpw:Lt.mB f:=⟨by omega,fun b hb=>by have:=(hb2 b hb).1; omega⟩
 refine ⟨hpw,⟨by omega,fun b hb=>⟨by have:=(hb2 b hb).1; omega,(hb2 b hb).2.1,(hb2 b hb).2.2⟩⟩,fun _=>?_⟩;have hwl:=Dk f hb1 (fun b hb=>(hb2 b hb).1)
 refine aN _ (Lt.aq f).length (fun i x=>x.1=(i:Int)/\ua x.2.1 (jM f i).1/\x.2.2=⟨f.Name,f.Result,f.Params,f.Vars,(jM f i).2⟩) (fun R7 i x hi hx ih=>?_) (fun R7 x hx=>?_) (0,x2,f) ⟨rfl,hx,rfl⟩
 ·obtain ⟨x1,m,g⟩:=x;obtain ⟨e,hm,hg⟩:=hx;dsimp only at e hm hg;subst e hg;obtain ⟨l1,l2,l3⟩:=FJ f i (by omega);have hacc:=AS f hi
  generalize hac:jM f i=ac at hm l1 l2 l3 hacc;obtain ⟨K,B⟩:=ac;dsimp only at hm l1 l2 l3;have hw:=Ll f _ (bQ _ hi)
  dsimp only;rw [if_pos (cz hi)];refine ⟨ob hi,?_⟩;dsimp +instances only [Int.toNat_natCast]
  generalize (Lt.aq f).getD i default=w at hw hacc;obtain ⟨⟨w1,w2⟩,⟨w3,w4⟩,w5,w6⟩:=hw;have hfrom:w.from_.toNat<B.length:=by omega
  have hto:w.to.toNat<B.length:=by omega
  have hnm:Lt.ee K [115] K.length 0<=K.length:=by have:=(jI K [115] K.length 0).2.1; omega
  have hnum:∀ j:Nat,j<=Lt.ee K [115] K.length 0->Lt.lR (j:Int)/\([115]:List UInt8).length+(Lt.bP (j:Int)).length<=4611686018427387904:=fun j hj=>by
   have hn:Lt.inR (j:Int):=⟨by omega,by omega⟩
   have:=E9 hn
   exact ⟨hn,by simp only [SU,Te]; omega⟩
  refine aN _ (Lt.ee K [115] K.length 0) (fun j x=>x=(j:Int)) (fun R9 j x hj hx2 ih9=>?_) (fun R9 x hx2=>?_) 0 rfl
  ·subst hx2;obtain ⟨n1,n2⟩:=hnum j (by omega);refine ⟨n1,n2,?_⟩;have hin:Cm m ([115]++Lt.bP (j:Int))=true:=by rw [hm]; exact decide_eq_true ((jI K [115] K.length 0).2.2.1 j (Tf _) hj)
   rw [if_neg (by rw [show (aU (β:=Bool) .s m ([115]++Lt.bP (j:Int))).getD (dflt .bo)=true from hin]; simp)];exact ih9 _ (aw (by omega))
  ·subst hx2;obtain ⟨n1,n2⟩:=hnum (Lt.ee K [115] K.length 0) (SN _);refine ⟨n1,n2,?_⟩;have hs:Lt.fM K=[115]++Lt.bP (Lt.ee K [115] K.length 0:Int):=rfl
   rw [<- hs];have hin:Cm m (Lt.fM K)=false:=by rw [hm,hs]; exact decide_eq_false (tE K [115])
   rw [if_pos (by rw [show (aU (β:=Bool) .s m (Lt.fM K)).getD (dflt .bo)=false from hin]; rfl)];generalize hss:Lt.fM K=s at hin hacc;refine ⟨⟨w1,by omega⟩,⟨w3,by omega⟩,⟨w3,by omega⟩,fun hPl=>?_⟩;have est:(⟨f.Name,f.Result,f.Params,f.Vars,B⟩:Lt.Func)=stF f B w.to.toNat (B.getD w.to.toNat default).Phis:=by
    unfold stF; rw [JY B hto]
   generalize hP:(B.getD w.to.toNat default).Phis=P at hPl est;generalize ha:(B.getD w.from_.toNat default).Name=a;have gd:∀ Q,(stF f B w.to.toNat Q).Blocks.getD w.to.toNat default=⟨(B.getD w.to.toNat default).Name,Q,(B.getD w.to.toNat default).Code,(B.getD w.to.toNat default).End⟩:=fun Q=>dl B hto _ _
   refine aN _ P.length (fun k x=>x=((k:Int),stF f B w.to.toNat ((P.take k).map (Lt.dt a s)++P.drop k))) (fun R11 k x hk hx3 ih11=>?_) (fun R11 x hx3=>?_) _ (by rw [est]; rfl)
   ·subst hx3;have hla:((P.take k).map (Lt.dt a s)).length=k:=by rw [List.length_map,TF]; omega
    rw [qi P hk];dsimp only;rw [if_pos (cz hk)];dsimp +instances only [Int.toNat_natCast]
    simp only [gd];have mg:∀ (x:Lt.Phi) b d,((P.take k).map (Lt.dt a s)++x::b).getD k d=x:=fun x b d=>zT _ _ _ _ hla
    have ms:∀ (x y:Lt.Phi) b,((P.take k).map (Lt.dt a s)++x::b).set k y=(P.take k).map (Lt.dt a s)++y::b:=fun x y b=>zu _ _ _ _ hla
    have hl1:∀ x:Lt.Phi,((P.take k).map (Lt.dt a s)++x::P.drop (k+1)).length=P.length:=fun x=>by simp only [Tg,SU,UF,hla]; omega
    simp only [mg];refine ⟨⟨by omega,by rw [hl1]; omega⟩,fun hIl=>?_⟩;have etk:P.take (k+1)=P.take k++[P.getD k default]:=bL P hk
    generalize P.getD k default=p at hIl etk;refine aN _ p.Ins.length (fun j x=>x=((j:Int),stF f B w.to.toNat ((P.take k).map (Lt.dt a s)++⟨p.Dst,(p.Ins.take j).map (Lt.iR a s)++p.Ins.drop j⟩::P.drop (k+1)))) (fun R13 j x hj hx4 ih13=>?_) (fun R13 x hx4=>?_) _ rfl
    ·subst hx4;have hlj:((p.Ins.take j).map (Lt.iR a s)).length=j:=by rw [List.length_map,TF]; omega
     rw [qi p.Ins hj];have etj:p.Ins.take (j+1)=p.Ins.take j++[p.Ins.getD j default]:=bL p.Ins hj
     have hl2:∀ x:Lt.In,((p.Ins.take j).map (Lt.iR a s)++x::p.Ins.drop (j+1)).length=p.Ins.length:=fun x=>by simp only [Tg,SU,UF,hlj]; omega
     dsimp only;rw [if_pos (cz hj)];intro J hJ;dsimp +instances only [Int.toNat_natCast]
     simp only [gd,mg];rw [zT _ _ _ _ hlj];rw [etj,TP] at ih13;have hlB:(stF f B w.to.toNat ((P.take k).map (Lt.dt a s)++⟨p.Dst,(p.Ins.take j).map (Lt.iR a s)++p.Ins.getD j default::p.Ins.drop (j+1)⟩::P.drop (k+1))).Blocks.length=B.length:=by simp
     generalize p.Ins.getD j default=q at hl2 ih13 hlB hJ;refine ⟨⟨by omega,by rw [hl1]; omega⟩,⟨by omega,by rw [hl2]; omega⟩,?_⟩;refine ifk (fun hq=>⟨⟨by omega,by rw [hl1]; omega⟩,⟨by omega,by rw [hl2]; omega⟩,by rw [hlB]; exact hto,by rw [hl1]; exact hk,by rw [hl2]; exact hj,hJ _ ?_⟩) (fun hq=>hJ _ ?_)
     ·have hq:q.Block=a:=of_decide_eq_true hq
      refine ih13 _ ?_;rw [aw (by omega),ms,zu _ _ _ _ hlj];have:[q].map (Lt.iR a s)=[⟨s,q.A⟩]:=by simp only [List.map_cons,List.map_nil,Lt.iR]; rw [if_pos hq]
      rw [this,TL,TY];unfold stF;rw [TU]
     ·have hq:¬ q.Block=a:=fun e=>hq (decide_eq_true e)
      refine ih13 _ ?_;rw [aw (by omega)];have:[q].map (Lt.iR a s)=[q]:=by simp only [List.map_cons,List.map_nil,Lt.iR]; rw [if_neg hq]
      rw [this,TL,TY]
    ·subst hx4;dsimp only;rw [if_neg (by simp)];refine ih11 _ ?_;rw [aw (by omega),etk,TP,TI,T7,TV,TL];rfl
   ·subst hx3;dsimp only;rw [if_neg (by simp),TI,T7,TV];have hl1:=l3 w.from_.toNat (by omega)
    have hfb:∀ Q,((stF f B w.to.toNat Q).Blocks.getD w.from_.toNat default).End.To.length=(B.getD w.from_.toNat default).End.To.length:=by
     intro Q;by_cases e:w.to.toNat=w.from_.toNat
     ·rw [<- e,gd]
     ·unfold stF; rw [List.getD,SW e]; rfl
    have hlB:∀ Q,(stF f B w.to.toNat Q).Blocks.length=B.length:=fun Q=>by simp
    have hat:w.at_ < (((stF f B w.to.toNat (P.map (Lt.dt a s))).Blocks.getD w.from_.toNat default).End.To.length:Int):=by rw [hfb,hl1.2]; exact w6
    have hat2:w.at_.toNat < ((stF f B w.to.toNat (P.map (Lt.dt a s))).Blocks.getD w.from_.toNat default).End.To.length:=by omega
    refine ⟨⟨w1,by rw [hlB]; omega⟩,⟨w5,hat⟩,by rw [hlB]; exact hfrom,hat2,⟨?_,?_⟩,ih _ ⟨aw (by omega),?_,?_⟩⟩
    ·simp only [S3,SU,Te]; omega
    ·simp only [S3,SU,Te]; omega
    ·rw [hacc];unfold Lt.bM;dsimp only;rw [hss];exact hm.ins _
    ·rw [hacc];unfold Lt.bM Lt.ak;dsimp only;rw [hss,ha];unfold Lt.dn;rw [hP];rfl
 ·obtain ⟨x1,m,g⟩:=x;obtain ⟨e,hm,hg⟩:=hx;dsimp only at e hm hg;subst e hg;dsimp only;rw [if_neg (by simp)];have:Lt.fp f=⟨f.Name,f.Result,f.Params,f.Vars,(jM f (Lt.aq f).length).2⟩:=by
   unfold Lt.fp jM;rw [TI]
  rw [<- this]; exact h
end Go.Am
end

section
namespace Lt
open Go
def yR (f:Func) (w:way):Pair:=⟨(f.Blocks.getD w.from_.toNat default).Name,(f.Blocks.getD w.to.toNat default).Name⟩
def pO (f:Func):Prop:=CF f/\(aq f).length<=1000000
def jS (f:Func):List Pair:=(aq f).map (yR f)
abbrev nmB (B:List Block) (i:Nat):List UInt8:=(B.getD i default).Name
abbrev toB (B:List Block) (i:Nat):List (List UInt8):=(B.getD i default).End.To
inductive Rc (B:List Block):Nat->Prop
 | first:0<B.length->Rc B 0
 | next (i k:Nat):Rc B i->i<B.length->k<B.length->nmB B k∈toB B i->Rc B k
structure Gd (B:List Block):Prop where
 ps:0<B.length
 nd:∀ i j,i<B.length->j<B.length->nmB B i=nmB B j->i=j
 tn:∀ i,i<B.length->(toB B i).Nodup
 tr:∀ i,i<B.length->∀ s∈toB B i,∃ k,k<B.length/\k≠0/\nmB B k=s
 re:∀ k,k<B.length->Rc B k
def Eh (f:Func):Prop:=Gd f.Blocks/\f.Blocks.length<=1000000/\∀ b∈f.Blocks,b.End.To.length<=1000000
def sM (f:Func):Bool:=true
def Jc (s:List UInt8) (b:Block):List (List UInt8):=(b.End.To.filter fun n=>decide (n=s)).map fun _=>b.Name
def frm (B:List Block) (s:List UInt8):List (List UInt8):=B.flatMap (Jc s)
def oe:List (List UInt8)->List In->Bool
 | _,[]=>true
 | l,x::r=>decide (x.Block∈l)&&oe (l.filter fun s=>!decide (s=x.Block)) r
def ur (x:Phi) (l:List (List UInt8)):Prop:=x.Ins.length<=1000000/\l.length<=1000000
def gW (x:Phi) (l:List (List UInt8)):Bool:=decide ((x.Ins.length:Int)=(l.length:Int))&&oe l x.Ins
def ub (f:Func):Prop:=f.Blocks.length<=1000/\∀ b∈f.Blocks,b.End.To.length<=1000/\b.Phis.length<=1000000/\∀ p∈b.Phis,p.Ins.length<=1000000
def qO (B:List Block) (i:Nat):Bool:=!(decide (i=0)&&decide (0 < (B.getD i default).Phis.length))&&(B.getD i default).Phis.all fun x=>gW x (frm B (nmB B i))
def iK (f:Func):Bool:=(List.range f.Blocks.length).all (qO f.Blocks)
def PN (f:Func):Prop:=f.ok/\(jG f 3000<=3000->f.Params.length+f.Vars.length<=100000)
def JB (_:Func):Bool:=true
end Lt
end

section
namespace Go.Am
open Go
def nT (a0_a:List Lt.Var) (a1_b:List Lt.Var) (KK:Bool->Prop):Prop:=
 (a0_a.length<=4611686018427387904->(a1_b.length<=4611686018427387904->if (!decide ((a0_a.length:Int)=(a1_b.length:Int)))=true then (KK false) else (ax (α:=Int) (fun R1 v2=>(a0_a.length<=4611686018427387904->if (decide (v2 < (a0_a.length:Int)))=true then (((0:Int)<=v2/\v2.toNat<a0_a.length)/\((0:Int)<=v2/\v2.toNat<a1_b.length)/\if (!(decide ((a0_a.getD v2.toNat default).Name=(a1_b.getD v2.toNat default).Name)&&decide ((a0_a.getD v2.toNat default).Type_=(a1_b.getD v2.toNat default).Type_)))=true then (KK false) else (R1 (IntKind.i64.wrap (v2+1)))) else (KK true))) 0)))
def nU (a0_a:List Lt.Arg) (a1_b:List Lt.Arg) (KK:Bool->Prop):Prop:=
 (a0_a.length<=4611686018427387904->(a1_b.length<=4611686018427387904->if (!decide ((a0_a.length:Int)=(a1_b.length:Int)))=true then (KK false) else (ax (α:=Int) (fun R1 v2=>(a0_a.length<=4611686018427387904->if (decide (v2 < (a0_a.length:Int)))=true then (((0:Int)<=v2/\v2.toNat<a0_a.length)/\((0:Int)<=v2/\v2.toNat<a1_b.length)/\if (!(decide ((a0_a.getD v2.toNat default).Kind=(a1_b.getD v2.toNat default).Kind)&&(decide ((a0_a.getD v2.toNat default).S=(a1_b.getD v2.toNat default).S)&&decide ((a0_a.getD v2.toNat default).N=(a1_b.getD v2.toNat default).N))))=true then (KK false) else (R1 (IntKind.i64.wrap (v2+1)))) else (KK true))) 0)))
def me (a0_a:Lt.Instr) (a1_b:Lt.Instr) (KK:Bool->Prop):Prop:=
 aJ (α:=Bool) (fun J1=>if (!decide (a0_a.Op=a1_b.Op))=true then (J1 true) else (if (!decide (a0_a.Dst=a1_b.Dst))=true then (J1 true) else (if (!decide (a0_a.Name=a1_b.Name))=true then (J1 true) else (if (!(Lt.kq a0_a.Args a1_b.Args))=true then (J1 true) else (if (!decide ((a0_a.Frames.length:Int)=(a1_b.Frames.length:Int)))=true then (J1 true) else (J1 (!decide ((a0_a.Objs.length:Int)=(a1_b.Objs.length:Int))))))))) (fun v2=>if v2=true then (KK false) else (ax (α:=Int) (fun R3 v4=>have z2:=a1_b.Frames.getD v4.toNat default; have z1:=a0_a.Frames.getD v4.toNat default; (a0_a.Frames.length<=4611686018427387904->if (decide (v4 < (a0_a.Frames.length:Int)))=true then (((0:Int)<=v4/\v4.toNat<a0_a.Frames.length)/\((0:Int)<=v4/\v4.toNat<a1_b.Frames.length)/\aJ (α:=Bool) (fun J5=>if (!decide (z1.Func=z2.Func))=true then (J5 true) else (if (!decide (z1.Block=z2.Block))=true then (J5 true) else (if (!decide (z1.At=z2.At))=true then (J5 true) else (J5 (!decide (((z1.Vars).length:Int)=((z2.Vars).length:Int))))))) (fun v6=>if v6=true then (KK false) else (ax (α:=Int) (fun R7 v8=>have z4:=(z2.Vars).getD v8.toNat default; have z3:=(z1.Vars).getD v8.toNat default; ((z1.Vars).length<=4611686018427387904->if (decide (v8 < ((z1.Vars).length:Int)))=true then (((0:Int)<=v8/\v8.toNat < (z1.Vars).length)/\((0:Int)<=v8/\v8.toNat < (z2.Vars).length)/\if (!(decide (z3.Name=z4.Name)&&(decide ((z3.A).Kind=(z4.A).Kind)&&(decide ((z3.A).S=(z4.A).S)&&decide ((z3.A).N=(z4.A).N)))))=true then (KK false) else (R7 (IntKind.i64.wrap (v8+1)))) else (R3 (IntKind.i64.wrap (v4+1))))) 0))) else (ax (α:=Int) (fun R9 v10=>(a0_a.Objs.length<=4611686018427387904->if (decide (v10 < (a0_a.Objs.length:Int)))=true then (aJ (α:=Bool) (fun J11=>((0:Int)<=v10/\v10.toNat<a0_a.Objs.length)/\((0:Int)<=v10/\v10.toNat<a1_b.Objs.length)/\if (!decide ((a0_a.Objs.getD v10.toNat default).Class=(a1_b.Objs.getD v10.toNat default).Class))=true then (J11 true) else (((0:Int)<=v10/\v10.toNat<a0_a.Objs.length)/\((0:Int)<=v10/\v10.toNat<a1_b.Objs.length)/\J11 (!(Lt.kq ((a0_a.Objs.getD v10.toNat default).Vals) ((a1_b.Objs.getD v10.toNat default).Vals))))) (fun v12=>if v12=true then (KK false) else (R9 (IntKind.i64.wrap (v10+1))))) else (KK true))) 0))) 0))
def l9 (a0_a:Lt.Block) (a1_b:Lt.Block) (KK:Bool->Prop):Prop:=
 aJ (α:=Bool) (fun J1=>if (!decide (a0_a.Name=a1_b.Name))=true then (J1 true) else (if (!decide ((a0_a.Phis.length:Int)=(a1_b.Phis.length:Int)))=true then (J1 true) else (if (!decide ((a0_a.Code.length:Int)=(a1_b.Code.length:Int)))=true then (J1 true) else (if (!decide (a0_a.End.Kind=a1_b.End.Kind))=true then (J1 true) else (if (!(decide (a0_a.End.A.Kind=a1_b.End.A.Kind)&&(decide (a0_a.End.A.S=a1_b.End.A.S)&&decide (a0_a.End.A.N=a1_b.End.A.N))))=true then (J1 true) else (if (!decide (a0_a.End.N=a1_b.End.N))=true then (J1 true) else (J1 (!decide ((a0_a.End.To.length:Int)=(a1_b.End.To.length:Int)))))))))) (fun v2=>if v2=true then (KK false) else (ax (α:=Int) (fun R3 v4=>(a0_a.End.To.length<=4611686018427387904->if (decide (v4 < (a0_a.End.To.length:Int)))=true then (((0:Int)<=v4/\v4.toNat<a0_a.End.To.length)/\((0:Int)<=v4/\v4.toNat<a1_b.End.To.length)/\if (!decide ((a0_a.End.To.getD v4.toNat default)=(a1_b.End.To.getD v4.toNat default)))=true then (KK false) else (R3 (IntKind.i64.wrap (v4+1)))) else (ax (α:=Int) (fun R5 v6=>have z5:=((0:Int)<=v6/\v6.toNat<a1_b.Phis.length); have z4:=a1_b.Phis.getD v6.toNat default; have z3:=((0:Int)<=v6/\v6.toNat<a0_a.Phis.length); have z1:=(a0_a.Phis.getD v6.toNat default).Ins; (a0_a.Phis.length<=4611686018427387904->if (decide (v6 < (a0_a.Phis.length:Int)))=true then (aJ (α:=Bool) (fun J7=>z3/\z5/\if (!decide ((a0_a.Phis.getD v6.toNat default).Dst=z4.Dst))=true then (J7 true) else (z3/\z5/\J7 (!decide ((z1.length:Int)=((z4.Ins).length:Int))))) (fun v8=>if v8=true then (KK false) else (ax (α:=Int) (fun R9 v10=>have z6:=z1.getD v10.toNat default; have z2:=(z4.Ins).getD v10.toNat default; z3/\(z1.length<=4611686018427387904->if (decide (v10 < (z1.length:Int)))=true then (z3/\((0:Int)<=v10/\v10.toNat<z1.length)/\z5/\((0:Int)<=v10/\v10.toNat < (z4.Ins).length)/\if (!(decide (z6.Block=z2.Block)&&(decide ((z6.A).Kind=(z2.A).Kind)&&(decide ((z6.A).S=(z2.A).S)&&decide ((z6.A).N=(z2.A).N)))))=true then (KK false) else (R9 (IntKind.i64.wrap (v10+1)))) else (R5 (IntKind.i64.wrap (v6+1))))) 0))) else (ax (α:=Int) (fun R11 v12=>(a0_a.Code.length<=4611686018427387904->if (decide (v12 < (a0_a.Code.length:Int)))=true then (((0:Int)<=v12/\v12.toNat<a0_a.Code.length)/\((0:Int)<=v12/\v12.toNat<a1_b.Code.length)/\if (!(Lt.j0 (a0_a.Code.getD v12.toNat default) (a1_b.Code.getD v12.toNat default)))=true then (KK false) else (R11 (IntKind.i64.wrap (v12+1)))) else (KK true))) 0))) 0))) 0))
def nQ (a0_a:Lt.Func) (a1_b:Lt.Func) (KK:Bool->Prop):Prop:=
 aJ (α:=Bool) (fun J1=>if (!decide (a0_a.Name=a1_b.Name))=true then (J1 true) else (if (!decide (a0_a.Result=a1_b.Result))=true then (J1 true) else (if (!(Lt.kA a0_a.Params a1_b.Params))=true then (J1 true) else (if (!(Lt.kA a0_a.Vars a1_b.Vars))=true then (J1 true) else (J1 (!decide ((a0_a.Blocks.length:Int)=(a1_b.Blocks.length:Int)))))))) (fun v2=>if v2=true then (KK false) else (ax (α:=Int) (fun R3 v4=>have z2:=a1_b.Blocks.getD v4.toNat default; have z1:=a0_a.Blocks.getD v4.toNat default; (a0_a.Blocks.length<=4611686018427387904->if (decide (v4 < (a0_a.Blocks.length:Int)))=true then (((0:Int)<=v4/\v4.toNat<a0_a.Blocks.length)/\((0:Int)<=v4/\v4.toNat<a1_b.Blocks.length)/\if (!(Lt.jY (Lt.Block.mk (z1.Name) (z1.Phis) (z1.Code) (Lt.Term.mk ((z1.End).Kind) ((z1.End).A) ((z1.End).To) ((z1.End).N))) (Lt.Block.mk (z2.Name) (z2.Phis) (z2.Code) (Lt.Term.mk ((z2.End).Kind) ((z2.End).A) ((z2.End).To) ((z2.End).N)))))=true then (KK false) else (R3 (IntKind.i64.wrap (v4+1)))) else (KK true))) 0))
def yd (a0_x:Lt.Phi) (a1_l:List (List UInt8)) (KK:Bool->Prop):Prop:=
 (a0_x.Ins.length<=4611686018427387904->(a1_l.length<=4611686018427387904->if (!decide ((a0_x.Ins.length:Int)=(a1_l.length:Int)))=true then (KK false) else ((a1_l.length<=4611686018427387904->ax (α:=Int×List ((List UInt8)×Bool)) (fun R1 v2=>if (decide (v2.1 < (a1_l.length:Int)))=true then (((0:Int)<=v2.1/\v2.1.toNat<a1_l.length)/\R1 ((IntKind.i64.wrap (v2.1+1)),(eh .s v2.2 (a1_l.getD v2.1.toNat default) true))) else ((a0_x.Ins.length<=4611686018427387904->ax (α:=Int×List ((List UInt8)×Bool)) (fun R3 v4=>if (decide (v4.1 < (a0_x.Ins.length:Int)))=true then (((0:Int)<=v4.1/\v4.1.toNat<a0_x.Ins.length)/\if (!((aU (β:=Bool) .s v4.2 ((a0_x.Ins.getD v4.1.toNat default).Block)).getD (dflt .bo)))=true then (KK false) else (R3 ((IntKind.i64.wrap (v4.1+1)),(mX .s v4.2 ((a0_x.Ins.getD v4.1.toNat default).Block))))) else (KK true)) (0,v2.2)))) (0,[])))))
def ut (a0_f:Lt.Func) (KK:Bool->Prop):Prop:=
 (a0_f.Blocks.length<=4611686018427387904->ax (α:=Int×List ((List UInt8)×List (List UInt8))) (fun R1 v2=>have z1:=a0_f.Blocks.getD v2.1.toNat default; if (decide (v2.1 < (a0_f.Blocks.length:Int)))=true then (((0:Int)<=v2.1/\v2.1.toNat<a0_f.Blocks.length)/\(((z1.End).To).length<=4611686018427387904->ax (α:=Int×List ((List UInt8)×List (List UInt8))) (fun R3 v4=>have z3:=((z1.End).To).getD v4.1.toNat default; have z4:=(aU (β:=List (List UInt8)) .s v4.2 z3).getD []; if (decide (v4.1 < (((z1.End).To).length:Int)))=true then (((0:Int)<=v4.1/\v4.1.toNat < ((z1.End).To).length)/\(z4.length+([z1.Name]:List (List UInt8)).length<=4611686018427387904/\(z4.length+([z1.Name]:List (List UInt8)).length)*16<=140737488355328)/\z3=z3/\R3 ((IntKind.i64.wrap (v4.1+1)),(eh .s v4.2 z3 (z4++([z1.Name]:List (List UInt8)))))) else (R1 ((IntKind.i64.wrap (v2.1+1)),v4.2))) (0,v2.2))) else ((a0_f.Blocks.length<=4611686018427387904->ax (α:=Int) (fun R5 v6=>have z2:=a0_f.Blocks.getD v6.toNat default; have z5:=(aU (β:=List (List UInt8)) .s v2.2 (z2.Name)).getD (dflt (.sl .s)); if (decide (v6 < (a0_f.Blocks.length:Int)))=true then (((0:Int)<=v6/\v6.toNat<a0_f.Blocks.length)/\aJ (α:=Bool) (fun J7=>if (decide (v6=0))=true then (J7 (decide (0 < ((z2.Phis).length:Int)))) else (J7 false)) (fun v8=>if v8=true then (KK false) else (((z2.Phis).length<=4611686018427387904->ax (α:=Int) (fun R9 v10=>if (decide (v10 < ((z2.Phis).length:Int)))=true then (((0:Int)<=v10/\v10.toNat < (z2.Phis).length)/\(Lt.ur ((z2.Phis).getD v10.toNat default) z5)/\if (!(Lt.gW ((z2.Phis).getD v10.toNat default) z5))=true then (KK false) else (R9 (IntKind.i64.wrap (v10+1)))) else (R5 (IntKind.i64.wrap (v6+1)))) 0)))) else (KK true)) 0))) (0,[]))
def qk (a0_f:Lt.Func) (KK:Bool->Prop):Prop:=
 have z6:=(a0_f.Blocks.length:Int); have z8:=List.replicate z6.toNat (dflt .bo); (a0_f.Blocks.length<=4611686018427387904->if (decide (z6=0))=true then (KK false) else ((a0_f.Blocks.length<=4611686018427387904->(a0_f.Blocks.length<=4611686018427387904->ax (α:=Int×List ((List UInt8)×Int)) (fun R1 v2=>if (decide (v2.1<z6))=true then (((0:Int)<=v2.1/\v2.1.toNat<a0_f.Blocks.length)/\if ((aU (β:=Int) .s v2.2 ((a0_f.Blocks.getD v2.1.toNat default).Name)).isSome)=true then (KK false) else (R1 ((IntKind.i64.wrap (v2.1+1)),(eh .s v2.2 ((a0_f.Blocks.getD v2.1.toNat default).Name) v2.1)))) else ((a0_f.Blocks.length<=4611686018427387904->ax (α:=Int) (fun R3 v4=>have z5:=((a0_f.Blocks.getD v4.toNat default).End).To; if (decide (v4<z6))=true then (((0:Int)<=v4/\v4.toNat<a0_f.Blocks.length)/\(z5.length<=4611686018427387904->ax (α:=Int×List ((List UInt8)×Bool)) (fun R5 v6=>have z7:=z5.getD v6.1.toNat default; if (decide (v6.1 < (z5.length:Int)))=true then (((0:Int)<=v6.1/\v6.1.toNat<z5.length)/\aJ (α:=Bool) (fun J7=>if (!((aU (β:=Int) .s v2.2 z7).isSome))=true then (J7 true) else (if (decide (((aU (β:=Int) .s v2.2 z7).getD (dflt (.i .i64)))=0))=true then (J7 true) else (J7 ((aU (β:=Bool) .s v6.2 z7).getD (dflt .bo))))) (fun v8=>if v8=true then (KK false) else (R5 ((IntKind.i64.wrap (v6.1+1)),(eh .s v6.2 z7 true))))) else (R3 (IntKind.i64.wrap (v4+1)))) (0,[]))) else (if false=true then (KK false) else ((a0_f.Blocks.length<=4611686018427387904->((0:Int)<=z6/\z6<=4611686018427387904/\1*z6.toNat<=281474976710656)/\((0:Int)<=0/\0 < ((z8.length:Nat):Int))/\0<z8.length/\ax (α:=List Bool×List Int) (fun R9 v10=>have z4:=(IntKind.i64.wrap ((v10.2.length:Int) - 1)); have z3:=(a0_f.Blocks.getD (v10.2.getD z4.toNat default).toNat default); (v10.2.length<=4611686018427387904->if (decide (0 < (v10.2.length:Int)))=true then (aJ (α:=Lt.Block) (fun J11=>have z1:=(((0:Int)<=(v10.2.getD z4.toNat default)/\(v10.2.getD z4.toNat default).toNat<a0_f.Blocks.length)/\J11 (Lt.Block.mk (z3.Name) (z3.Phis) (z3.Code) (Lt.Term.mk ((z3.End).Kind) ((z3.End).A) ((z3.End).To) ((z3.End).N)))); (v10.2.length<=4611686018427387904->((0:Int)<=z4/\z4 < ((v10.2.length:Nat):Int))/\(z1/\z1)/\(z1/\z1)/\z1)) (fun v12=>(v10.2.length<=4611686018427387904->((0:Int)<=z4/\z4.toNat<=v10.2.length)/\(v12.End.To.length<=4611686018427387904->ax (α:=List Bool×List Int×Int) (fun R13 v14=>have z2:=(aU (β:=Int) .s v2.2 (v12.End.To.getD v14.2.2.toNat default)).getD (dflt (.i .i64)); if (decide (v14.2.2 < (v12.End.To.length:Int)))=true then (aJ (α:=List Bool×List Int) (fun J15=>((0:Int)<=v14.2.2/\v14.2.2.toNat<v12.End.To.length)/\((0:Int)<=z2/\z2 < ((v14.1.length:Nat):Int))/\if (!(v14.1.getD z2.toNat default))=true then (((0:Int)<=z2/\z2 < ((v14.1.length:Nat):Int))/\z2.toNat<v14.1.length/\(v14.2.1.length+([z2]:List Int).length<=4611686018427387904/\(v14.2.1.length+([z2]:List Int).length)*8<=140737488355328)/\J15 ((v14.1.set z2.toNat true),(v14.2.1++([z2]:List Int)))) else (J15 (v14.1,v14.2.1))) (fun v16=>R13 (v16.1,v16.2,(IntKind.i64.wrap (v14.2.2+1))))) else (R9 (v14.1,v14.2.1))) (v10.1,(v10.2.take z4.toNat),0))))) else ((v10.1.length<=4611686018427387904->ax (α:=Int) (fun R17 v18=>if (decide (v18 < (v10.1.length:Int)))=true then (((0:Int)<=v18/\v18 < ((v10.1.length:Nat):Int))/\if (!(v10.1.getD v18.toNat default))=true then (KK false) else (R17 (IntKind.i64.wrap (v18+1)))) else (KK true)) 0)))) ((z8.set 0 true),[0]))))) 0))) (0,[])))))
def sY (a0_f:Lt.Func) (KK:(List Lt.Pair)->Prop):Prop:=
 (Lt.mB a0_f)/\((Lt.aq a0_f).length<=4611686018427387904->ax (α:=List Lt.Pair×Int) (fun R1 v2=>if (decide (v2.2 < ((Lt.aq a0_f).length:Int)))=true then (((0:Int)<=v2.2/\v2.2.toNat < (Lt.aq a0_f).length)/\((0:Int)<=((Lt.aq a0_f).getD v2.2.toNat default).from_/\(((Lt.aq a0_f).getD v2.2.toNat default).from_).toNat<a0_f.Blocks.length)/\((0:Int)<=((Lt.aq a0_f).getD v2.2.toNat default).to/\(((Lt.aq a0_f).getD v2.2.toNat default).to).toNat<a0_f.Blocks.length)/\(v2.1.length+([(Lt.Pair.mk ((a0_f.Blocks.getD (((Lt.aq a0_f).getD v2.2.toNat default).from_).toNat default).Name) ((a0_f.Blocks.getD (((Lt.aq a0_f).getD v2.2.toNat default).to).toNat default).Name))]:List Lt.Pair).length<=4611686018427387904/\(v2.1.length+([(Lt.Pair.mk ((a0_f.Blocks.getD (((Lt.aq a0_f).getD v2.2.toNat default).from_).toNat default).Name) ((a0_f.Blocks.getD (((Lt.aq a0_f).getD v2.2.toNat default).to).toNat default).Name))]:List Lt.Pair).length)*32<=140737488355328)/\R1 ((v2.1++([(Lt.Pair.mk ((a0_f.Blocks.getD (((Lt.aq a0_f).getD v2.2.toNat default).from_).toNat default).Name) ((a0_f.Blocks.getD (((Lt.aq a0_f).getD v2.2.toNat default).to).toNat default).Name))]:List Lt.Pair)),(IntKind.i64.wrap (v2.2+1)))) else (KK v2.1)) ([],0))
def mr (a0_f:Lt.Func) (KK:Bool->Prop):Prop:=
 aJ (α:=Bool) (fun J1=>if (!Lt.sK)=true then (J1 true) else ((Lt.tS a0_f)/\(∀ y3:Bool,Lt.qu a0_f y3->J1 (!y3)))) (fun v2=>if v2=true then (KK Lt.sK) else ((Lt.ri a0_f)/\aJ (α:=Bool) (fun J4=>(Lt.pO (Lt.fp a0_f))/\((Lt.jS (Lt.fp a0_f)).length<=4611686018427387904->if (!decide (((Lt.jS (Lt.fp a0_f)).length:Int)=0))=true then (J4 true) else ((Lt.Eh (Lt.fp a0_f))/\if (!(Lt.sM (Lt.fp a0_f)))=true then (J4 true) else ((Lt.ub a0_f)/\if (Lt.iK a0_f)=true then ((Lt.ub (Lt.fp a0_f))/\J4 (!(Lt.iK (Lt.fp a0_f)))) else (J4 false))))) (fun v5=>if v5=true then (KK false) else (aJ (α:=Bool) (fun J6=>have z1:=((Lt.pO a0_f)/\J6 (decide ((((Lt.fp a0_f).Blocks).length:Int)=(IntKind.i64.wrap ((a0_f.Blocks.length:Int)+((Lt.jS a0_f).length:Int)))))); have z2:=(Lt.ri (Lt.fp a0_f))/\if (Lt.lX (Lt.fp (Lt.fp a0_f)) (Lt.fp a0_f))=true then ((z1/\z1)/\(z1/\z1)/\z1) else (((J6 false)/\(J6 false))/\((J6 false)/\(J6 false))/\(J6 false)); z2/\z2) (fun v7=>KK v7)))))
end Go.Am
end

section
namespace Go.Am
open Go
open Lt (nmB toB Gd Rc)
abbrev fB (f:Lt.Func) (B:List Lt.Block):Lt.Func:=⟨f.Name,f.Result,f.Params,f.Vars,B⟩
theorem um (s:List UInt8):∀ (l:List Lt.Block) (k:Nat) (i:Int),k<l.length->(l.getD k default).Name=s->(∀ j,j<k->(l.getD j default).Name≠s)->Lt.cj s l i=(i+(k:Int),true)
 | [],k,i,h,_,_=>by simp at h
 | b::r,0,i,_,h,_=>by
  have h:b.Name=s:=h
  unfold Lt.cj; rw [if_pos h]; simp
 | b::r,k+1,i,hk,h,hn=>by
  have h0:b.Name≠s:=hn 0 (by omega)
  unfold Lt.cj; rw [if_neg h0];rw [um s r k (i+1) (by simpa using hk) h (fun j hj=>hn (j+1) (by omega))];rw [Prod.mk.injEq]; exact ⟨by omega,rfl⟩
theorem nN (s:List UInt8):∀ (l:List Lt.Block) (i:Int),(Lt.cj s l i).2=true->∃ k:Nat,k<l.length/\(l.getD k default).Name=s/\(Lt.cj s l i).1=i+(k:Int)
 | [],i,h=>by simp [Lt.cj] at h
 | b::r,i,h=>by
  unfold Lt.cj at h ⊢;split at h
  ·rename_i e;rw [if_pos e]; exact ⟨0,by simp,e,by simp⟩
  ·rename_i e;rw [if_neg e];obtain ⟨k,h1,h2,h3⟩:=nN s r (i+1) h;exact ⟨k+1,by simpa using h1,h2,by rw [h3]; omega⟩
theorem Gd.place {f:Lt.Func} (g:Gd f.Blocks) {k:Nat} (hk:k<f.Blocks.length):Lt.aA f (nmB f.Blocks k)=((k:Int),true):=by
 unfold Lt.aA;rw [um _ f.Blocks k 0 hk rfl (fun j hj e=>by have:=g.nd j k (by omega) hk e; omega)];rw [Int.zero_add]
theorem EY {f:Lt.Func} (h:Lt.zh f):Gd f.Blocks:=by
 obtain ⟨h1,h2,h3⟩:=h;have nd:∀ i j,i<f.Blocks.length->j<f.Blocks.length->nmB f.Blocks i=nmB f.Blocks j->i=j:=fun i j hi hj e=>by
  have a:=(h1 i hi).1
  have b:=(h1 j hj).1
  have e:(f.Blocks.getD i default).Name=(f.Blocks.getD j default).Name:=e
  rw [e] at a;omega
 have tr:∀ i,i<f.Blocks.length->∀ s∈toB f.Blocks i,∃ k,k<f.Blocks.length/\k≠0/\nmB f.Blocks k=s:=fun i hi s hs=>by
  obtain ⟨p,hp,rfl⟩:=T6.1 hs;obtain ⟨a,b,_⟩:=(h1 i hi).2 p hp;have e:(Lt.bY f i).getD p default=(toB f.Blocks i)[p]:=by rw [List.getD,SK hp]; rfl
  rw [e] at a b;obtain ⟨k,k1,k2,k3⟩:=nN _ _ _ a;refine ⟨k,k1,fun e0=>b ?_,k2⟩;unfold Lt.aA; rw [k3,e0]; rfl
 refine ⟨h3,nd,fun i hi=>?_,tr,fun k hk=>?_⟩
 ·refine List.pairwise_iff_getElem.2 fun a b ha hb hab=>?_
  have:=((h1 i hi).2 b hb).2.2 a hab
  rw [List.getD,List.getD,SK hb,SK ha] at this;exact this
 ·have h2:=h2 k hk
  clear hk;induction h2 with
  | first h=>exact .first h
  | next i k hi hk hl ih=>
   have hil:i<f.Blocks.length:=by
    cases hi with
    | first h=>exact h
    | next _ _ _ h _=>exact h
   refine .next i k ih hil hk ?_;unfold Lt.qw at hl;rw [Int.toNat_natCast] at hl;obtain ⟨s,hs,h⟩:=List.any_eq_true.1 hl;simp only [SL,decide_eq_true_eq] at h;obtain ⟨k',k1,k2,k3⟩:=nN _ _ _ h.1;have:k'=k:=by have:=h.2; unfold Lt.aA at this; omega
   subst this;have k2:nmB f.Blocks k'=s:=k2
   rw [k2]; exact hs
def oV (B:List Lt.Block) (s:List UInt8):Nat:=(List.range B.length).countP fun i=>decide (s∈toB B i)
theorem lz {p q:Nat->Bool} {n:Nat} (h:∀ j,j<n->p j=q j):(List.range n).countP p=(List.range n).countP q:=by
 refine List.countP_congr fun x hx=>?_
 rw [h x (Tm.1 hx)]
theorem rz {p q:Nat->Bool} {i:Nat}:∀ {n:Nat},i<n->(∀ j,j<n->j≠i->p j=q j)->p i=true->q i=false->(List.range n).countP q+1=(List.range n).countP p
 | 0,h,_,_,_=>by omega
 | n+1,h,he,hp,hq=>by
  rw [Ui,List.countP_append,List.countP_append,List.countP_singleton,List.countP_singleton];by_cases e:i=n
  ·subst e;rw [hp,hq,lz (p:=p) (q:=q) (n:=i) (fun j hj=>he j (by omega) (by omega))];simp
  ·rw [<- rz (p:=p) (q:=q) (n:=n) (by omega) (fun j hj=>he j (by omega)) hp hq,he n (by omega) (fun h=>e h.symm)];omega
theorem uF {p:Nat->Bool} {i:Nat}:∀ {n:Nat},(∀ j,j<n->p j=true->j=i)->(List.range n).countP p<=1
 | 0,_=>by simp
 | n+1,h=>by
  rw [Ui,List.countP_append,List.countP_singleton];by_cases e:p n=true
  ·have:=h n (by omega) e
   subst this;have:(List.range n).countP p=0:=List.countP_eq_zero.2 fun x hx hp=>by
    have:=Tm.1 hx
    have:=h x (by omega) hp
    omega
   rw [this,e]; simp
  ·have:=uF (p:=p) (i:=i) (n:=n) (fun j hj=>h j (by omega))
   simp only [e];simpa using this
theorem Kh {f:Lt.Func} (g:Gd f.Blocks) {i k:Nat} (hi:i<f.Blocks.length) (hk:k<f.Blocks.length):((k:Int)∈(Lt.fY f).getD i []) ↔ nmB f.Blocks k∈toB f.Blocks i:=by
 have e:(Lt.fY f).getD i []=(toB f.Blocks i).filterMap (Lt.gU f):=by
  unfold Lt.fY;rw [List.getD,SM,SK hi];simp only [Option.map_some,Option.getD_some];rw [show toB f.Blocks i=f.Blocks[i].End.To from by unfold Lt.toB; rw [List.getD,SK hi]; rfl]
 rw [e,List.mem_filterMap];constructor
 ·rintro ⟨s,hs,h⟩
  obtain ⟨k',a,b,rfl⟩:=g.tr i hi s hs;unfold Lt.gU at h;rw [Gd.place g a] at h;simp only [if_true,SJ] at h;have:k'=k:=by omega
  subst this; exact hs
 ·intro h;refine ⟨_,h,?_⟩;unfold Lt.gU;rw [Gd.place g hk]; rfl
theorem JN {f:Lt.Func} (g:Gd f.Blocks) {k:Nat} (hk:k<f.Blocks.length):((Lt.eJ (Lt.fY f)).getD k []).length=oV f.Blocks (nmB f.Blocks k):=by
 have hl:(Lt.fY f).length=f.Blocks.length:=by simp [Lt.fY]
 unfold Lt.eJ;rw [List.getD,SM,Us (by rw [hl]; exact hk)];simp only [Option.map_some,Option.getD_some];unfold Lt.zk oV;rw [List.length_map,<- List.countP_eq_length_filter,hl];refine lz fun j hj=>?_
 rw [decide_eq_decide];exact Kh g hj hk
theorem oZ {f:Lt.Func} (g:Gd f.Blocks) {i p t:Nat} (ht:t<f.Blocks.length) (e:(toB f.Blocks i).getD p default=nmB f.Blocks t):Lt.gC f i p=if 1<oV f.Blocks (nmB f.Blocks t) then some ⟨i,p,t⟩ else none:=by
 unfold Lt.gC;dsimp only;rw [show (Lt.bY f i).getD p default=nmB f.Blocks t from e,Gd.place g ht];rw [Int.toNat_natCast,JN g ht];simp only [true_and]
structure Sp1 (B:List Lt.Block) (w:Lt.way) (s:List UInt8) (i p t:Nat):Prop where
 ew:w=⟨i,p,t⟩
 hi:i<B.length
 ht:t<B.length
 hp:p < (toB B i).length
 e:(toB B i).getD p default=nmB B t
 new:∀ j,j<B.length->nmB B j≠s
section
variable {B:List Lt.Block} {w:Lt.way} {s:List UInt8} {i p t:Nat} (g:Gd B) (h:Sp1 B w s i p t)
include g h
theorem nw:(Lt.ak B w s).length=B.length+1:=rJ B w s
theorem lk {j:Nat} (hj:j<B.length):nmB (Lt.ak B w s) j=nmB B j:=(rF B w s j hj).1
theorem zV:(Lt.ak B w s).getD B.length default=⟨s,[],[],⟨1,⟨0,[],0⟩,[nmB B t],0⟩⟩:=by
 unfold Lt.ak;dsimp only;rw [List.getD,TQ (by simp)];simp [h.ew];rfl
theorem kH:nmB (Lt.ak B w s) B.length=s:=by unfold Lt.nmB; rw [zV g h]
theorem n6:toB (Lt.ak B w s) B.length=[nmB B t]:=by unfold Lt.toB; rw [zV g h]
theorem LS {j:Nat} (hj:j<B.length):(Lt.ak B w s).getD j default=((B.set t (Lt.dn (nmB B i) s (B.getD t default))).set i (Lt.wD p s ((B.set t (Lt.dn (nmB B i) s (B.getD t default))).getD i default))).getD j default:=by
 unfold Lt.ak;dsimp only;rw [List.getD,T1 (by simpa using hj)];rw [h.ew];rfl
theorem kz {j:Nat} (hj:j<B.length):toB (Lt.ak B w s) j=if j=i then (toB B i).set p s else toB B j:=by
 have key:∀ j,((B.set t (Lt.dn (nmB B i) s (B.getD t default))).getD j default).End.To=toB B j:=fun j=>by
  by_cases e:t=j
  ·subst e; rw [dl _ h.ht]; rfl
  ·rw [List.getD,SW e]; rfl
 unfold Lt.toB;rw [LS g h hj];split
 ·rename_i e;subst e;rw [dl _ (by simpa using hj)];unfold Lt.wD;dsimp only;rw [key]
 ·rename_i e;rw [List.getD,SW (fun e'=>e e'.symm)];exact key j
theorem GQ {j:Nat} (hj:j<B.length):((Lt.ak B w s).getD j default).Phis=if j=t then (B.getD t default).Phis.map (Lt.dt (nmB B i) s) else (B.getD j default).Phis:=by
 have key:∀ j,((B.set t (Lt.dn (nmB B i) s (B.getD t default))).getD j default).Phis=if j=t then (B.getD t default).Phis.map (Lt.dt (nmB B i) s) else (B.getD j default).Phis:=fun j=>by
  split
  ·rename_i e; subst e; rw [dl _ h.ht]; rfl
  ·rename_i e; rw [List.getD,SW (fun e'=>e e'.symm)]; rfl
 rw [LS g h hj];by_cases e:j=i
 ·subst e;rw [dl _ (by simpa using hj)];exact key j
 ·rw [List.getD,SW (fun e'=>e e'.symm)];exact key j
theorem Mn:(toB B i)[p]'h.hp=nmB B t:=by
 have e:=h.e
 rw [List.getD,SK h.hp] at e;exact e
theorem Ex {j:Nat} (hj:j<B.length):s ∉ toB B j:=fun hs=>by
 obtain ⟨k,a,_,c⟩:=g.tr j hj s hs;exact h.new k a c
theorem eV {x:List UInt8}:x∈(toB B i).set p s ↔ x=s\/(x∈toB B i/\x≠nmB B t):=by
 have nd:=g.tn i h.hi
 have hat:=Mn g h
 have hno:=Ex g h h.hi
 rw [T6];constructor
 ·rintro ⟨q,hq,rfl⟩
  rw [S3] at hq;rw [List.getElem_set];split
  ·exact .inl rfl
  ·rename_i hne;refine .inr ⟨Tk _,fun e=>hne ?_⟩;exact (List.getElem_inj nd).1 (hat.trans e.symm)
 ·rintro (rfl | ⟨hx,hne⟩)
  ·exact ⟨p,by rw [S3]; exact h.hp,by rw [List.getElem_set_self]⟩
  ·obtain ⟨q,hq,rfl⟩:=T6.1 hx;refine ⟨q,by rw [S3]; exact hq,?_⟩;rw [List.getElem_set_ne];intro e; subst e; exact hne hat
theorem Sb:((toB B i).set p s).Nodup:=by
 have nd:=g.tn i h.hi
 have hno:=Ex g h h.hi
 refine List.pairwise_iff_getElem.2 fun a b ha hb hab=>?_
 rw [S3] at ha hb;rw [List.getElem_set,List.getElem_set];split
 ·split
  ·omega
  ·intro e; exact hno (e ▸ Tk _)
 ·split
  ·intro e; exact hno (e ▸ Tk _)
  ·exact (List.pairwise_iff_getElem.1 nd) a b ha hb hab
theorem Pj:t≠0:=by
 obtain ⟨k,a,b,c⟩:=g.tr i h.hi (nmB B t) (by rw [<- Mn g h]; exact Tk _);have:=g.nd k t a h.ht c
 omega
theorem Pk:Gd (Lt.ak B w s):=by
 have hl:=nw g h
 have hcase:∀ j,j < (Lt.ak B w s).length->j<B.length\/j=B.length:=fun j hj=>by omega
 refine ⟨by omega,fun a b ha hb e=>?_,fun a ha=>?_,fun a ha x hx=>?_,fun k hk=>?_⟩
 ·rcases hcase a ha with h1 | h1 <;> rcases hcase b hb with h2 | h2
  ·rw [lk g h h1,lk g h h2] at e; exact g.nd a b h1 h2 e
  ·subst h2; rw [lk g h h1,kH g h] at e; exact absurd e (h.new a h1)
  ·subst h1; rw [lk g h h2,kH g h] at e; exact absurd e.symm (h.new b h2)
  ·omega
 ·rcases hcase a ha with h1 | h1
  ·rw [kz g h h1];split
   ·exact Sb g h
   ·exact g.tn a h1
  ·subst h1; rw [n6 g h]; simp
 ·have old:∀ x,(∃ k,k<B.length/\k≠0/\nmB B k=x)->∃ k,k < (Lt.ak B w s).length/\k≠0/\nmB (Lt.ak B w s) k=x:=fun x ⟨k,a,b,c⟩=>⟨k,by omega,b,by rw [lk g h a]; exact c⟩
  rcases hcase a ha with h1 | h1
  ·rw [kz g h h1] at hx;split at hx
   ·rcases (eV g h).1 hx with rfl | ⟨hx,_⟩
    ·exact ⟨B.length,by omega,by have:=g.ps; omega,kH g h⟩
    ·exact old x (g.tr i h.hi x hx)
   ·exact old x (g.tr a h1 x hx)
  ·subst h1;rw [n6 g h,SY] at hx;subst hx;exact old _ ⟨t,h.ht,Pj g h,rfl⟩
 ·have old:∀ k,Rc B k->Rc (Lt.ak B w s) k/\k<B.length:=by
   intro k hr;induction hr with
   | first hp=>exact ⟨.first (by omega),hp⟩
   | next a k ha hal hk hm ih=>
    refine ⟨?_,hk⟩;by_cases e:a=i/\k=t
    ·obtain ⟨rfl,rfl⟩:=e;have mid:Rc (Lt.ak B w s) B.length:=.next a B.length ih.1 (by omega) (by omega) (by rw [kH g h,kz g h hal,if_pos rfl]; exact (eV g h).2 (.inl rfl))
     exact .next B.length k mid (by omega) (by omega) (by rw [n6 g h,lk g h hk]; simp)
    ·refine .next a k ih.1 (by omega) (by omega) ?_;rw [lk g h hk,kz g h hal];split
     ·rename_i e2;subst e2;exact (eV g h).2 (.inr ⟨hm,fun e3=>e ⟨rfl,g.nd k t hk h.ht e3⟩⟩)
     ·exact hm
  rcases hcase k hk with h1 | h1
  ·exact (old k (g.re k h1)).1
  ·subst h1;have:=h.hi
   refine .next i B.length (old i (g.re i h.hi)).1 (by omega) (by omega) ?_;rw [kH g h,kz g h h.hi,if_pos rfl]; exact (eV g h).2 (.inl rfl)
theorem LK {k:Nat} (hk:k<B.length):oV (Lt.ak B w s) (nmB B k)=oV B (nmB B k):=by
 unfold oV;rw [nw g h,Ui,List.countP_append,List.countP_singleton,n6 g h];have hks:nmB B k≠s:=h.new k hk
 by_cases e:k=t
 ·subst e;have k1:∀ j,j<B.length->j≠i->decide (nmB B k∈toB B j)=decide (nmB B k∈toB (Lt.ak B w s) j):=fun j hj hne=>by rw [kz g h hj,if_neg hne]
  have k2:decide (nmB B k∈toB B i)=true:=by
   rw [decide_eq_true_eq,<- Mn g h];exact Tk _
  have k3:decide (nmB B k∈toB (Lt.ak B w s) i)=false:=by
   rw [decide_eq_false_iff_not,kz g h h.hi,if_pos rfl,eV g h];rintro (e | ⟨_,e⟩)
   ·exact hks e
   ·exact e rfl
  have key:=rz (p:=fun j=>decide (nmB B k∈toB B j)) (q:=fun j=>decide (nmB B k∈toB (Lt.ak B w s) j)) h.hi k1 k2 k3
  rw [<- key];simp
 ·have hne:nmB B k≠nmB B t:=fun e'=>e (g.nd k t hk h.ht e')
  rw [lz (q:=fun j=>decide (nmB B k∈toB B j)) (fun j hj=>?_)]
  ·simp [hne]
  ·rw [decide_eq_decide,kz g h hj];split
   ·rename_i e2;subst e2;rw [eV g h];exact ⟨fun h'=>h'.elim (fun e=>absurd e hks) (·.1),fun h'=>.inr ⟨h',hne⟩⟩
   ·exact Iff.rfl
theorem OA:oV (Lt.ak B w s) s<=1:=by
 unfold oV;rw [nw g h];refine uF (i:=i) fun j hj hs=>?_
 have hs:s∈toB (Lt.ak B w s) j:=of_decide_eq_true hs
 rcases S0 j B.length with h1 | h1
 ·rw [kz g h h1] at hs;split at hs
  ·assumption
  ·exact absurd hs (Ex g h h1)
 ·obtain rfl:j=B.length:=by omega
  rw [n6 g h,SY] at hs;exact absurd hs.symm (h.new t h.ht)
end
end Go.Am
end

section
namespace Go.Am
open Go
open Lt (nmB toB Gd Rc)
theorem Gc {f:Lt.Func} (g:Gd f.Blocks) {i q:Nat} (hi:i<f.Blocks.length) (hq:q < (toB f.Blocks i).length):∃ t,t<f.Blocks.length/\t≠0/\(toB f.Blocks i).getD q default=nmB f.Blocks t:=by
 have e:(toB f.Blocks i).getD q default=(toB f.Blocks i)[q]:=by rw [List.getD,SK hq]; rfl
 obtain ⟨t,a,b,c⟩:=g.tr i hi _ (Tk hq);exact ⟨t,a,b,e.trans c.symm⟩
theorem Rb {f:Lt.Func} (g:Gd f.Blocks) {w:Lt.way} (hw:w∈Lt.aq f) {s:List UInt8} (hs:∀ j,j<f.Blocks.length->nmB f.Blocks j≠s):∃ i p t,Sp1 f.Blocks w s i p t:=by
 unfold Lt.aq at hw;obtain ⟨i,hi,hw⟩:=List.mem_flatMap.1 hw;have hi:=Tm.1 hi
 unfold Lt.dp at hw;split at hw
 ·simp at hw
 ·obtain ⟨p,hp,hw⟩:=List.mem_filterMap.1 hw;have hp:p < (toB f.Blocks i).length:=Tm.1 hp
  obtain ⟨t,ht,_,e⟩:=Gc g hi hp;rw [oZ g ht e] at hw;split at hw
  ·exact ⟨i,p,t,(Option.some.inj hw).symm,hi,ht,hp,e,hs⟩
  ·cases hw
theorem oD {α β:Type} {F G:α->List β}:∀ {l:List α},(∀ x∈l,F x=G x)->l.flatMap F=l.flatMap G
 | [],_=>rfl
 | x::r,h=>by rw [Ty,Ty,h x (by simp),oD (fun y hy=>h y (by simp [hy]))]
theorem l7 {α β:Type} {F G:α->Option β}:∀ {l:List α},(∀ x∈l,F x=G x)->l.filterMap F=l.filterMap G
 | [],_=>rfl
 | x::r,h=>by rw [Ue,Ue,h x (by simp),l7 (fun y hy=>h y (by simp [hy]))]
theorem xw {α:Type} [DecidableEq α] {a s:α}:∀ {l:List α},l.Nodup->s ∉ l->(l.map fun b=>if b=a then s else b).Nodup
 | [],_,_=>by simp
 | x::r,h,hs=>by
  obtain ⟨h1,h2⟩:=Ti.1 h;have hs2:s ∉ r:=fun e=>hs (by simp [e])
  have hsx:s≠x:=fun e=>hs (by simp [e])
  rw [List.map_cons,Ti];refine ⟨fun hm=>?_,xw h2 hs2⟩;obtain ⟨y,hy,e⟩:=S9.1 hm;split at e
  ·rename_i e1;split at e
   ·rename_i e2; exact h1 (e2.trans e1.symm ▸ hy)
   ·exact hsx e
  ·split at e
   ·exact hs2 (e ▸ hy)
   ·exact h1 (e ▸ hy)
theorem GS {α:Type} {F:Nat->List α} {P:Nat->Bool} {N:Nat->α}:∀ {l:List Nat},(∀ i∈l,F i=if P i=true then [N i] else [])->l.flatMap F=(l.filter P).map N
 | [],_=>rfl
 | x::r,h=>by
  rw [Ty,h x (by simp),GS (fun y hy=>h y (by simp [hy]))];by_cases e:P x=true
  ·rw [if_pos e,List.filter_cons_of_pos e]; rfl
  ·rw [if_neg e,Uw e]; rfl
def apart (a b:Lt.way):Prop:=¬ (a.from_=b.from_/\a.at_=b.at_)
theorem pT {f:Lt.Func} {i k:Nat} {w:Lt.way} (h:Lt.gC f i k=some w):w.from_=(i:Int)/\w.at_=(k:Int):=by
 unfold Lt.gC at h;dsimp only at h;split at h
 ·obtain rfl:=Option.some.inj h; exact ⟨rfl,rfl⟩
 ·cases h
theorem rT {f:Lt.Func} {i:Nat} {w:Lt.way} (h:w∈Lt.dp f i):w.from_=(i:Int):=by
 unfold Lt.dp at h;split at h
 ·simp at h
 ·obtain ⟨k,_,h⟩:=List.mem_filterMap.1 h;exact (pT h).1
theorem Dq (f:Lt.Func):(Lt.aq f).Pairwise apart:=by
 unfold Lt.aq;rw [List.pairwise_flatMap];refine ⟨fun i _=>?_,List.pairwise_lt_range.imp fun {a b} hab x hx y hy=>?_⟩
 ·unfold Lt.dp;split
  ·exact .nil
  ·rw [List.pairwise_filterMap];exact List.pairwise_lt_range.imp fun {a b} hab x hx y hy=>by
    have h1:=(pT hx).2
    have h2:=(pT hy).2
    rintro ⟨_,e⟩
    omega
 ·have h1:=rT hx
  have h2:=rT hy
  rintro ⟨e,_⟩
  omega
def keep (w:Lt.way) (v:Lt.way):Bool:=!(decide (v.from_=w.from_)&&decide (v.at_=w.at_))
theorem ID {w:Lt.way} {r:List Lt.way} (h:(w::r).Pairwise apart):(w::r).filter (keep w)=r:=by
 rw [Uw (by simp [keep])];refine List.filter_eq_self.2 fun v hv=>?_
 have:=(List.pairwise_cons.1 h).1 v hv
 unfold keep;rw [TM,Bool.and_eq_false_iff,decide_eq_false_iff_not,decide_eq_false_iff_not];by_cases e:v.from_=w.from_
 ·exact .inr fun e2=>this ⟨e.symm,e2.symm⟩
 ·exact .inl e
theorem IG {f:Lt.Func} (g:Gd f.Blocks) {w:Lt.way} {s:List UInt8} {i p t:Nat} (h:Sp1 f.Blocks w s i p t):Lt.aq (fB f (Lt.ak f.Blocks w s))=(Lt.aq f).filter (keep w):=by
 have g':Gd (fB f (Lt.ak f.Blocks w s)).Blocks:=Pk g h
 have hl:(fB f (Lt.ak f.Blocks w s)).Blocks.length=f.Blocks.length+1:=nw g h
 unfold Lt.aq;rw [hl,Ui,List.flatMap_append,List.filter_flatMap];have last:Lt.dp (fB f (Lt.ak f.Blocks w s)) f.Blocks.length=[]:=by
  unfold Lt.dp;rw [if_pos];show (toB (Lt.ak f.Blocks w s) f.Blocks.length).length < 2
  rw [n6 g h]; simp
 rw [List.flatMap_singleton,last,TV];refine oD fun j hj=>?_
 have hj:=Tm.1 hj
 unfold Lt.dp;have elen:(Lt.bY (fB f (Lt.ak f.Blocks w s)) j).length=(Lt.bY f j).length:=by
  show (toB (Lt.ak f.Blocks w s) j).length=(toB f.Blocks j).length
  rw [kz g h hj];split
  ·rename_i e; subst e; simp
  ·rfl
 rw [elen];split
 ·rfl
 ·rw [List.filter_filterMap];refine l7 fun q hq=>?_
  have hq:q < (toB f.Blocks j).length:=Tm.1 hq
  obtain ⟨u,hu,_,e⟩:=Gc g hj hq;rw [oZ g hu e];by_cases hc:j=i/\q=p
  ·obtain ⟨rfl,rfl⟩:=hc;have e2:(toB (fB f (Lt.ak f.Blocks w s)).Blocks j).getD q default=nmB (fB f (Lt.ak f.Blocks w s)).Blocks f.Blocks.length:=by
    rw [show nmB (fB f (Lt.ak f.Blocks w s)).Blocks f.Blocks.length=s from kH g h];rw [show toB (fB f (Lt.ak f.Blocks w s)).Blocks j=(toB f.Blocks j).set q s from by rw [show toB (fB f (Lt.ak f.Blocks w s)).Blocks j=_ from kz g h hj,if_pos rfl]];exact dl _ hq _ _
   rw [oZ g' (by rw [hl]; omega) e2];rw [show nmB (fB f (Lt.ak f.Blocks w s)).Blocks f.Blocks.length=s from kH g h];have hc1:oV (fB f (Lt.ak f.Blocks w s)).Blocks s<=1:=OA g h
   rw [if_neg (by omega)];split
   ·show none=Option.filter (keep w) (some _)
    rw [Option.filter_some,if_neg (by simp [keep,h.ew])]
   ·rfl
  ·have e2:(toB (fB f (Lt.ak f.Blocks w s)).Blocks j).getD q default=nmB (fB f (Lt.ak f.Blocks w s)).Blocks u:=by
    rw [show nmB (fB f (Lt.ak f.Blocks w s)).Blocks u=nmB f.Blocks u from lk g h hu,<- e];rw [show toB (fB f (Lt.ak f.Blocks w s)).Blocks j=_ from kz g h hj];split
    ·rename_i e3;subst e3;rw [List.getD,SW (fun e4=>hc ⟨rfl,e4.symm⟩)]; rfl
    ·rfl
   rw [oZ g' (by rw [hl]; omega) e2];rw [show nmB (fB f (Lt.ak f.Blocks w s)).Blocks u=nmB f.Blocks u from lk g h hu];rw [show oV (fB f (Lt.ak f.Blocks w s)).Blocks (nmB f.Blocks u)=oV f.Blocks (nmB f.Blocks u) from LK g h hu];split
   ·show some _=Option.filter (keep w) (some _)
    rw [Option.filter_some,if_pos];simp only [keep,h.ew,TM,Bool.and_eq_false_iff,decide_eq_false_iff_not];by_cases e3:j=i
    ·exact .inr fun e4=>hc ⟨e3,by omega⟩
    ·exact .inl (by omega)
   ·rfl
theorem FT:∀ (r:List Lt.In) (l:List (List UInt8)),Lt.oe l r=true ↔ (r.map (·.Block)).Nodup/\∀ b∈r.map (·.Block),b∈l
 | [],l=>by simp [Lt.oe]
 | x::r,l=>by
  unfold Lt.oe;rw [SL,decide_eq_true_eq,FT r,List.map_cons,Ti];constructor
  ·rintro ⟨h1,h2,h3⟩
   refine ⟨⟨fun hm=>?_,h2⟩,fun b hb=>?_⟩
   ·have:=h3 _ hm
    simp at this
   ·rcases SS.1 hb with rfl | hb
    ·exact h1
    ·exact (Uj.1 (h3 b hb)).1
  ·rintro ⟨⟨h1,h2⟩,h3⟩
   refine ⟨h3 _ (by simp),h2,fun b hb=>Uj.2 ⟨h3 b (by simp [hb]),?_⟩⟩;simp only [TM,decide_eq_false_iff_not];rintro rfl; exact h1 hb
theorem xH (x:Lt.Phi) (l:List (List UInt8)):Lt.gW x l=true ↔ x.Ins.length=l.length/\(x.Ins.map (·.Block)).Nodup/\∀ b∈x.Ins.map (·.Block),b∈l:=by
 unfold Lt.gW;rw [SL,decide_eq_true_eq,FT];constructor <;> rintro ⟨h,h2⟩ <;> exact ⟨by omega,h2⟩
theorem EN {s:List UInt8} {b:Lt.Block} (h:b.End.To.Nodup):Lt.Jc s b=if s∈b.End.To then [b.Name] else []:=by
 unfold Lt.Jc;have:b.End.To.filter (fun n=>decide (n=s))=if s∈b.End.To then [s] else []:=by
  generalize b.End.To=l at h;induction l with
  | nil=>rfl
  | cons a r ih=>
   obtain ⟨h1,h2⟩:=Ti.1 h;by_cases e:a=s
   ·subst e;rw [List.filter_cons_of_pos (by simp),ih h2,if_neg h1,if_pos (by simp)]
   ·rw [Uw (by simpa using e),ih h2];have:s∈a::r ↔ s∈r:=by rw [SS]; exact ⟨fun h=>h.elim (fun e'=>absurd e'.symm e) id,.inr⟩
    simp only [this]
 rw [this];split <;> rfl
theorem Mk {B:List Lt.Block} (g:Gd B) (s:List UInt8):Lt.frm B s=((List.range B.length).filter fun i=>decide (s∈toB B i)).map (nmB B):=by
 have e:B=(List.range B.length).map fun i=>B.getD i default:=by
  refine List.ext_getElem (by simp) fun n h1 h2=>?_
  rw [List.getElem_map,List.getElem_range,List.getD,SK h1]; rfl
 unfold Lt.frm
 conv=>lhs; rw [e]
 rw [List.flatMap_map];refine GS fun i hi=>?_
 have hi:=Tm.1 hi
 rw [EN (g.tn i hi)];simp only [decide_eq_true_eq]
theorem GV {B:List Lt.Block} (g:Gd B) (s:List UInt8):(Lt.frm B s).length=oV B s:=by
 rw [Mk g,List.length_map,<- List.countP_eq_length_filter]; rfl
theorem FI {B:List Lt.Block} (g:Gd B) (s x:List UInt8):x∈Lt.frm B s ↔ ∃ j,j<B.length/\s∈toB B j/\nmB B j=x:=by
 rw [Mk g,S9];constructor
 ·rintro ⟨j,hj,e⟩
  obtain ⟨a,b⟩:=Uj.1 hj;exact ⟨j,Tm.1 a,of_decide_eq_true b,e⟩
 ·rintro ⟨j,a,b,e⟩
  exact ⟨j,Uj.2 ⟨Tm.2 a,decide_eq_true b⟩,e⟩
def PhR (B:List Lt.Block):Prop:=(B.getD 0 default).Phis=[]/\∀ i,i<B.length->∀ x∈(B.getD i default).Phis,x.Ins.length=oV B (nmB B i)/\(x.Ins.map (·.Block)).Nodup/\∀ b∈x.Ins.map (·.Block),∃ j,j<B.length/\nmB B i∈toB B j/\nmB B j=b
theorem sU {f:Lt.Func} (g:Gd f.Blocks):Lt.iK f=true ↔ PhR f.Blocks:=by
 unfold Lt.iK PhR;rw [SQ];have key:∀ i,Lt.qO f.Blocks i=true ↔ (i=0->(f.Blocks.getD i default).Phis=[])/\∀ x∈(f.Blocks.getD i default).Phis,x.Ins.length=oV f.Blocks (nmB f.Blocks i)/\(x.Ins.map (·.Block)).Nodup/\∀ b∈x.Ins.map (·.Block),∃ j,j<f.Blocks.length/\nmB f.Blocks i∈toB f.Blocks j/\nmB f.Blocks j=b:=fun i=>by
  unfold Lt.qO;rw [SL,SQ];refine and_congr ?_ ⟨fun h x hx=>?_,fun h x hx=>?_⟩
  ·simp only [TM,Bool.and_eq_false_iff,decide_eq_false_iff_not];constructor
   ·intro h e;rcases h with h | h
    ·exact absurd e h
    ·exact T2 (by omega)
   ·intro h;by_cases e:i=0
    ·right; rw [h e]; simp
    ·exact .inl e
  ·obtain ⟨a,b,c⟩:=(xH x _).1 (h x hx);exact ⟨a.trans (GV g _),b,fun y hy=>(FI g _ _).1 (c y hy)⟩
  ·obtain ⟨a,b,c⟩:=h x hx;exact (xH x _).2 ⟨a.trans (GV g _).symm,b,fun y hy=>(FI g _ _).2 (c y hy)⟩
 constructor
 ·intro h;exact ⟨((key 0).1 (h 0 (Tm.2 g.ps))).1 rfl,fun i hi=>((key i).1 (h i (Tm.2 hi))).2⟩
 ·intro h i hi;exact (key i).2 ⟨fun e=>by subst e; exact h.1,h.2 i (Tm.1 hi)⟩
theorem Jk {B:List Lt.Block} {w:Lt.way} {s:List UInt8} {i p t:Nat} (g:Gd B) (h:Sp1 B w s i p t) (hp:PhR B):PhR (Lt.ak B w s):=by
 have hl:=nw g h
 refine ⟨?_,fun j hj x hx=>?_⟩
 ·rw [GQ g h g.ps,if_neg (fun e=>Pj g h e.symm)]; exact hp.1
 ·rcases S0 j B.length with hj | hj
  rotate_left
  ·obtain rfl:j=B.length:=by omega
   rw [zV g h] at hx; simp at hx
  rw [lk g h hj,LK g h hj];have away:∀ b,b≠nmB B i\/j≠t->(∃ k,k<B.length/\nmB B j∈toB B k/\nmB B k=b)->∃ k,k < (Lt.ak B w s).length/\nmB B j∈toB (Lt.ak B w s) k/\nmB (Lt.ak B w s) k=b:=by
   rintro b hb ⟨k,k1,k2,k3⟩
   refine ⟨k,by omega,?_,(lk g h k1).trans k3⟩;rw [kz g h k1];split
   ·rename_i e;subst e;refine (eV g h).2 (.inr ⟨k2,fun e=>?_⟩);have:=g.nd j t hj h.ht e
    rcases hb with hb | hb
    ·exact hb k3.symm
    ·exact hb this
   ·exact k2
  rw [GQ g h hj] at hx;split at hx
  ·rename_i e;subst e;obtain ⟨y,hy,rfl⟩:=S9.1 hx;obtain ⟨a1,a2,a3⟩:=hp.2 j hj y hy;have hno:s ∉ y.Ins.map (·.Block):=fun hs=>by
    obtain ⟨k,k1,_,k3⟩:=a3 s hs;exact h.new k k1 k3
   have eb:(y.Ins.map (Lt.iR (nmB B i) s)).map (·.Block)=(y.Ins.map (·.Block)).map fun b=>if b=nmB B i then s else b:=by
    rw [SX,SX];refine S1 fun y _=>?_
    simp only [Function.comp,Lt.iR];split <;> rfl
   unfold Lt.dt;dsimp only;rw [eb,List.length_map];refine ⟨a1,xw a2 hno,fun b hb=>?_⟩
   ·obtain ⟨c,hc,rfl⟩:=S9.1 hb;split
    ·refine ⟨B.length,by omega,?_,kH g h⟩;rw [n6 g h]; simp
    ·rename_i hne;exact away c (.inl hne) (a3 c hc)
  ·rename_i hne;obtain ⟨a1,a2,a3⟩:=hp.2 j hj x hx;exact ⟨a1,a2,fun b hb=>away b (.inr hne) (a3 b hb)⟩
def LsB (B:List Lt.Block):Prop:=∀ b∈B,b.End.To.length<=1000/\b.Phis.length<=1000000/\∀ p∈b.Phis,p.Ins.length<=1000000
theorem LsB.set {B:List Lt.Block} (h:LsB B) {i:Nat} {b:Lt.Block} (hb:b.End.To.length<=1000/\b.Phis.length<=1000000/\∀ p∈b.Phis,p.Ins.length<=1000000):LsB (B.set i b):=fun x hx=>by
 rcases List.mem_or_eq_of_mem_set hx with hx | rfl
 ·exact h x hx
 ·exact hb
theorem LsB.at {B:List Lt.Block} (h:LsB B) (i:Nat):(B.getD i default).End.To.length<=1000/\(B.getD i default).Phis.length<=1000000/\∀ p∈(B.getD i default).Phis,p.Ins.length<=1000000:=by
 rcases S0 i B.length with hi | hi
 ·exact h _ (bQ _ hi)
 ·rw [List.getD,SZ hi];exact ⟨Tf _,Tf _,fun p hp=>by cases hp⟩
theorem MT {B:List Lt.Block} (h:LsB B) (w:Lt.way) (s:List UInt8):LsB (Lt.ak B w s):=by
 unfold Lt.ak;dsimp only;have h1:LsB (B.set w.to.toNat (Lt.dn (B.getD w.from_.toNat default).Name s (B.getD w.to.toNat default))):=by
  refine h.set ?_;obtain ⟨a,b,c⟩:=h.at w.to.toNat;refine ⟨a,by show (List.map _ _).length<=_; rw [List.length_map]; exact b,fun p hp=>?_⟩;obtain ⟨q,hq,rfl⟩:=S9.1 hp;show (List.map _ _).length<=_
  rw [List.length_map]; exact c q hq
 intro b hb;rcases Tj.1 hb with hb | hb
 ·refine h1.set (b:=Lt.wD w.at_.toNat s _) ?_ b hb;obtain ⟨a,b,c⟩:=h1.at w.from_.toNat;exact ⟨by show (List.set _ _ _).length<=_; rw [S3]; exact a,b,c⟩
 ·obtain rfl:=SY.1 hb;exact ⟨by simp,by simp,fun p hp=>by cases hp⟩
theorem xW (f:Lt.Func):∀ (ws:List Lt.way) (K:List (List UInt8)) (B:List Lt.Block),Gd B->Lt.aq (fB f B)=ws->(∀ j,j<B.length->nmB B j∈K)->LsB B ->
  Gd (ws.foldl Lt.bM (K,B)).2/\Lt.aq (fB f (ws.foldl Lt.bM (K,B)).2)=[]/\(PhR B->PhR (ws.foldl Lt.bM (K,B)).2)/\LsB (ws.foldl Lt.bM (K,B)).2/\(ws.foldl Lt.bM (K,B)).2.length=B.length+ws.length
 | [],K,B,g,e,hK,hB=>⟨g,e,id,hB,rfl⟩
 | w::r,K,B,g,e,hK,hB=>by
  have hs:∀ j,j<B.length->nmB B j≠Lt.fM K:=fun j hj e=>tE K [115] (by have:=hK j hj; rw [e] at this; exact this)
  obtain ⟨i,p,t,h⟩:=Rb (f:=fB f B) g (w:=w) (by rw [e]; simp) hs;have h:Sp1 B w (Lt.fM K) i p t:=h
  have ap:=Dq (fB f B)
  rw [e] at ap;have st:=IG (f:=fB f B) g h
  rw [e,ID ap] at st;have hK2:∀ j,j < (Lt.ak B w (Lt.fM K)).length->nmB (Lt.ak B w (Lt.fM K)) j∈K++[Lt.fM K]:=by
   intro j hj;rw [nw g h] at hj;rcases S0 j B.length with hj | hj
   ·rw [lk g h hj]; exact List.mem_append_left _ (hK j hj)
   ·obtain rfl:j=B.length:=by omega
    rw [kH g h]; simp
  obtain ⟨a1,a2,a3,a4,a5⟩:=xW f r (K++[Lt.fM K]) (Lt.ak B w (Lt.fM K)) (Pk g h) st hK2 (MT hB w _);refine ⟨a1,a2,fun hp=>a3 (Jk g h hp),a4,?_⟩;have:=nw g h
  simp only [List.foldl_cons,SU];have a5:(List.foldl Lt.bM (Lt.bM (K,B) w) r).2.length=_:=a5
  rw [a5,this]; omega
end Go.Am
end

section
namespace Go.Am
open Go
theorem JS {α:Type} [Inhabited α] [DecidableEq α] (a b:List α) (hl:a.length<=LEN) (hlen:a.length=b.length) (rest:Bool) (KK:Bool->Prop) (body:(Int->Prop)->Int->Prop)
  (hs:∀ R i,i<a.length->(a.getD i default=b.getD i default->R (IntKind.i64.wrap ((i:Int)+1)))->(a.getD i default≠b.getD i default->KK false)->body R (i:Int))
  (he:∀ R,KK rest->body R (a.length:Int)) (h:KK (decide (a=b)&&rest)):ax body 0:=by
 refine aN body a.length (fun i x=>x=(i:Int)/\KK (decide (a.drop i=b.drop i)&&rest)) (fun R i x hi hx ih=>?_) (fun R x hx=>?_) _ ⟨rfl,by simpa using h⟩
 ·obtain ⟨rfl,h⟩:=hx;have hb:i<b.length:=by omega
  rw [Tr hi,Tr hb] at h;have ea:a.getD i default=a[i]:=by rw [List.getD,SK hi]; rfl
  have eb:b.getD i default=b[i]:=by rw [List.getD,SK hb]; rfl
  refine hs _ i hi (fun e=>?_) (fun e=>?_)
  ·refine ih _ ⟨aw (by unfold LEN at hl; omega),?_⟩;rw [ea,eb] at e;simp only [e,List.cons.injEq,true_and] at h;exact h
  ·rw [ea,eb] at e;simp only [List.cons.injEq,e,false_and,decide_false,Ua] at h;exact h
 ·obtain ⟨rfl,h⟩:=hx;rw [T7,hlen,T7] at h;exact he _ (by simpa using h)
theorem cK {α:Type} [Inhabited α] [DecidableEq α] (a b:List α) (hlen:a.length=b.length) (rest:Bool) (KK:Bool->Prop) (body:(Int->Prop)->Int->Prop)
  (hs:∀ R i,a.length<=LEN->i<a.length->(a.getD i default=b.getD i default->R (IntKind.i64.wrap ((i:Int)+1)))->(a.getD i default≠b.getD i default->KK false)->body R (i:Int))
  (he:∀ R,KK rest->body R (a.length:Int)) (h:KK (decide (a=b)&&rest)):ax (fun R v=>a.length<=4611686018427387904->body R v) 0:=by
 by_cases hl:a.length<=LEN
 ·exact JS a b hl hlen rest KK _ (fun R i hi h1 h2 _=>hs R i hl hi h1 h2) (fun R h _=>he R h) h
 ·exact ⟨1,fun h=>absurd h hl⟩
theorem P2 (x y:Lt.Var):(decide (x.Name=y.Name)&&decide (x.Type_=y.Type_))=decide (x=y):=by
 obtain ⟨a,b⟩:=x; obtain ⟨c,d⟩:=y;by_cases h1:a=c <;> by_cases h2:b=d <;> simp [h1,h2]
theorem zp (x y:Lt.Arg):(decide (x.Kind=y.Kind)&&(decide (x.S=y.S)&&decide (x.N=y.N)))=decide (x=y):=by
 obtain ⟨a,b,c⟩:=x; obtain ⟨d,e,f⟩:=y;by_cases h1:a=d <;> by_cases h2:b=e <;> by_cases h3:c=f <;> simp [h1,h2,h3]
theorem NG (x y:Lt.Bind):(decide (x.Name=y.Name)&&(decide (x.A.Kind=y.A.Kind)&&(decide (x.A.S=y.A.S)&&decide (x.A.N=y.A.N))))=decide (x=y):=by
 rw [zp];obtain ⟨a,b⟩:=x; obtain ⟨c,d⟩:=y;by_cases h1:a=c <;> by_cases h2:b=d <;> simp [h1,h2]
theorem Rp (x y:Lt.In):(decide (x.Block=y.Block)&&(decide (x.A.Kind=y.A.Kind)&&(decide (x.A.S=y.A.S)&&decide (x.A.N=y.A.N))))=decide (x=y):=by
 rw [zp];obtain ⟨a,b⟩:=x; obtain ⟨c,d⟩:=y;by_cases h1:a=c <;> by_cases h2:b=d <;> simp [h1,h2]
theorem ob2 {α β:Type} {a:List α} {b:List β} {i:Nat} (h:i<a.length) (e:a.length=b.length):(0:Int)<=(i:Int)/\i<b.length:=⟨SR i,by omega⟩
theorem ym (a b:List Lt.Var) (KK:Bool->Prop) (h:KK (Lt.kA a b)):nT a b KK:=by
 unfold nT; (try simp only [eZ,eW,eT,jval,bor,band,bnand,bimp,and_self]);intro _ _;unfold Lt.kA at h;refine ifk (fun hc=>kk h (by grind)) (fun hc=>?_);have hlen:a.length=b.length:=by grind
 refine cK a b hlen true KK _ (fun R i hl hi ih hF=>?_) (fun R h=>?_) (kk h (by simp))
 ·simp only [cz hi,if_true,Int.toNat_natCast]
  try dsimp +instances only [Int.toNat_natCast]
  refine ⟨⟨SR i,hi⟩,ob2 hi hlen,?_⟩;rw [P2]
  grind
 ·simp only [wz,SV,if_false]; exact h
theorem yk (a b:List Lt.Arg) (KK:Bool->Prop) (h:KK (Lt.kq a b)):nU a b KK:=by
 unfold nU; (try simp only [eZ,eW,eT,jval,bor,band,bnand,bimp,and_self]);intro _ _;unfold Lt.kq at h;refine ifk (fun hc=>kk h (by grind)) (fun hc=>?_);have hlen:a.length=b.length:=by grind
 refine cK a b hlen true KK _ (fun R i hl hi ih hF=>?_) (fun R h=>?_) (kk h (by simp))
 ·simp only [cz hi,if_true,Int.toNat_natCast]
  try dsimp +instances only [Int.toNat_natCast]
  refine ⟨⟨SR i,hi⟩,ob2 hi hlen,?_⟩;rw [zp]
  grind
 ·simp only [wz,SV,if_false]; exact h
theorem wk (a b:Lt.Instr) (KK:Bool->Prop) (h:KK (Lt.j0 a b)):me a b KK:=by
 unfold me; dsimp only; (try simp only [eZ,eW,eT,jval,bor,band,bnand,bimp,and_self]);unfold Lt.j0 at h;unfold Lt.kq;refine ifk (fun hc=>kk h (by grind)) (fun hc=>?_);simp only [T5,TM,decide_eq_false_iff_not,not_or,Bool.not_eq_false,decide_eq_true_eq,Classical.not_not] at hc;obtain ⟨h1,h2,h3,h4,h5,h6⟩:=hc;have e:decide (a=b)=(decide (a.Frames=b.Frames)&&(decide (a.Objs=b.Objs)&&true)):=by
  obtain ⟨a1,a2,a3,a4,a5,a6⟩:=a; obtain ⟨b1,b2,b3,b4,b5,b6⟩:=b;dsimp only at h1 h2 h3 h4;subst h1; subst h2; subst h3; subst h4;by_cases g1:a5=b5 <;> by_cases g2:a6=b6 <;> simp [g1,g2]
 rw [e] at h;have hlF:a.Frames.length=b.Frames.length:=by omega
 have hlO:a.Objs.length=b.Objs.length:=by omega
 refine cK a.Frames b.Frames hlF _ KK _ (fun R i hl hi ih hF=>?_) (fun R h=>?_) h
 ·simp only [cz hi,if_true,Int.toNat_natCast]
  try dsimp +instances only [Int.toNat_natCast]
  refine ⟨⟨SR i,hi⟩,ob2 hi hlF,?_⟩;generalize a.Frames.getD i default=x at ih hF ⊢;generalize b.Frames.getD i default=y at ih hF ⊢;refine ifk (fun hc=>hF (by grind)) (fun hc=>?_);have hlV:x.Vars.length=y.Vars.length:=by grind
  refine cK x.Vars y.Vars hlV true (fun b=>if b=true then R (IntKind.i64.wrap ((i:Int)+1)) else KK false) _ (fun R2 j hl hj ih2 hF2=>?_) (fun R2 h=>?_) ?_
  ·simp only [cz hj,if_true,Int.toNat_natCast]
   try dsimp +instances only [Int.toNat_natCast]
   refine ⟨⟨SR j,hj⟩,ob2 hj hlV,?_⟩;rw [NG];simp only [SV,if_false] at hF2
   grind
  ·simp only [wz,SV,if_false]; simpa using h
  ·refine ifk (fun hv=>ih ?_) (fun hv=>hF ?_)
   ·obtain ⟨x1,x2,x3,x4⟩:=x; obtain ⟨y1,y2,y3,y4⟩:=y; grind
   ·grind
 ·simp only [wz,SV,if_false];refine cK a.Objs b.Objs hlO _ KK _ (fun R i hl hi ih hF=>?_) (fun R h=>?_) h
  ·simp only [cz hi,if_true,Int.toNat_natCast]
   try dsimp +instances only [Int.toNat_natCast]
   refine ⟨⟨SR i,hi⟩,ob2 hi hlO,?_⟩;have o1:(0:Int)<=(i:Int)/\i<a.Objs.length:=⟨SR i,hi⟩
   have o2:=ob2 hi hlO
   simp only [o1,o2,and_self,true_and]; (try simp only [eZ,eW,eT,jval,bor,band,bnand,bimp,and_self]);generalize a.Objs.getD i default=x at ih hF ⊢;generalize b.Objs.getD i default=y at ih hF ⊢;obtain ⟨x1,x2⟩:=x; obtain ⟨y1,y2⟩:=y
   grind
  ·simp only [wz,SV,if_false]; exact h
theorem wm (a b:Lt.Block) (KK:Bool->Prop) (h:KK (Lt.jY a b)):l9 a b KK:=by
 unfold l9; dsimp only; (try simp only [eZ,eW,eT,jval,bor,band,bnand,bimp,and_self]);unfold Lt.jY at h;rw [zp];refine ifk (fun hc=>kk h (by grind)) (fun hc=>?_);simp only [T5,TM,decide_eq_false_iff_not,not_or,Bool.not_eq_false,decide_eq_true_eq,Classical.not_not] at hc;obtain ⟨h1,h2,h3,h4,h5,h6,h7⟩:=hc;have e:decide (a=b)=(decide (a.End.To=b.End.To)&&(decide (a.Phis=b.Phis)&&(decide (a.Code=b.Code)&&true))):=by
  obtain ⟨a1,a2,a3,⟨a4,a5,a6,a7⟩⟩:=a; obtain ⟨b1,b2,b3,⟨b4,b5,b6,b7⟩⟩:=b;dsimp only at h1 h4 h5 h6;subst h1; subst h4; subst h5; subst h6;by_cases g1:a2=b2 <;> by_cases g2:a3=b3 <;> by_cases g3:a6=b6 <;> simp [g1,g2,g3]
 rw [e] at h;have hlT:a.End.To.length=b.End.To.length:=by omega
 have hlP:a.Phis.length=b.Phis.length:=by omega
 have hlC:a.Code.length=b.Code.length:=by omega
 refine cK a.End.To b.End.To hlT _ KK _ (fun R i hl hi ih hF=>?_) (fun R h=>?_) h
 ·simp only [cz hi,if_true,Int.toNat_natCast]
  try dsimp +instances only [Int.toNat_natCast]
  refine ⟨⟨SR i,hi⟩,ob2 hi hlT,?_⟩
  grind
 ·simp only [wz,SV,if_false];refine cK a.Phis b.Phis hlP _ KK _ (fun R i hl hi ih hF=>?_) (fun R h=>?_) h
  ·simp only [cz hi,if_true,Int.toNat_natCast]
   try dsimp +instances only [Int.toNat_natCast]
   have o1:(0:Int)<=(i:Int)/\i<a.Phis.length:=⟨SR i,hi⟩
   have o2:=ob2 hi hlP
   simp only [o1,o2,and_self,true_and]; (try simp only [eZ,eW,eT,jval,bor,band,bnand,bimp,and_self]);generalize a.Phis.getD i default=x at ih hF ⊢;generalize b.Phis.getD i default=y at ih hF ⊢;obtain ⟨x1,x2⟩:=x; obtain ⟨y1,y2⟩:=y;dsimp only;refine ifk (fun hc=>hF (by grind)) (fun hc=>?_);have hlV:x2.length=y2.length:=by grind
   refine cK x2 y2 hlV true (fun b=>if b=true then R (IntKind.i64.wrap ((i:Int)+1)) else KK false) _ (fun R2 j hl hj ih2 hF2=>?_) (fun R2 h=>?_) ?_
   ·simp only [cz hj,if_true,Int.toNat_natCast]
    try dsimp +instances only [Int.toNat_natCast]
    have p1:(0:Int)<=(j:Int)/\j<x2.length:=⟨SR j,hj⟩
    have p2:=ob2 hj hlV
    simp only [p1,p2,and_self,true_and];rw [Rp];simp only [SV,if_false] at hF2
    grind
   ·simp only [wz,SV,if_false]; simpa using h
   ·exact ifk (fun hv=>ih (by grind)) (fun hv=>hF (by grind))
  ·simp only [wz,SV,if_false];refine cK a.Code b.Code hlC _ KK _ (fun R i hl hi ih hF=>?_) (fun R h=>?_) h
   ·simp only [cz hi,if_true,Int.toNat_natCast]
    try dsimp +instances only [Int.toNat_natCast]
    refine ⟨⟨SR i,hi⟩,ob2 hi hlC,?_⟩;unfold Lt.j0
    grind
   ·simp only [wz,SV,if_false]; exact h
theorem yG (a b:Lt.Func) (KK:Bool->Prop) (h:KK (Lt.lX a b)):nQ a b KK:=by
 unfold nQ; dsimp only; (try simp only [eZ,eW,eT,jval,bor,band,bnand,bimp,and_self]);unfold Lt.lX at h;unfold Lt.kA;refine ifk (fun hc=>kk h (by grind)) (fun hc=>?_);simp only [T5,TM,decide_eq_false_iff_not,not_or,Bool.not_eq_false,decide_eq_true_eq,Classical.not_not] at hc;obtain ⟨h1,h2,h3,h4,h5⟩:=hc;have e:decide (a=b)=(decide (a.Blocks=b.Blocks)&&true):=by
  obtain ⟨a1,a2,a3,a4,a5⟩:=a; obtain ⟨b1,b2,b3,b4,b5⟩:=b;dsimp only at h1 h2 h3 h4;subst h1; subst h2; subst h3; subst h4;by_cases g1:a5=b5 <;> simp [g1]
 rw [e] at h;have hlB:a.Blocks.length=b.Blocks.length:=by omega
 refine cK a.Blocks b.Blocks hlB _ KK _ (fun R i hl hi ih hF=>?_) (fun R h=>?_) h
 ·simp only [cz hi,if_true,Int.toNat_natCast]
  try dsimp +instances only [Int.toNat_natCast]
  refine ⟨⟨SR i,hi⟩,ob2 hi hlB,?_⟩;generalize a.Blocks.getD i default=x at ih hF ⊢;generalize b.Blocks.getD i default=y at ih hF ⊢;obtain ⟨x1,x2,x3,⟨x4,x5,x6,x7⟩⟩:=x; obtain ⟨y1,y2,y3,⟨y4,y5,y6,y7⟩⟩:=y;unfold Lt.jY;dsimp only
  grind
 ·simp only [wz,SV,if_false]; exact h
end Go.Am
end

section
namespace Go.Am
open Go
open Lt (nmB toB Gd Rc)
theorem DO (f:Lt.Func) (hp:Lt.pO f) (KK:List Lt.Pair->Prop) (h:KK (Lt.jS f)):sY f KK:=by
 unfold sY;obtain ⟨hp,hn⟩:=hp;refine ⟨hp,fun _=>?_⟩;refine aN _ (Lt.aq f).length (fun i x=>x=(((Lt.aq f).take i).map (Lt.yR f),(i:Int))) (fun R i x hi hx ih=>?_) (fun R x hx=>?_) _ rfl
 ·subst hx;dsimp only;rw [if_pos (cz hi)];dsimp +instances only [Int.toNat_natCast]
  have hw:=Ll f _ (bQ _ hi)
  have htk:=bL (Lt.aq f) hi
  generalize (Lt.aq f).getD i default=w at hw htk;obtain ⟨⟨w1,w2⟩,⟨w3,w4⟩,w5,w6⟩:=hw;have hl:(((Lt.aq f).take i).map (Lt.yR f)).length<=1000000:=by rw [List.length_map,TF]; omega
  refine ⟨ob hi,⟨w1,by omega⟩,⟨w3,by omega⟩,⟨?_,?_⟩,ih _ ?_⟩
  ·simp only [SU,Te]; omega
  ·simp only [SU,Te]; omega
  ·rw [aw (by omega),htk,TP]; rfl
 ·subst hx;dsimp only;rw [if_neg (by simp),TI];exact h
theorem om {β:Type} (v:β):∀ (m:List (List UInt8×β)) (k0 k:List UInt8),aU .s (eh .s m k0 v) k=if k0=k then some v else aU .s m k
 | [],k0,k=>by
  simp only [eh,aU,lm];by_cases e:k0=k
  ·rw [if_pos e,decide_eq_true e]
  ·rw [if_neg e,decide_eq_false e]
 | x::l,k0,k=>by
  have ih:=om v l k0 k
  simp only [eh,aU,lm];by_cases e:x.1=k0
  ·rw [decide_eq_true e];simp only [aU,lm];by_cases e2:k0=k
   ·rw [if_pos e2,decide_eq_true e2]
   ·rw [if_neg e2,decide_eq_false e2,decide_eq_false (fun e3=>e2 (e.symm.trans e3))]
  ·rw [decide_eq_false e];simp only [aU,lm];by_cases e2:x.1=k
   ·rw [decide_eq_true e2,if_neg (fun e3=>e (e2.trans e3.symm))]
   ·rw [decide_eq_false e2]; exact ih
theorem GA {β:Type}:∀ (m:List (List UInt8×β)) (k:List UInt8),k ∉ m.map (·.1)->aU .s m k=none
 | [],_,_=>rfl
 | x::l,k,h=>by
  simp only [List.map_cons,SS,not_or] at h;simp only [aU,lm];rw [decide_eq_false (fun e=>h.1 e.symm)];exact GA l k h.2
theorem A9 {β:Type} (v:β):∀ (m:List (List UInt8×β)) (k0 x:List UInt8),x∈(eh .s m k0 v).map (·.1)->x=k0\/x∈m.map (·.1)
 | [],k0,x,h=>by simpa [eh] using h
 | y::l,k0,x,h=>by
  simp only [eh,lm] at h;by_cases e:y.1=k0
  ·rw [decide_eq_true e] at h;simp only [List.map_cons,SS] at h ⊢;exact h.elim .inl fun h=>.inr (.inr h)
  ·rw [decide_eq_false e] at h;simp only [List.map_cons,SS] at h ⊢;rcases h with h | h
   ·exact .inr (.inl h)
   ·exact (A9 v l k0 x h).elim .inl fun h=>.inr (.inr h)
theorem wX {β:Type} (v:β):∀ (m:List (List UInt8×β)) (k0:List UInt8),(m.map (·.1)).Nodup->((eh .s m k0 v).map (·.1)).Nodup
 | [],k0,_=>by simp [eh]
 | y::l,k0,h=>by
  obtain ⟨h1,h2⟩:=Ti.1 h;simp only [eh,lm];by_cases e:y.1=k0
  ·rw [decide_eq_true e];simp only [List.map_cons,Ti];exact ⟨e ▸ h1,h2⟩
  ·rw [decide_eq_false e];simp only [List.map_cons,Ti];refine ⟨fun hm=>?_,wX v l k0 h2⟩;rcases A9 v l k0 _ hm with h3 | h3
   ·exact e h3
   ·exact h1 h3
theorem AQ {β:Type}:∀ (m:List (List UInt8×β)) (k0 x:List UInt8),x∈(mX .s m k0).map (·.1)->x∈m.map (·.1)
 | [],k0,x,h=>h
 | y::l,k0,x,h=>by
  simp only [mX,lm] at h;by_cases e:y.1=k0
  ·rw [decide_eq_true e] at h;simp only [List.map_cons,SS];exact .inr h
  ·rw [decide_eq_false e] at h;simp only [List.map_cons,SS] at h ⊢;exact h.elim .inl fun h=>.inr (AQ l k0 x h)
theorem xv {β:Type}:∀ (m:List (List UInt8×β)) (k0:List UInt8),(m.map (·.1)).Nodup->((mX .s m k0).map (·.1)).Nodup
 | [],_,h=>h
 | y::l,k0,h=>by
  obtain ⟨h1,h2⟩:=Ti.1 h;simp only [mX,lm];by_cases e:y.1=k0
  ·rw [decide_eq_true e]; exact h2
  ·rw [decide_eq_false e];simp only [List.map_cons,Ti];exact ⟨fun hm=>h1 (AQ l k0 _ hm),xv l k0 h2⟩
theorem C4 {β:Type}:∀ (m:List (List UInt8×β)) (k0 k:List UInt8),(m.map (·.1)).Nodup->aU .s (mX .s m k0) k=if k0=k then none else aU .s m k
 | [],k0,k,_=>by simp [mX,aU]
 | y::l,k0,k,h=>by
  obtain ⟨h1,h2⟩:=Ti.1 h;simp only [mX,aU,lm];by_cases e:y.1=k0
  ·rw [decide_eq_true e];by_cases e2:k0=k
   ·rw [if_pos e2]; exact GA l k (e2 ▸ e ▸ h1)
   ·rw [if_neg e2,decide_eq_false (fun e3=>e2 (e.symm.trans e3))]
  ·rw [decide_eq_false e];simp only [aU,lm];by_cases e2:y.1=k
   ·rw [decide_eq_true e2,if_neg (fun e3=>e (e2.trans e3.symm))]
   ·rw [decide_eq_false e2]; exact C4 l k0 k h2
theorem Kf (x:Lt.Phi) (l:List (List UInt8)) (hp:Lt.ur x l) (KK:Bool->Prop) (h:KK (Lt.gW x l)):yd x l KK:=by
 unfold yd;obtain ⟨hx,hl⟩:=hp;intro _ _;unfold Lt.gW at h;refine ifk (fun hc=>?_) (fun hc _=>?_)
 ·have:decide ((x.Ins.length:Int)=(l.length:Int))=false:=by simpa using hc
  rw [this] at h; exact h
 have:decide ((x.Ins.length:Int)=(l.length:Int))=true:=by simpa using hc
 rw [this,TH] at h;refine aN _ l.length (fun i v=>v.1=(i:Int)/\(v.2.map (·.1)).Nodup/\ua v.2 (l.take i)) (fun R i v hi ⟨e,hd,hm⟩ ih=>?_) (fun R v ⟨e,hd,hm⟩=>?_) _ ⟨rfl,.nil,fun _=>rfl⟩
 ·obtain ⟨v1,v2⟩:=v;dsimp only at e hd hm ⊢;subst e;rw [if_pos (cz hi)];refine ⟨ob hi,ih _ ⟨aw (by omega),wX _ _ _ hd,?_⟩⟩;rw [Int.toNat_natCast,bL _ hi];exact hm.ins _
 ·obtain ⟨v1,v2⟩:=v;dsimp only at e hd hm ⊢;subst e;rw [if_neg (by simp)];rw [TI] at hm;intro _;refine aN _ x.Ins.length (fun i v=>v.1=(i:Int)/\(v.2.map (·.1)).Nodup/\∃ K,ua v.2 K/\KK (Lt.oe K (x.Ins.drop i))) (fun R i v hi ⟨e,hd,K,hm,hk⟩ ih=>?_) (fun R v ⟨e,hd,K,hm,hk⟩=>?_) _ ⟨rfl,hd,l,hm,h⟩
  ·obtain ⟨v1,v2⟩:=v;dsimp only at e hd hm ⊢;subst e;rw [if_pos (cz hi)];refine ⟨ob hi,?_⟩;rw [Int.toNat_natCast];rw [qi _ hi] at hk;unfold Lt.oe at hk;generalize x.Ins.getD i default=y at hk;have hy:(aU (β:=Bool) .s v2 y.Block).getD (dflt .bo)=decide (y.Block∈K):=hm y.Block
   rw [hy];refine ifk (fun hc=>?_) (fun hc=>?_)
   ·have:decide (y.Block∈K)=false:=by simpa using hc
    rw [this,Ua] at hk; exact hk
   ·have:decide (y.Block∈K)=true:=by simpa using hc
    rw [this,TH] at hk;refine ih _ ⟨aw (by omega),xv _ _ hd,_,fun k=>?_,hk⟩;dsimp only;show (aU (β:=Bool) .s (mX .s v2 y.Block) k).getD (dflt .bo)=_
    rw [C4 _ _ _ hd];by_cases e:y.Block=k
    ·rw [if_pos e]; subst e;rw [decide_eq_false (fun hm=>by have:=(Uj.1 hm).2; simp at this)]; rfl
    ·rw [if_neg e];refine (hm k).trans ?_;rw [decide_eq_decide,Uj];exact ⟨fun h=>⟨h,by simpa using fun e'=>e e'.symm⟩,(·.1)⟩
  ·obtain ⟨v1,v2⟩:=v;dsimp only at e hd hm ⊢;subst e;rw [if_neg (by simp)];rw [T7] at hk; exact hk
end Go.Am
end

section
namespace Go.Am
open Go
open Lt (nmB toB Gd Rc)
theorem KE (s:List UInt8) (b:Lt.Block):(Lt.Jc s b).length<=b.End.To.length:=by
 unfold Lt.Jc; rw [List.length_map]; exact List.length_filter_le _ _
theorem Kn (B:List Lt.Block) (s:List UInt8) {i:Nat} (h:i<B.length):Lt.frm (B.take (i+1)) s=Lt.frm (B.take i) s++Lt.Jc s (B.getD i default):=by
 unfold Lt.frm;rw [bL B h,List.flatMap_append,List.flatMap_singleton]
theorem Ef (f:Lt.Func) (hp:Lt.ub f) (KK:Bool->Prop) (h:KK (Lt.iK f)):ut f KK:=by
 unfold ut;obtain ⟨hn,hb⟩:=hp;have hfl:∀ (i:Nat) (s:List UInt8),i<=f.Blocks.length->(Lt.frm (f.Blocks.take i) s).length<=1000000:=fun i s hi=>by
  unfold Lt.frm;refine Th (gL _ 1000 _ (fun b hbm=>Th (KE s b) (hb b (List.mem_of_mem_take hbm)).1)) ?_;rw [TF,Nat.min_eq_left hi];exact Th (TA 1000 (Th hi hn)) (by omega)
 intro _;refine aN _ f.Blocks.length (fun i v=>v.1=(i:Int)/\∀ s,(aU (β:=List (List UInt8)) .s v.2 s).getD []=Lt.frm (f.Blocks.take i) s) (fun R i v hi ⟨e,hm⟩ ih=>?_) (fun R v ⟨e,hm⟩=>?_) _ ⟨rfl,fun s=>rfl⟩
 ·obtain ⟨v1,v2⟩:=v;dsimp only at e hm ⊢;subst e;rw [if_pos (cz hi)];refine ⟨ob hi,fun _=>?_⟩;dsimp +instances only [Int.toNat_natCast]
  have hs:=fun s=>Kn f.Blocks s hi
  have hb1:=(hb _ (bQ _ hi)).1
  generalize f.Blocks.getD i default=b at hs hb1;refine aN _ b.End.To.length (fun k v=>v.1=(k:Int)/\∀ s,(aU (β:=List (List UInt8)) .s v.2 s).getD []=Lt.frm (f.Blocks.take i) s++((b.End.To.take k).filter fun n=>decide (n=s)).map fun _=>b.Name) (fun R k v hk ⟨e,hm⟩ ih=>?_) (fun R v ⟨e,hm⟩=>?_) _ ⟨rfl,fun s=>by simpa using hm s⟩
  ·obtain ⟨v1,v2⟩:=v;dsimp only at e hm ⊢;subst e;rw [if_pos (cz hk)];dsimp +instances only [Int.toNat_natCast]
   have htk:=bL b.End.To hk
   generalize b.End.To.getD k default=t at htk;have hlen:((aU (β:=List (List UInt8)) .s v2 t).getD []).length<=2000000:=by
    rw [hm t,Tg,List.length_map];have h2:∀ p:List UInt8->Bool,((b.End.To.take k).filter p).length<=1000:=fun p=>Th (List.length_filter_le _ _) (by rw [TF]; omega)
    exact Th (Nat.add_le_add (hfl i t (by omega)) (h2 _)) (by omega)
   refine ⟨ob hk,⟨by simp only [SU,Te]; omega,by simp only [SU,Te]; omega⟩,rfl,ih _ ⟨aw (by omega),fun s=>?_⟩⟩;dsimp only;rw [om,htk,List.filter_append,TP,<- TL];by_cases e:t=s
   ·subst e;rw [if_pos rfl,Option.getD_some,hm t];simp
   ·rw [if_neg e,hm s];simp [e]
  ·obtain ⟨v1,v2⟩:=v;dsimp only at e hm ⊢;subst e;rw [if_neg (by simp)];refine ih _ ⟨aw (by omega),fun s=>?_⟩;rw [hs s];have:=hm s
   rw [TI] at this;exact this
 ·obtain ⟨v1,m⟩:=v;dsimp only at e hm ⊢;subst e;rw [if_neg (by simp)];rw [TI] at hm;intro _;have kF:∀ i,i<f.Blocks.length->Lt.qO f.Blocks i=false->KK false:=fun i hi hf=>by
   have:Lt.iK f=false:=by
    unfold Lt.iK;rw [List.all_eq_false];exact ⟨i,Tm.2 hi,by rw [hf]; simp⟩
   rw [this] at h; exact h
  refine aN _ f.Blocks.length (fun i v=>v=(i:Int)/\∀ j,j<i->Lt.qO f.Blocks j=true) (fun R i v hi ⟨e,ha⟩ ih=>?_) (fun R v ⟨e,ha⟩=>?_) _ ⟨rfl,fun j hj=>by omega⟩
  ·subst e;rw [if_pos (cz hi)];refine ⟨ob hi,fun J hJ=>?_⟩;dsimp +instances only [Int.toNat_natCast]
   have kF:=kF i hi
   have hbi:=hb _ (bQ _ hi)
   have fr:∀ s,(aU (β:=List (List UInt8)) .s m s).getD (dflt (.sl .s))=Lt.frm f.Blocks s:=hm
   have eP:Lt.qO f.Blocks i=(!(decide (i=0)&&decide (0 < (f.Blocks.getD i default).Phis.length))&&(f.Blocks.getD i default).Phis.all fun x=>Lt.gW x (Lt.frm f.Blocks (nmB f.Blocks i))):=rfl
   have go:(!(decide (i=0)&&decide (0 < (f.Blocks.getD i default).Phis.length)))=true->J false:=fun h0=>by
    rw [h0,TH] at eP;refine hJ false ?_;dsimp only;rw [if_neg (by simp)];dsimp +instances only [Int.toNat_natCast]
    intro _;rw [show (aU (β:=List (List UInt8)) .s m (f.Blocks.getD i default).Name).getD (dflt (.sl .s))=Lt.frm f.Blocks (nmB f.Blocks i) from fr _];have hfr:(Lt.frm f.Blocks (nmB f.Blocks i)).length<=1000000:=by have:=hfl f.Blocks.length (nmB f.Blocks i) (SN _); rw [TI] at this; exact this
    generalize f.Blocks.getD i default=b at eP hbi;generalize Lt.frm f.Blocks (nmB f.Blocks i)=l at eP hfr;refine aN _ b.Phis.length (fun k v=>v=(k:Int)/\∀ x∈b.Phis.take k,Lt.gW x l=true) (fun R9 k v hk ⟨e,hx⟩ ih9=>?_) (fun R9 v ⟨e,hx⟩=>?_) _ ⟨rfl,fun x hx=>by simp at hx⟩
    ·subst e;rw [if_pos (cz hk)];refine ⟨ob hk,?_⟩;rw [Int.toNat_natCast];have hmem:=bQ b.Phis hk
     have htk:=bL b.Phis hk
     generalize b.Phis.getD k default=x at hmem htk;refine ⟨⟨hbi.2.2 x hmem,hfr⟩,ifk (fun hc=>kF ?_) (fun hc=>ih9 _ ⟨aw (by omega),fun y hy=>?_⟩)⟩
     ·rw [eP,List.all_eq_false];exact ⟨x,hmem,by simpa using hc⟩
     ·rw [htk] at hy;rcases Tj.1 hy with hy | hy
      ·exact hx y hy
      ·obtain rfl:=SY.1 hy;simpa using hc
    ·subst e;rw [if_neg (by simp)];rw [TI] at hx;refine ih _ ⟨aw (by omega),fun j hj=>?_⟩;rcases S0 j i with h' | h'
     ·exact ha j h'
     ·obtain rfl:j=i:=by omega
      rw [eP]; exact SQ.2 hx
   by_cases e0:i=0
   ·rw [if_pos (by rw [e0]; rfl)];by_cases e1:0 < (f.Blocks.getD i default).Phis.length
    ·rw [decide_eq_true (by omega)];refine hJ true ?_;dsimp only;rw [if_pos rfl];refine kF ?_;rw [eP,decide_eq_true e0,decide_eq_true e1]; rfl
    ·rw [decide_eq_false (by omega)];exact go (by rw [decide_eq_false e1]; simp)
   ·rw [if_neg (by simpa using e0)];exact go (by rw [decide_eq_false e0]; rfl)
  ·subst e;rw [if_neg (by simp)];have:Lt.iK f=true:=by
    unfold Lt.iK;rw [SQ];exact fun i hi=>ha i (Tm.1 hi)
   rw [this] at h; exact h
structure CI (B:List Lt.Block) (out:List Bool) (todo:List Int) (j:Nat):Prop where
 ol:out.length=B.length
 td:∀ k∈todo,0<=k/\k < (B.length:Int)/\out.getD k.toNat false=true
 o0:out.getD 0 false=true
 cl:∀ i,i<B.length->i≠j->out.getD i false=true->(i:Int)∈todo\/∀ k,k<B.length->nmB B k∈toB B i->out.getD k false=true
theorem iA {l:List Bool} {i:Nat} (h:i<l.length) (k:Nat):(l.set i true).getD k false=(decide (k=i)||l.getD k false):=by
 by_cases e:k=i
 ·subst e; rw [dl _ h]; simp
 ·rw [List.getD,SW (fun e'=>e e'.symm),decide_eq_false e]; rfl
theorem CI.mark {B:List Lt.Block} {out:List Bool} {todo:List Int} {j t:Nat} (h:CI B out todo j) (ht:t<B.length):CI B (out.set t true) (todo++[(t:Int)]) j:=by
 have hl:t<out.length:=by rw [h.ol]; exact ht
 refine ⟨by rw [S3]; exact h.ol,fun k hk=>?_,?_,fun i hi hij hm=>?_⟩
 ·rw [iA hl];rcases Tj.1 hk with hk | hk
  ·obtain ⟨a,b,c⟩:=h.td k hk;exact ⟨a,b,by rw [c]; simp⟩
  ·obtain rfl:=SY.1 hk;exact ⟨by omega,by omega,by simp⟩
 ·rw [iA hl,h.o0]; simp
 ·rw [iA hl] at hm;by_cases e:i=t
  ·exact .inl (by rw [e]; simp)
  ·rw [decide_eq_false e,TW] at hm;rcases h.cl i hi hij hm with h1 | h1
   ·exact .inl (List.mem_append_left _ h1)
   ·exact .inr fun k hk hmem=>by rw [iA hl,h1 k hk hmem]; simp
theorem Af (f:Lt.Func) (hp:Lt.Eh f) (KK:Bool->Prop) (h:KK (Lt.sM f)):qk f KK:=by
 unfold qk;obtain ⟨g,hn,hto⟩:=hp;have h:KK true:=h
 have hps:=g.ps
 dsimp only;intro _;rw [if_neg (fun e=>by have:=of_decide_eq_true e; omega)];intro _ _;refine aN _ f.Blocks.length (fun i v=>v.1=(i:Int)/\(∀ k,k<i->aU (β:=Int) .s v.2 (nmB f.Blocks k)=some (k:Int))/\∀ s,(∀ k,k<i->nmB f.Blocks k≠s)->aU (β:=Int) .s v.2 s=none) (fun R i v hi ⟨e,h1,h2⟩ ih=>?_) (fun R v ⟨e,h1,h2⟩=>?_) _ ⟨rfl,fun k hk=>by omega,fun _ _=>rfl⟩
 ·obtain ⟨v1,L⟩:=v;dsimp only at e h1 h2 ⊢;subst e;rw [if_pos (cz hi)];refine ⟨ob hi,?_⟩;rw [Int.toNat_natCast];have hno:aU (β:=Int) .s L (nmB f.Blocks i)=none:=h2 _ fun k hk e=>by have:=g.nd k i (by omega) hi e; omega
  rw [if_neg (by rw [show aU (β:=Int) .s L (f.Blocks.getD i default).Name=none from hno]; simp)];refine ih _ ⟨aw (by omega),fun k hk=>?_,fun s hs=>?_⟩
  ·dsimp only;rw [om];by_cases e:k=i
   ·subst e; rw [if_pos rfl]
   ·rw [if_neg (fun e'=>e (g.nd k i (by omega) hi e'.symm))];exact h1 k (by omega)
  ·dsimp only;rw [om,if_neg (hs i (by omega))];exact h2 s fun k hk=>hs k (by omega)
 obtain ⟨v1,L⟩:=v;dsimp only at e h1 h2 ⊢;subst e;rw [if_neg (by simp)];intro _;refine aN _ f.Blocks.length (fun i v=>v=(i:Int)) (fun R i v hi e ih=>?_) (fun R v e=>?_) _ rfl
 ·subst e;rw [if_pos (cz hi)];refine ⟨ob hi,fun _=>?_⟩;dsimp +instances only [Int.toNat_natCast]
  have htn:(f.Blocks.getD i default).End.To.Nodup:=g.tn i hi
  have htr:∀ s∈(f.Blocks.getD i default).End.To,∃ k,k<f.Blocks.length/\k≠0/\nmB f.Blocks k=s:=g.tr i hi
  have hln:=hto _ (bQ _ hi)
  generalize (f.Blocks.getD i default).End.To=T at htn htr hln;refine aN _ T.length (fun k v=>v.1=(k:Int)/\ua v.2 (T.take k)) (fun R5 k v hk ⟨e,hm⟩ ih5=>?_) (fun R5 v ⟨e,hm⟩=>?_) _ ⟨rfl,fun _=>rfl⟩
  ·obtain ⟨v1,m⟩:=v;dsimp only at e hm ⊢;subst e;rw [if_pos (cz hk)];dsimp +instances only [Int.toNat_natCast]
   refine ⟨ob hk,fun J hJ=>?_⟩;dsimp only;have eg:T.getD k default=T[k]:=by rw [List.getD,SK hk]; rfl
   obtain ⟨t,t1,t2,t3⟩:=htr (T.getD k default) (by rw [eg]; exact Tk hk);have el:=h1 t t1
   rw [t3] at el;have hmk:Cm m (T.getD k default)=false:=by
    rw [hm,decide_eq_false_iff_not,eg];intro hin;obtain ⟨q,hq,e⟩:=T6.1 hin;rw [TF] at hq;rw [List.getElem_take] at e;have:=(List.getElem_inj htn).1 e
    omega
   rw [el];rw [if_neg (by simp),if_neg (by simpa using t2)];refine hJ _ ?_;dsimp only;rw [show (aU (β:=Bool) .s m (T.getD k default)).getD (dflt .bo)=false from hmk,if_neg (by simp)];refine ih5 _ ⟨aw (by omega),?_⟩;rw [bL T hk];exact hm.ins _
  ·obtain ⟨v1,m⟩:=v;dsimp only at e hm ⊢;subst e;rw [if_neg (by simp)];exact ih _ (aw (by omega))
 subst e;rw [if_neg (by simp),if_neg (by simp)];have hz:(f.Blocks.length:Int).toNat=f.Blocks.length:=Int.toNat_natCast _
 intro _;rw [hz];have hr:(List.replicate f.Blocks.length (dflt .bo):List Bool).length=f.Blocks.length:=T3
 refine ⟨⟨by omega,by omega,by omega⟩,⟨by omega,by rw [hr]; omega⟩,by rw [hr]; exact hps,?_⟩;have hc0:jP ((List.replicate f.Blocks.length (dflt .bo):List Bool).set 0 true)<=f.Blocks.length:=by
  unfold jP;exact Th (List.length_filter_le _ _) (by rw [S3,hr]; exact SN _)
 have hfin:∀ out,CI f.Blocks out [] f.Blocks.length->∀ k,k<f.Blocks.length->out.getD k false=true:=fun out hci k hk=>by
  have hrc:=g.re k hk
  clear hk;induction hrc with
  | first _=>exact hci.o0
  | next i k _ hi hk hm ih=>
   rcases hci.cl i hi (by omega) ih with h' | h'
   ·cases h'
   ·exact h' k hk hm
 have hstart:CI f.Blocks ((List.replicate f.Blocks.length (dflt .bo):List Bool).set 0 true) [0] f.Blocks.length:=by
  refine ⟨by rw [S3,hr],fun k hk=>?_,dl _ (by rw [hr]; exact hps) _ _,fun i hi hne hm=>?_⟩
  ·obtain rfl:=SY.1 hk;exact ⟨by omega,by omega,dl _ (by rw [hr]; exact hps) _ _⟩
  ·by_cases e:i=0
   ·exact .inl (by rw [e]; simp)
   ·rw [List.getD,SW (fun e'=>e e'.symm),Uv,if_pos hi] at hm;exact absurd hm (by show ¬ (default:Bool)=true; decide)
 refine sJ (fun v=>CI f.Blocks v.1 v.2 f.Blocks.length/\2*jP v.1+v.2.length<=3000000) (fun v=>2*jP v.1+v.2.length) (fun R9 v ⟨hci,hms⟩ ih9=>?_) _ ⟨hstart,by simp only [SU,Te]; omega⟩;obtain ⟨out,todo⟩:=v;dsimp only at hci hms ih9 ⊢;intro htl;refine ifk (fun hpos=>?_) (fun hemp=>?_)
 rotate_left
 ·have ht0:todo=[]:=T2 (by simp at hemp; simp [hemp])
  subst ht0;have all:=hfin out hci
  intro _;refine aN _ out.length (fun i v=>v=(i:Int)) (fun R i v hi e ih=>?_) (fun R v e=>?_) _ rfl
  ·subst e;rw [if_pos (cz hi)];refine ⟨⟨by omega,by omega⟩,?_⟩;rw [Int.toNat_natCast,show out.getD i default=true from all i (by rw [<- hci.ol]; exact hi),if_neg (by simp)];exact ih _ (aw (by have:=hci.ol; omega))
  ·subst e;rw [if_neg (by simp)]; exact h
 have hpos:0<todo.length:=by have:=of_decide_eq_true hpos; omega
 have hw:IntKind.i64.wrap ((todo.length:Int) - 1)=((todo.length - 1:Nat):Int):=by
  rw [ch (by omega) (by omega)]; omega
 rw [hw];dsimp +instances only [Int.toNat_natCast]
 generalize hmm:todo.length - 1=m;have hsplit:todo=todo.take m++[todo.getD m default]:=by
  have:=bL todo (i:=m) (by omega)
  rw [Ub (by omega)] at this;exact this
 have hjm:todo.getD m default∈todo:=bQ _ (by omega)
 generalize todo.getD m default=j at hsplit hjm;obtain ⟨j1,j2,j3⟩:=hci.td j hjm;intro J hJ _;have goJ:J (f.Blocks.getD j.toNat default):=hJ _ ?_
 ·have z1:((0:Int)<=j/\j.toNat<f.Blocks.length)/\J (f.Blocks.getD j.toNat default):=⟨⟨j1,by omega⟩,goJ⟩
  exact ⟨⟨by omega,by omega⟩,⟨z1,z1⟩,⟨z1,z1⟩,z1⟩
 dsimp only;intro _;refine ⟨⟨by omega,by omega⟩,fun _=>?_⟩;have hjn:j.toNat<f.Blocks.length:=by omega
 have htr:∀ s∈(f.Blocks.getD j.toNat default).End.To,∃ k,k<f.Blocks.length/\k≠0/\nmB f.Blocks k=s:=g.tr _ hjn
 have hsuc:∀ k,nmB f.Blocks k∈toB f.Blocks j.toNat->nmB f.Blocks k∈(f.Blocks.getD j.toNat default).End.To:=fun k h=>h
 have hln:=hto _ (bQ _ hjn)
 have htl1:(todo.take m).length+1=todo.length:=by rw [TF]; omega
 have hci0:CI f.Blocks out (todo.take m) j.toNat:=by
  refine ⟨hci.ol,fun k hk=>hci.td k (List.mem_of_mem_take hk),hci.o0,fun i hi hij hm=>?_⟩;rcases hci.cl i hi (by omega) hm with h' | h'
  ·rw [hsplit] at h';rcases Tj.1 h' with h' | h'
   ·exact .inl h'
   ·have:=SY.1 h'
    exact absurd this (by omega)
  ·exact .inr h'
 generalize (f.Blocks.getD j.toNat default).End.To=T at htr hsuc hln;refine aN _ T.length (fun k v=>v.2.2=(k:Int)/\CI f.Blocks v.1 v.2.1 j.toNat/\(∀ q,q<k->∀ u,u<f.Blocks.length->nmB f.Blocks u=T.getD q default->v.1.getD u false=true)/\2*jP v.1+v.2.1.length+1<=2*jP out+todo.length) (fun R13 k v hk ⟨e,hc,hq,hmu⟩ ih13=>?_) (fun R13 v ⟨e,hc,hq,hmu⟩=>?_) _ ⟨rfl,hci0,fun q hq=>by omega,by dsimp only; omega⟩
 ·obtain ⟨o3,t3,v3⟩:=v;dsimp only at e hc hq hmu ⊢;subst e;rw [if_pos (cz hk)];dsimp +instances only [Int.toNat_natCast]
  obtain ⟨t,t1,t2,t4⟩:=htr (T.getD k default) (bQ _ hk);have el:=h1 t t1
  rw [t4] at el;rw [el];intro J15 hJ15;have ol:=hc.ol
  refine ⟨ob hk,⟨by simp,by simp only [Option.getD_some]; omega⟩,?_⟩;simp only [Option.getD_some,Int.toNat_natCast];have hto3:t<o3.length:=by omega
  have on:∀ o' t',CI f.Blocks o' t' j.toNat->o'.getD t false=true->(∀ u,o3.getD u false=true->o'.getD u false=true)->2*jP o'+t'.length<=2*jP o3+t3.length->J15 (o',t'):=fun o' t' a1 a2 a3 a4=>by
   refine hJ15 _ (ih13 _ ⟨aw (by omega),a1,fun q hq' u hu e=>?_,by dsimp only; omega⟩);rcases S0 q k with h' | h'
   ·exact a3 u (hq q h' u hu e)
   ·obtain rfl:q=k:=by omega
    have:u=t:=g.nd u t hu t1 (e.trans t4.symm)
    subst this; exact a2
  refine ifk (fun hf=>?_) (fun hf=>?_)
  ·have hf0:o3.getD t true=false:=by
    rw [List.getD,SK hto3] at hf ⊢;simpa using hf
   have hcn:=pP o3 t hf0
   refine ⟨⟨by omega,by omega⟩,hto3,⟨by simp only [SU,Te]; omega,by simp only [SU,Te]; omega⟩,on _ _ (hc.mark t1) ?_ (fun u hu=>?_) ?_⟩
   ·rw [iA hto3]; simp
   ·rw [iA hto3,hu]; simp
   ·simp only [Tg,SU,Te]; omega
  ·have hf1:o3.getD t default=true:=by simpa using hf
   exact on _ _ hc hf1 (fun _ h=>h) (SN _)
 ·obtain ⟨o3,t3,v3⟩:=v;dsimp only at e hc hq hmu ⊢;subst e;rw [if_neg (by simp)];refine ih9 _ ⟨⟨hc.ol,hc.td,hc.o0,fun i hi _ hm=>?_⟩,by dsimp only; omega⟩ (by dsimp only; omega);by_cases e:i=j.toNat
  ·subst e;refine .inr fun k hk hmem=>?_
   obtain ⟨q,hq1,hq2⟩:=T6.1 (hsuc k hmem);exact hq q hq1 k hk (by rw [<- hq2,List.getD,SK hq1]; rfl)
  ·exact hc.cl i hi e hm
theorem wd (f:Lt.Func) (hp:Lt.PN f) (KK:Bool->Prop) (h:KK (Lt.JB f)):mr f KK:=by
 unfold mr;obtain ⟨hok,hvars⟩:=hp;have h:KK true:=h
 dsimp only;intro J hJ;have big:J true:=hJ _ (by dsimp only; rw [if_pos rfl]; exact h)
 rw [if_neg (by simp [Lt.sK])];refine ⟨⟨hok,by omega⟩,fun y hy=>?_⟩;cases y with
 | false=>exact big
 | true=>
 obtain ⟨q1,q2,q3,q4,q5⟩:=hy rfl;refine hJ _ ?_;dsimp only;rw [if_neg (by simp)];unfold Lt.JC at q2;simp only [SL,decide_eq_true_eq,SQ] at q2;have hto:∀ b∈f.Blocks,b.End.To.length<=8:=fun b hb=>by have:=(q2.2 b hb).1; omega
 have hBd:LsB f.Blocks:=fun b hb=>by
  obtain ⟨r1,r2,r3⟩:=q2.2 b hb;exact ⟨by omega,by omega,fun p hp=>by have:=r3 p hp; omega⟩
 have hvar:=hvars q1
 have hpa:Lt.ri f:=⟨by omega,hBd,by omega⟩
 have g:=EY q5
 have hnm:∀ j,j<f.Blocks.length->nmB f.Blocks j∈Lt.names f:=fun j hj=>by
  unfold Lt.names;exact List.mem_append_left _ (Tc (f:=(·.Name)) (bQ _ hj))
 have hwl:(Lt.aq f).length<=320:=by
  unfold Lt.aq;refine Th (gL _ 8 _ (fun x hx=>Th (n3 f x) ?_)) ?_
  ·exact hto _ (bQ _ (Tm.1 hx))
  ·rw [List.length_range]; omega
 obtain ⟨b1,b2,b3,b4,b5⟩:=xW f (Lt.aq f) (Lt.names f) f.Blocks g rfl hnm hBd;have eG:Lt.fp f=fB f ((Lt.aq f).foldl Lt.bM (Lt.names f,f.Blocks)).2:=rfl
 generalize hB:((Lt.aq f).foldl Lt.bM (Lt.names f,f.Blocks)).2=B at b1 b2 b3 b4 b5 eG;rw [eG];have hw0:Lt.jS (fB f B)=[]:=by unfold Lt.jS; rw [b2]; rfl
 have hG:Lt.fp (fB f B)=fB f B:=by
  unfold Lt.fp;rw [b2]; rfl
 have hpw:∀ B:List Lt.Block,LsB B->B.length<=1000->Lt.mB (fB f B):=fun B hb hl=>⟨by show B.length<=_; omega,fun b hm=>by have:=(hb b hm).1; omega⟩
 have hpg:Lt.ri (fB f B):=⟨by show B.length<=_; omega,b4,by show f.Params.length+f.Vars.length<=_; omega⟩
 refine ⟨hpa,fun J4 hJ4=>?_⟩;have j4:J4 false:=hJ4 _ ?_
 ·refine ⟨⟨hpw B b4 (by omega),by rw [b2]; simp⟩,fun _=>?_⟩;rw [hw0,if_neg (by simp)];refine ⟨⟨b1,by show B.length<=_; omega,fun b hm=>by have:=(b4 b hm).1; omega⟩,?_⟩;rw [if_neg (by simp [Lt.sM])];have hps:∀ B:List Lt.Block,LsB B->B.length<=1000->Lt.ub (fB f B):=fun B hb hl=>⟨hl,hb⟩
  refine ⟨hps f.Blocks hBd (by omega),ifk (fun hph=>⟨hps B b4 (by omega),?_⟩) (fun _=>j4)⟩;have:Lt.iK (fB f B)=true:=(sU b1).2 (b3 ((sU g).1 hph))
  rw [this]; exact j4
 dsimp only;rw [if_neg (by simp)];intro J6 hJ6;have j6:∀ b,KK b->J6 b:=fun b hb=>hJ6 b hb
 have eq1:Lt.lX (Lt.fp (fB f B)) (fB f B)=true:=by rw [hG]; exact decide_eq_true rfl
 have hlen:decide (((fB f B).Blocks.length:Int)=IntKind.i64.wrap ((f.Blocks.length:Int)+((Lt.jS f).length:Int)))=true:=by
  have e1:(Lt.jS f).length=(Lt.aq f).length:=by simp [Lt.jS]
  rw [e1,ch (by omega) (by omega),decide_eq_true_eq];show (B.length:Int)=_
  omega
 rw [eq1,if_pos rfl,hlen];have z1:Lt.pO f/\J6 true:=⟨⟨hpw f.Blocks hBd (by omega),by omega⟩,j6 _ h⟩
 have z2:=And.intro hpg (And.intro (And.intro z1 z1) (And.intro (And.intro z1 z1) z1))
 exact ⟨z2,z2⟩
end Go.Am
end

section
namespace Go.Am
theorem MK (i k:Nat):Nat.beq (i+100000) (k+100000)=Nat.beq i k:=by
 cases h:Nat.beq i k with
 | true=>have:=SO h; subst this; exact Uy _
 | false=>
  cases h2:Nat.beq (i+100000) (k+100000) with
  | false=>rfl
  | true=>
   have:=SO h2
   have:i=k:=by omega
   subst this; rw [Uy] at h; cases h
theorem Ar (k:Nat) (t:List (Nat×Nat×At)):bF (shT t) (k+100000)=bF t k:=by
 induction t with
 | nil=>rfl
 | cons x r ih=>
  obtain ⟨i,j,v⟩:=x;simp only [shT,bF,MK];cases Nat.beq i k with
  | true=>rfl
  | false=>exact ih
theorem A7 {k:Nat} (hk:k < 100000) (t:List (Nat×Nat×At)):bF (shT t) k=none:=by
 induction t with
 | nil=>rfl
 | cons x r ih=>
  obtain ⟨i,j,v⟩:=x;have:Nat.beq (i+100000) k=false:=by
   cases h:Nat.beq (i+100000) k with
   | false=>rfl
   | true=>have:=SO h; omega
  simp only [shT,bF,this];exact ih
theorem A2 (k:Nat) (t:List (Nat×Nat×At)):bF (oE t) k=bF t (k+100000):=by
 induction t with
 | nil=>rfl
 | cons x r ih=>
  obtain ⟨i,j,v⟩:=x;simp only [oE,bF];cases hb:Nat.ble 100000 i with
  | true=>
   have hi:100000<=i:=SP hb
   have e:Nat.beq (i - 100000) k=Nat.beq i (k+100000):=by
    have:=MK (i - 100000) k
    rw [Nat.sub_add_cancel hi] at this;exact this.symm
   dsimp only;rw [bF,e];cases Nat.beq i (k+100000) with
   | true=>rfl
   | false=>exact ih
  | false=>
   have hi:¬ 100000<=i:=fun h=>by rw [Nat.ble_eq_true_of_le h] at hb; cases hb
   have e:Nat.beq i (k+100000)=false:=by
    cases h:Nat.beq i (k+100000) with
    | false=>rfl
    | true=>have:=SO h; omega
   rw [e]; exact ih
theorem pU {nx k:Nat} {b:List (Nat×Nat×At)}:∀ {l:List At} {i:Nat},i+l.length<=k->bF (sS nx i l++b) k=bF b k
 | [],_,_=>rfl
 | v::r,i,h=>by
  have e:Nat.beq i k=false:=by
   cases h2:Nat.beq i k with
   | false=>rfl
   | true=>have:=SO h2; simp only [SU] at h; omega
  simp only [sS,Tz,bF,e];exact pU (by simp only [SU] at h; omega)
theorem rl {nx k:Nat} {b:List (Nat×Nat×At)}:∀ {l:List At} {i:Nat} {v:At},i<=k->l[k-i]? = some v->bF (sS nx i l++b) k=some (nx,v)
 | [],_,_,_,h=>by simp at h
 | v::r,i,x,hi,h=>by
  simp only [sS,Tz,bF];rcases Nat.lt_or_eq_of_le hi with hlt | rfl
  ·have e:Nat.beq i k=false:=by
    cases h2:Nat.beq i k with
    | false=>rfl
    | true=>have:=SO h2; omega
   rw [e];refine rl (by omega) ?_;rw [show k-i=(k - (i+1))+1 from by omega] at h;simpa using h
  ·rw [Uy];simp only [Nat.sub_self,Tu,SJ] at h;subst h; rfl
abbrev inS (s:St) (vs:List At):St:=⟨s.nx+1,sS s.nx 0 vs++shT s.t,s.m⟩
theorem Q9 {s s':St} {vs:List At} (hl:vs.length<=100000) (h:Ext (inS s vs) s'):Ext s ⟨s'.nx,oE s'.t,s'.m⟩:=by
 refine ⟨Th (TE _) h.nx,fun k j v hk hj=>?_,fun n j r hk hj=>h.m n j r hk (Nat.lt_succ_of_lt hj)⟩;rw [A2] at hk;have:=h.t _ j v hk (Nat.lt_succ_of_lt hj)
 rw [show (inS s vs).t=sS s.nx 0 vs++shT s.t from rfl,pU (by omega),Ar] at this;exact this
theorem AN {s s':St} {vs:List At} {res:List ResultVar} {k k':St->At->Prop} (hl:vs.length<=100000) (hk:∀ s' v,Ext s s'->k s' v->k' s' v) (hE:Ext (inS s vs) s') (h:mV res k s'):mV res k' s':=by
 unfold mV at h ⊢;split at h
 ·exact hk _ _ (Q9 hl hE) h
 ·exact h.elim
section
variable {g:G} {a:Act} {w:World} {H:FH} {γ:Gam} {F:Nm->Fp}
theorem xm {nt:Nat} {ops:List Operand} {i:Nat} {x:Operand} (hx:ops[i]? = some x):((ops.map a.eval).toArray++Array.replicate (nt - (ops.map a.eval).toArray.size) undef).getD i undef=a.eval x:=by
 rw [S5,Tx (by simp; exact ae hx)];simp [hx]
theorem QF {s:St} (hX:RX g s.toS a w H γ F) {ops:List Operand} (hops:ops.all ay=true) {nt:Nat} (hle:ops.length<=nt) (hnt:nt<=100000) :
  RX ⟨nt,g.w0,g.H0,g.own0,g.out,some (g.tv a),[]⟩ (inS s (ops.map (evA s))).toS ⟨(ops.map a.eval).toArray++Array.replicate (nt - (ops.map a.eval).toArray.size) undef,[]⟩ w H γ F:=by
 have hsz:((ops.map a.eval).toArray++Array.replicate (nt - (ops.map a.eval).toArray.size) undef).size=nt:=by simp; omega
 refine ⟨hX.mem,hX.fr,hsz,⟨rfl,hX.df.2⟩,fun i=>?_⟩;rw [show aE (inS s (ops.map (evA s))).toS.t i=(gtA (sS s.nx 0 (ops.map (evA s))++shT s.t) i).toV from cm i _,iv];rcases S0 i ops.length with hi | hi
 ·obtain ⟨x,hx⟩:∃ x,ops[i]? = some x:=⟨_,SK hi⟩
  rw [rl (Tf i) (v:=evA s x) (by rw [Ux,SM,hx]; rfl)];rw [G.tv_lt (by rw [hsz]; omega),xm hx];have hop:=SQ.1 hops x (Tb hx)
  have:=aD hX hop
  rw [af hop] at this;exact this
 ·rw [pU (by rw [List.length_map]; omega)];rcases S0 i 100000 with hb | hb
  ·rw [A7 hb]; trivial
  ·obtain ⟨j,rfl⟩:∃ j,i=j+100000:=⟨i - 100000,by omega⟩
   rw [Ar,<- iv];have e:G.tv ⟨nt,g.w0,g.H0,g.own0,g.out,some (g.tv a),[]⟩ ⟨(ops.map a.eval).toArray++Array.replicate (nt - (ops.map a.eval).toArray.size) undef,[]⟩ (j+100000)=g.tv a j:=by
    unfold G.tv;dsimp only;rw [if_neg (by rw [hsz]; unfold TB; omega)];unfold TB;rw [Nat.add_sub_cancel]
   rw [e,<- cm];exact hX.t j
theorem CC {s0:S} (hX:RX g s0 a w H γ F) {nt:Nat} (hnt:nt<=100000) {a':Act} {s':St} {w':World} {H':FH} {γ':Gam} {F':Nm->Fp} (h:RX ⟨nt,g.w0,g.H0,g.own0,g.out,some (g.tv a),[]⟩ s'.toS a' w' H' γ' F') :
  RX g (⟨s'.nx,oE s'.t,s'.m⟩:St).toS a w' H' γ' F':=by
 refine ⟨h.mem,h.fr,hX.nt,⟨hX.df.1,h.df.2⟩,fun i=>?_⟩;rw [show aE (⟨s'.nx,oE s'.t,s'.m⟩:St).toS.t i=(gtA (oE s'.t) i).toV from cm i _,iv,A2,<- iv,<- cm];have:=h.t (i+100000)
 have e:G.tv ⟨nt,g.w0,g.H0,g.own0,g.out,some (g.tv a),[]⟩ a' (i+100000)=g.tv a i:=by
  have hs:a'.tmps.size=nt:=h.nt
  unfold G.tv;dsimp only;rw [if_neg (by rw [hs]; unfold TB; omega)];unfold TB;rw [Nat.add_sub_cancel]
 rw [e] at this;exact this
theorem GL {P:Program} {s:St} (h:RX g s.toS a w H γ F):∀ {rs:List ResultVar} {xs:List A1},D1 s rs=some xs->∃ ys,(rs.mapM (gV a.tmps)).run P w=.ok ys w/\ARs w H γ (toM s.m) (xs.map A1.toV) ys/\ys.length=rs.length/\xs.length=rs.length
 | [],xs,e=>by
  simp only [D1,SJ] at e; subst e;exact ⟨[],rfl,trivial,rfl,rfl⟩
 | .tmp t::r,xs,e=>by
  simp only [D1] at e;split at e
  ·rename_i x xs' h1 h2 h3;simp only [SJ] at e; subst e;obtain ⟨ys,k1,k2,k3,k4⟩:=GL (P:=P) h h2;have ht:=h.t t
   rw [show aE s.toS.t t=(gtA s.t t).toV from cm t s.t,h1,G.tv_lo (show t<TB from SP h3)] at ht;have k1':((r.mapM (gV a.tmps)).run P w)=.ok ys w:=k1
   refine ⟨a.tmps.getD t undef::ys,?_,⟨ht,k2⟩,by simp [k3],by simp [k4]⟩;simp [List.mapM_cons,gV,k1']
  ·cases e
 | .cell _ _::r,xs,e=>by simp [D1] at e
theorem Ot {P:Program} {fn:Func} {s:St} {k:St->At->Prop} (h:RX g s.toS a w H γ F) (hk:mV fn.results.toList k s) :
  ∃ y v,(results fn a.tmps).run P w=.ok y w/\AR w H γ (toM s.m) v.toV y/\k ⟨s.nx,oE s.t,s.m⟩ v:=by
 unfold mV at hk;split at hk
 ·rename_i xs hx;obtain ⟨ys,k1,k2,k3,k4⟩:=GL (P:=P) h hx;have hrun:(results fn a.tmps).run P w=.ok (if h:ys.toArray.size=1 then ys.toArray[0] else .tuple ys.toArray) w:=by
   rw [dJ,Uc];simp [k1]
  refine ⟨_,_,hrun,?_,hk⟩
  match xs,ys,k2 with
  | [],[],_=>exact ⟨#[],by simp,trivial⟩
  | [x],[y],k2=>exact k2.1
  | x1::x2::xs,y1::y2::ys,k2=>exact ⟨(y1::y2::ys).toArray,by simp,by simpa using k2⟩
 ·exact hk.elim
end
theorem DI {P:Program} {f:Nat} {fn:Func} (hf:P.funcs[f]? = some fn) (hname:(fn.name == "runtime.NumGoroutine")=false) (hb:fn.body.isSome=true):∀ args w,(callFunc f args).run P w=.ok (.enter f args) w:=by
 intro args w;have h1:fn.name ≠ "runtime.NumGoroutine" := by simpa using hname
 obtain ⟨c,h⟩:=Option.isSome_iff_exists.1 hb;simp [callFunc,hf,h1,h]
theorem gQ {e:En} (he:e.ok) (hm:e.P.follows .mixedOrders=true) {f:Nat} {fn:Func} (hf:e.P.funcs[f]? = some fn) (hname:(fn.name == "runtime.NumGoroutine")=false) (hb:fn.body.isSome=true) {an:An}
  (hc:eQ fn.ntmps (fn.body.getD .skip)=true) (hnt:Nat.ble fn.ntmps 100000=true):Cont e.P f (qX e fn an):=by
 have hb':fn.body=some (fn.body.getD .skip):=by cases h:fn.body with
  | none=>rw [h] at hb; cases hb
  | some c=>rfl
 have hnt':=SP hnt
 refine ⟨DI hf hname hb,fun pk s ops k k' hk hcc=>?_,fun g pk s a w H γ F ops k hX hops hcc=>?_⟩
 ·unfold qX at hcc ⊢;split at hcc
  ·rename_i hle;have hl:(ops.map (evA s)).length<=100000:=by rw [List.length_map]; exact Th (SP hle) hnt'
   exact yu (e:=⟨e.P,e.E,e.cs,e.sh,fun v s=>pk v ⟨s.nx,oE s.t,s.m⟩⟩) he _ an _ ⟨mV fn.results.toList k,fun _ _=>False,mV fn.results.toList k⟩ ⟨mV fn.results.toList k',fun _ _=>False,mV fn.results.toList k'⟩ (fun s' hE h=>AN hl hk hE h) (fun _ _ _ h=>h) (fun s' hE h=>AN hl hk hE h) hcc
  ·exact hcc.elim
 ·unfold qX at hcc;split at hcc
  ·rename_i hle;have hle':=SP hle
   refine calls_of_wp hf hb' (Code.wp_mono (fun x a' w' hl=>?_) (iN (e:=⟨e.P,e.E,e.cs,e.sh,fun v s=>pk v ⟨s.nx,oE s.t,s.m⟩⟩) he hm (g:=⟨fn.ntmps,g.w0,g.H0,g.own0,g.out,some (g.tv a),[]⟩) _ an _ _ hc hcc _ w ⟨H,γ,F,QF hX hops hle' hnt'⟩));obtain ⟨s',hq,H',γ',F',hX'⟩:=hl;have fin:∀ t:St,s'=t.toS->mV fn.results.toList k t->a'.defers=[]/\∃ v,(results fn a'.tmps).run e.P w'=.ok v w'/\gr g a pk k (.returned v) w':=by
    rintro t rfl ht
    obtain ⟨y,v,k1,k2,k3⟩:=Ot (P:=e.P) hX' ht;exact ⟨hX'.df.1,y,k1,.inl ⟨y,_,v,H',γ',F',rfl,k3,k2,CC hX hnt' hX'⟩⟩
   cases x with
   | normal=>obtain ⟨t,e1,ht⟩:=hq; exact fin t e1 ht
   | ret=>obtain ⟨t,e1,ht⟩:=hq; exact fin t e1 ht
   | exit i=>obtain ⟨t,e1,ht⟩:=hq; exact ht.elim
   | panic c=>
    obtain ⟨v,t,rfl,rfl,hv⟩:=hq;exact ⟨hX'.df.1,.inr ⟨v,_,rfl,hv,H',γ',F',CC hX hnt' hX'⟩⟩
   | _=>exact hq.elim
  ·exact hcc.elim
section
variable {g:G} {s1:S} {a:Act} {w:World} {H1:FH} {γ:Gam} {F1:Nm->Fp}
theorem OU (h1:RX g s1 a w H1 γ F1) {w':World} {H2:FH} {tt:Fp} (hfr:Fr w H1 (fun _=>0) w' H2 tt) (hag:∀ b o y,H2 b o=some y->w'.cell? ⟨b,o,none⟩=some y):RX g s1 a w' H2 γ F1:=by
 have hold:∀ b,b<w.heap.size->w'.heap[b]? = w.heap[b]? := fun b hb=>hfr.block b hb rfl
 have hnew:∀ b,b<w.heap.size->H1 b=H2 b:=by
  intro b hb
  funext o
  cases hc:H1 b o with
  | some y=>rw [hfr.hold b o y hc]
  | none=>
   cases hc2:H2 b o with
   | none=>rfl
   | some y=>
    rcases hfr.hnew b o (by rw [hc2]; simp) hc with h' | h'
    ·exact absurd rfl h'
    ·omega
 have hsame:∀ b,tot F1 s1.m b≠0->w'.heap[b]? = w.heap[b]? := fun b hb=>hold b (h1.mem.lt b hb)
 have hKp:=bS (w':=w') h1.mem hsame
 have hmem:Mem w' H2 γ s1.m F1:=by
  refine ⟨hag,fun x hx=>aF hKp hfr.hold rfl (fun b hb=>hsame b (by have:=aQ (F:=F1) hx b; omega)) (h1.mem.roots x hx),h1.mem.keys,h1.mem.le1,fun b hb=>by have:=h1.mem.lt b hb; have:=hfr.size; omega,fun b hb o=>?_⟩;rw [<- hnew b (h1.mem.lt b hb)]; exact h1.mem.nofz b hb o
 have hFr:Fr w H1 (tot F1 s1.m) w' H2 (tot F1 s1.m):=
  ⟨hfr.size,hfr.os,hfr.tape,hfr.output,fun b hb _=>hold b hb,hfr.hold,fun b o h2 h3=>by
   right
   rcases S0 b w.heap.size with h' | h'
   ·rw [<- hnew b h'] at h2; exact absurd h3 h2
   ·exact h',fun b hb=>.inl hb,hfr.nz⟩
 exact dP h1 hmem hFr (fun i=>bu hKp hfr.hold (h1.t i)) (fun _=>rfl)
theorem Kv {s1:St} (h1:RX g s1.toS a w H1 γ F1) {ops:List Operand} (hops:ops.all ay=true) {ps:List U} {x:Fl ps} (hx:bh ps (ops.map (evA s1))=some x) {nt:Nat} (hle:ops.length<=nt) :
  RX ⟨nt,w,H1,fun _=>0,fun _=>none,none,[]⟩ ⟨aL 0 (eM ps x),[]⟩ ⟨(ops.map a.eval).toArray++Array.replicate (nt - (ops.map a.eval).toArray.size) undef,[]⟩ w H1 γ F1:=by
 obtain ⟨c1,c2,c3⟩:=cr hx;refine ⟨⟨h1.mem.agree,fun x hx=>by simp at hx,by simp,fun b=>Tf _,fun b hb=>absurd rfl hb,fun b hb=>absurd rfl hb⟩,⟨SN _,rfl,rfl,rfl,fun _ _ _=>rfl,fun _ _ _ h=>h,fun b o h2 h3=>absurd h3 h2,fun b hb=>absurd rfl hb,gk⟩,?_,⟨rfl,fun j b e=>by simp at e,dc h1⟩,fun i=>?_⟩
 ·simp; omega
 ·show AR w H1 γ [] (aE (aL 0 (eM ps x)) i) (Array.getD _ i undef)
  rw [<- c3,cv];simp only [Tf,if_true,Ux,SM];cases hi:ops[i]? with
  | none=>simp only [T4,Ud]; trivial
  | some y=>
   have hop:=SQ.1 hops y (Tb hi)
   have hy:=aD h1 hop
   rw [af hop] at hy;simp only [Option.map_some,Option.getD_some];have hz:(evA s1 y).toV.isFz=true:=by
    refine SQ.1 c2 _ (Tc (Tc (Tb hi)))
   rw [xm hi];exact cZ bK (gY (fun _ _ _ h=>h) hz hy)
end
end Go.Am
end
