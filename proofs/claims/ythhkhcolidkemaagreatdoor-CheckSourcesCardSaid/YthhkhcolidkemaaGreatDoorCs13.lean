/-
  Part 13: AmIter · AmE3 · AmE3b · AmE3c · AmE3d · AmE20 · AmAppTwo · AmBuildTwo · AmE3e.
-/
import Derived.Test.YthhkhcolidkemaaGreatDoorCs12
import Derived.Shelf.SlIter.Nil
import Derived.Shelf.SortM.Plain
import Derived.Shelf.SortM.SortNone
import Derived.Shelf.SlMaps.Clone
set_option linter.unusedSimpArgs false
set_option linter.unusedVariables false
set_option linter.unusedSectionVars false
set_option linter.unnecessarySimpa false
open Go.Proofs.Tryz
section
namespace Go.Proofs
open Go.RowKit Go.Maps Go.Sort Go.Shelf
def Tryz.keys210_ren:Go.Shelf.Ren:=⟨fun|7=>210|10=>237|n=>n,fun|23=>221|26=>9|3=>4|28=>261|0=>0|27=>260|33=>40|4=>4|n=>n,fun|n=>n⟩
theorem Tryz.keys210:Go.Proofs.SlLaysZ.n7 prog Tryz.keys210_ren:={
 mixed:=by rfl
 f7:=⟨f210.name,by decide,func210.trans (congrArg some (by rfl))⟩
 f10:=⟨f237.name,by decide,func237.trans (congrArg some (by rfl))⟩
 t0:=underlying0
 a0:=isAgg0
 z0:=sizeOf0
 v0:=zeroValue0
 t4:=underlying4
 a4:=isAgg4
 z4:=sizeOf4
 v4:=zeroValue4
 t23:=underlying221
 a23:=isAgg221
 z23:=sizeOf221
 v23:=zeroValue221
 t26:=underlying9
 a26:=isAgg9
 z26:=sizeOf9
 v26:=zeroValue9
 t27:=underlying260
 a27:=isAgg260
 z27:=sizeOf260
 v27:=zeroValue260
 t28:=underlying261
 a28:=isAgg261
 z28:=sizeOf261
 v28:=zeroValue261
 t33:=underlying40
 a33:=isAgg40
 z33:=sizeOf40
 v33:=zeroValue40 }
def Tryz.sorted209_ren:Go.Shelf.Ren:=⟨fun|6=>209|8=>235|9=>236|11=>248|13=>250|12=>249|23=>262|24=>263|14=>253|15=>254|16=>255|17=>256|18=>257|19=>258|20=>259|21=>260|22=>261|25=>266|26=>267|27=>268|28=>269|29=>270|30=>271|31=>273|n=>n,fun|26=>9|28=>261|24=>45|0=>0|3=>3|37=>280|48=>285|50=>137|4=>4|40=>300|39=>299|45=>156|5=>5|9=>9|51=>308|55=>312|57=>314|58=>315|33=>40|n=>n,fun|n=>n⟩
theorem Tryz.sorted209:Go.Proofs.SlLaysZ.n6 prog Tryz.sorted209_ren:={
 mixed:=by rfl
 f6:=⟨f209.name,by decide,func209.trans (congrArg some (by rfl))⟩
 f8:=⟨f235.name,by decide,func235.trans (congrArg some (by rfl))⟩
 f11:=⟨f248.name,by decide,func248.trans (congrArg some (by rfl))⟩
 t0:=underlying0
 a0:=isAgg0
 z0:=sizeOf0
 v0:=zeroValue0
 t24:=underlying45
 a24:=isAgg45
 z24:=sizeOf45
 v24:=zeroValue45
 t26:=underlying9
 a26:=isAgg9
 z26:=sizeOf9
 v26:=zeroValue9
 t28:=underlying261
 a28:=isAgg261
 z28:=sizeOf261
 v28:=zeroValue261
 i26:=by kernel_rfl }
def Tryz.sort236_ren:Go.Shelf.Ren:=⟨fun|6=>236|8=>250|9=>249|19=>262|20=>263|21=>253|22=>254|23=>255|24=>256|25=>257|26=>258|27=>259|28=>260|29=>261|36=>266|31=>267|32=>268|37=>269|38=>270|39=>271|41=>273|n=>n,fun|27=>45|29=>9|3=>3|32=>280|26=>45|0=>0|44=>285|46=>137|4=>4|36=>300|35=>299|41=>156|5=>5|9=>9|53=>308|57=>312|63=>314|64=>315|n=>n,fun|n=>n⟩
theorem Tryz.sort236:Go.Proofs.SlLaysM.n6 prog Tryz.sort236_ren:={
 mixed:=by rfl
 f6:=⟨f236.name,by decide,func236.trans (congrArg some (by rfl))⟩
 f8:=func250.trans (congrArg some (by rfl))
 f9:=⟨f249.name,by decide,func249.trans (congrArg some (by rfl))⟩
 f19:=func262.trans (congrArg some (by rfl))
 f20:=func263.trans (congrArg some (by rfl))
 f21:=⟨f253.name,by decide,func253.trans (congrArg some (by rfl))⟩
 f22:=⟨f254.name,by decide,func254.trans (congrArg some (by rfl))⟩
 f23:=⟨f255.name,by decide,func255.trans (congrArg some (by rfl))⟩
 f24:=⟨f256.name,by decide,func256.trans (congrArg some (by rfl))⟩
 f25:=⟨f257.name,by decide,func257.trans (congrArg some (by rfl))⟩
 f26:=⟨f258.name,by decide,func258.trans (congrArg some (by rfl))⟩
 f27:=⟨f259.name,by decide,func259.trans (congrArg some (by rfl))⟩
 f28:=⟨f260.name,by decide,func260.trans (congrArg some (by rfl))⟩
 f29:=⟨f261.name,by decide,func261.trans (congrArg some (by rfl))⟩
 f31:=func267.trans (congrArg some (by rfl))
 f32:=func268.trans (congrArg some (by rfl))
 f36:=⟨f266.name,by decide,func266.trans (congrArg some (by rfl))⟩
 f37:=⟨f269.name,by decide,func269.trans (congrArg some (by rfl))⟩
 f38:=⟨f270.name,by decide,func270.trans (congrArg some (by rfl))⟩
 f39:=⟨f271.name,by decide,func271.trans (congrArg some (by rfl))⟩
 f41:=⟨f273.name,by decide,func273.trans (congrArg some (by rfl))⟩
 t0:=underlying0
 a0:=isAgg0
 z0:=sizeOf0
 v0:=zeroValue0
 t3:=underlying3
 a3:=isAgg3
 z3:=sizeOf3
 v3:=zeroValue3
 t4:=underlying4
 a4:=isAgg4
 z4:=sizeOf4
 v4:=zeroValue4
 t5:=underlying5
 a5:=isAgg5
 z5:=sizeOf5
 v5:=zeroValue5
 t9:=underlying9
 a9:=isAgg9
 z9:=sizeOf9
 v9:=zeroValue9
 t26:=underlying45
 a26:=isAgg45
 z26:=sizeOf45
 v26:=zeroValue45
 t27:=underlying45
 a27:=isAgg45
 z27:=sizeOf45
 v27:=zeroValue45
 t29:=underlying9
 a29:=isAgg9
 z29:=sizeOf9
 v29:=zeroValue9
 t32:=underlying280
 a32:=isAgg280
 z32:=sizeOf280
 v32:=zeroValue280
 t35:=underlying299
 a35:=isAgg299
 z35:=sizeOf299
 v35:=zeroValue299
 t36:=underlying300
 a36:=isAgg300
 z36:=sizeOf300
 v36:=zeroValue300
 t41:=underlying156
 a41:=isAgg156
 z41:=sizeOf156
 v41:=zeroValue156
 t44:=underlying285
 a44:=isAgg285
 z44:=sizeOf285
 v44:=zeroValue285
 t46:=underlying137
 a46:=isAgg137
 z46:=sizeOf137
 v46:=zeroValue137
 t53:=underlying308
 a53:=isAgg308
 z53:=sizeOf308
 v53:=zeroValue308
 t57:=underlying312
 a57:=isAgg312
 z57:=sizeOf312
 v57:=zeroValue312
 t63:=underlying314
 a63:=isAgg314
 z63:=sizeOf314
 v63:=zeroValue314
 t64:=underlying315
 a64:=isAgg315
 z64:=sizeOf315
 v64:=zeroValue315 }
def Tryz.clone106_ren:Go.Shelf.Ren:=⟨fun|5=>106|7=>173|n=>n,fun|23=>118|25=>9|3=>4|4=>4|20=>20|n=>n,fun|n=>n⟩
theorem Tryz.clone106:Go.Proofs.SlLaysW.n5 prog Tryz.clone106_ren:={
 mixed:=by rfl
 f5:=⟨f106.name,by decide,func106.trans (congrArg some (by rfl))⟩
 f7:=func173.trans (congrArg some (by rfl))
 t4:=underlying4
 a4:=isAgg4
 z4:=sizeOf4
 v4:=zeroValue4
 t20:=underlying20
 a20:=isAgg20
 z20:=sizeOf20
 v20:=zeroValue20
 t23:=underlying118
 a23:=isAgg118
 z23:=sizeOf118
 v23:=zeroValue118 }
theorem Tryz.sorts209(m:Nat):AnyZ.SortsIn prog Tryz.sorted209_ren Fence.wide m:=
 ⟨fun blk off cap ss W hH hblk hsz=>callsIn_wide.2 (AnyM.slices_Sort_string Tryz.sort236 blk off cap ss W hH hblk hsz),
  fun p cap W=>callsIn_wide.2 (AnyM.slices_Sort_string_none Tryz.sort236 p cap W)⟩
theorem Tryz.maps_Keys_210(mb:Option Nat)(W:World):CallsIn Fence.wide 5 prog 210 #[.map mb] W fun e w'=>e=.returned (.func (.func 237) #[] #[.pointer (some ⟨W.heap.size,0,none⟩)])/\w'=W.alloc (.cells #[.map mb] 221):=
 AnyZ.keys_in Tryz.keys210 Fence.wide 5 trivial rfl mb W
set_option maxHeartbeats 1000000 in
theorem Tryz.slices_Sorted_keys_209_210{H:Type}(b nn:Nat)(D0:DataW H)(R:Value->Option (DataW H×List MemPlace))(w:World)(hown:w.ownsMap prog 9 R b nn D0)(hmax:Maps.size D0<=maxLen)(hbytes:Maps.size D0*16<=140737488355328) :
  CallsIn Fence.wide 5 prog 209 #[.func (.func 237) #[] #[.pointer (some ⟨w.heap.size,0,none⟩)]] (w.alloc (.cells #[.map (some b)] 221)) fun e w'=>∃(v:Value)(ss:List a8),e=.returned v/\ss.Perm (strKeys D0) /\
   w'.ownsRow (w.alloc (.cells #[.map (some b)] 221)).heap.size 9 1 v ss.length ((ss.mergeSort (fun x y=>decide (x<=y))).map encStr)/\(v=.slice none 0 0 ↔ ss=[])/\Below (w.alloc (.cells #[.map (some b)] 221)).heap.size (w.alloc (.cells #[.map (some b)] 221)) w':=by
 have hbl:=hown.lt
 have hseq:SeqGives Fence.wide 2 prog 237 #[.pointer (some ⟨w.heap.size,0,none⟩)] encStr (fun ss=>ss.Perm (strKeys D0)) (Maps.size D0) (w.alloc (.cells #[.map (some b)] 221)):=
  AnyZ.keys_gives (ρ:=Tryz.keys210_ren) { Tryz.keys210 with } Fence.wide _ trivial rfl kQ1 w.heap.size b nn D0 _ (by simp) (by simp) (by
   obtain⟨es,clock,hb,Ft,hs,hD⟩:=hown;exact⟨es,clock,(Below.heap_alloc _ _ b hbl).trans hb,Ft,hs,hD⟩)
 exact AnyZ.sorted_in Tryz.sorted209 Fence.wide 5 trivial trivial trivial trivial rfl kQ1 (Tryz.sorts209 _) (enters_of func236 (by rfl) rfl) 237 #[.pointer (some ⟨w.heap.size,0,none⟩)] trivial (enters_of func237 (by rfl) rfl) _ _ hmax hbytes _ hseq
end Go.Proofs
end

section
namespace Go.Am
theorem Qy(c:C):(sct c).toV=sc c.toD:=rfl
theorem zp{n:Int}(h:0<=n/\n < 256):(((UInt8.ofNat n.toNat).toNat:Nat):Int)=n:=by
 grind [UInt8.toNat_ofNat']
theorem ZB(x:UInt8):0<=((x.toNat:Nat):Int)/\((x.toNat:Nat):Int) < 256:=by
 have:=x.toNat_lt
 omega
theorem Fa{k:IntKind}{n:Int}(h:k=.u8->0<=n/\n < 256):(mkC k n).toD=.int k n:=by
 cases k with
 |u8=>show D.int .u8 _=_;grind [zp]
 |_=>rfl
theorem ah2(n:Int):0<=IntKind.u8.wrap n/\IntKind.u8.wrap n < 256:=by
 have:=wf_wrap (k:=.u8) n
 simp only[Lit.wf,ai9,decide_eq_true_eq]at this;have h1:IntKind.u8.min=0:=by decide
 have h2:IntKind.u8.max=255:=by decide
 omega
theorem eJ{k:IntKind}{n:Int}:(mkC k (k.wrap n)).toD=.int k (k.wrap n):=Fa fun h=>by simp_all[ah2]
variable{c:C}
theorem iQ{k:IntKind}{n:Int}(h:kV c=some (k,n)):c.toD=.int k n/\(k=.u8->0<=n/\n < 256):=by
 unfold kV at h;split at h
 ·rename_i k' n';cases k'<;>simp only[ai8,Prod.mk.injEq,reduceCtorEq]at h<;>(obtain⟨rfl,rfl⟩:=h;exact⟨rfl,fun h=>by cases h⟩)
 ·rename_i x;simp only[ai8,Prod.mk.injEq]at h;obtain⟨rfl,rfl⟩:=h;exact⟨rfl,fun _=>ZB x⟩
 grind
theorem WO{k:Nat}{row:List D}(h:rX k=some row):row=gw.map D.str:=by
 grind [rX]
theorem vQ{v:Value}(h:okT v=true):(pB v).toT=rH v:=by
 cases v with
 |int k n=>
  simp only[pB,rH];cases k with
  |u8=>
   simp only[okT,Lit.wf,ai9,decide_eq_true_eq]at h;have h1:IntKind.u8.min=0:=by decide
   have h2:IntKind.u8.max=255:=by decide
   grind [Tt.toT,C.toD,zp]
  |_=>rfl
 |slice a l c=>cases a with
  |none=>match l,c with
   |0,0=>rfl
   |0,_+1=>rfl
   |_+1,_=>rfl
  |some _=>rfl
 |pointer p=>cases p<;>rfl
 |map p=>cases p<;>rfl
 |_=>rfl
theorem aj{s:St}{x:Operand}(h:aF x=true):ev s.toS x=(evA s x).toV:=by
 cases x with
 |tmp t=>exact dy t s.t
 |const v=>
  simp only[aF]at h;cases v with
  |agg cs=>
   simp only[ev,evA,cst,afE,At.toV,A1.toV]
   grind [ajN,okC,vQ,Array.all_eq_true_iff_forall_mem]
  |_=>
   grind [ev,evA,cst,afE,At.toV,A1.toV,vQ,okC]
 |func f=>rfl
 |global g=>
  simp only[aF]at h;simp only[ev,evA,adO];cases a:rX g with
  |none=>rfl
  |some row=>
   simp only[At.toV,A1.toV,Tt.toT,WO a];rfl
variable{i:Nat}{op:BinOp}{t:TypeId}{x:At}
section
variable {k:At->Prop}
abbrev up(k:At->Prop):AV->Prop:=fun v=>∃a,v=a.toV/\k a
theorem OB{d:D}(h:k (sct c))(e:c.toD=d):up k (sc d):=⟨sct c,by rw[Qy,e],h⟩
theorem XX{c y:At}(h:xm c x y k):Ky c.toV x.toV y.toV (up k):=by
 unfold xm at h;split at h
 ·rename_i b;cases b
  ·rw[if_neg (by simp)]at h;exact⟨y,rfl,h⟩
  rw[if_pos rfl]at h;exact⟨x,rfl,h⟩
 grind
theorem ahW{a b:Int}(d:0<=a/\a < 256):0<=a.tmod b/\a.tmod b < 256:=by
 refine⟨Int.tmod_nonneg _ d.1,?_⟩;rcases Int.lt_or_le b 0 with h|h
 ·rw[<- Int.tmod_neg];rcases Int.lt_or_le a (-b)with h'|h'
  ·simp_all[Int.tmod_eq_of_lt]
  have:=Int.tmod_lt_of_pos a (show 0 < -b by omega);omega
 rcases Int.lt_or_le a b with h'|h'
 ·simp_all[Int.tmod_eq_of_lt]
 rcases Int.lt_or_eq_of_le h with c|c
 ·have:=Int.tmod_lt_of_pos a c;omega
 grind
theorem ahI{a:Int}{m:Nat}(b:0<=a/\a < 256):0<=a.fdiv (2 ^ m)/\a.fdiv (2 ^ m) < 256:=by
 have hp:(0:Int) < 2 ^ m:=Int.pow_pos (by decide)
 rw[Int.fdiv_eq_ediv_of_nonneg _ kQ1];refine⟨Int.ediv_nonneg b.1 kQ1,?_⟩;have:=Int.ediv_le_self (2 ^ m) b.1
 omega
theorem Zt{x y:C}{K:C->Prop}(h:BF op x y K):vJ op x.toD y.toD (fun d=>∃c:C,c.toD=d/\K c):=by
 unfold BF at h;split at h
 ·rename_i a b;cases op<;>first|exact h.elim|exact⟨_,rfl,h⟩|exact⟨h.1,_,rfl,h.2⟩
 split at h
 ·rename_i k a k' b hx hy;obtain⟨ex,g⟩:=iQ hx;obtain⟨e,f⟩:=iQ hy;rw[ex,e];split at h
  ·rename_i hk;unfold NJ at h;cases op<;>simp only[afR,ajC,false_or,true_or]at hk<;>simp only[vJ]
   case add=>grind [eJ]
   case sub=>grind [eJ]
   case mul=>grind [eJ]
   case quo=>grind [eJ]
   case rem=>grind [Fa,ahW]
   case and=>grind [eJ]
   case or=>grind [eJ]
   case xor=>grind [eJ]
   case andNot=>grind [eJ]
   case shl=>grind [eJ]
   case shr=>grind [Fa,ahI]
   case eql=>exact⟨hk,_,rfl,h⟩
   case neq=>exact⟨hk,_,rfl,h⟩
   case lss=>exact⟨hk,_,rfl,h⟩
   case leq=>exact⟨hk,_,rfl,h⟩
   case gtr=>exact⟨hk,_,rfl,h⟩
   case geq=>exact⟨hk,_,rfl,h⟩
  grind
 grind
theorem L5{x y:D}{K K':D->Prop}(hk:∀d,K d->K' d)(h:vJ op x y K):vJ op x y K':=by
 cases x<;>cases y<;>try exact h.elim
 ·cases op<;>simp only[vJ]at h⊢<;>first|exact⟨h.1,h.2.1,hk _ h.2.2⟩|grind
 cases op<;>simp only[vJ]at h⊢<;>first|exact⟨h.1,hk _ h.2⟩|grind|exact h.elim
theorem afH{ck:CK}{x y:C}{b:Bool}(h:eqC ck x y=some b):eqD ck x.toD y.toD=some b:=by
 unfold eqC at h;cases ck with
 |i=>
  dsimp only at h;split at h
  ·rename_i k a k' b' hx hy;rw[(iQ hx).1,(iQ hy).1];exact h
  grind
 |s=>
  dsimp only at h;split at h
  ·exact h
  grind
 |b=>
  dsimp only at h;split at h
  ·exact h
  grind
theorem EC:∀{l:List (Nat×CK)}{xs ys:List C}{b:Bool},Sl l xs ys=some b->jY l (xs.map C.toD) (ys.map C.toD)=some b
 |[],_,_,_,h=>h
 |(o,ck)::l,xs,ys,b,h=>by
  unfold Sl at h;unfold jY;rw[ajD,ajD];cases hx:xs[o]? with
  |none=>grind
  |some x=>
   cases hy:ys[o]? with
   |none=>grind
   |some y=>
    rw[hx,hy]at h;dsimp only[Option.map_some]at h⊢;cases a:eqC ck x y with
    |none=>grind
    |some c=>
     rw[a]at h;rw[afH a];cases l with
     |nil=>exact h
     |cons z l=>
      dsimp only at h⊢;cases hr:Sl (z::l) xs ys with
      |none=>grind
      |some r=>rw[hr]at h;rw[EC hr];exact h
theorem Vt(t:Tt)(h:TD t.toT≠.any\/True):(TC t).toD=TD t.toT:=by
 cases t<;>rfl
theorem aeR{x y:C}{K:C->Prop}(h:BF op x y K):(∃b,y=.s b)\/∃k n,kV y=some (k,n):=by
 unfold BF at h
 grind
theorem Zw{P:Program}{y:At}(h:Ij P op t x y k):L6 P op t x.toV y.toV (up k):=by
 unfold Ij at h;split at h
 ·rename_i a b;split at h
  ·rename_i g;refine⟨g,?_⟩;cases op<;>first|exact h.elim|exact⟨_,rfl,h⟩
  grind
 ·rename_i q;split at h
  ·rename_i kt et z g f;have e:afW q.toD=some z:=by
    unfold afV at f;split at f
    ·rename_i ku vu o;rw[<- f];cases o<;>rfl
    ·rw[<- f];rfl
    grind
   have key:afX P op t q.toD (up k):=⟨⟨_,_,g⟩,by
    rw[e];cases op<;>first|exact h.elim|exact⟨_,rfl,h⟩⟩
   cases q<;>exact key
  grind
 ·rename_i a b m j;have h':=Zt h
  have key:vJ op a.toD b.toD (fun d=>up k (sc d)):=by
   refine L5 ?_ h';rintro d ⟨c,rfl,hc⟩
   exact⟨sct c,rfl,hc⟩
  rcases aeR h with⟨b',rfl⟩|⟨κ,n,hb⟩
  ·cases a with
   |mp ku vu l=>exact h.elim
   |_=>exact key
  cases b with
  |i k n=>cases a with
   |mp ku vu l=>exact h.elim
   |_=>exact key
  |b x=>cases a with
   |mp ku vu l=>exact h.elim
   |_=>exact key
  |_=>cases hb
 ·rename_i xs ys;split at h
  ·rename_i l hl;have p:(xs.map Tt.toT).map TD=(xs.map TC).map C.toD:=by
    grind [ajN,Vt]
   have r:(ys.map Tt.toT).map TD=(ys.map TC).map C.toD:=by
    grind [ajN,Vt]
   simp only[At.toV,A1.toV,L6];rw[hl,p,r];dsimp only;split at h
   ·rename_i b hb;rw[EC hb];exact⟨_,rfl,h⟩
   ·rename_i b hb;rw[EC hb];exact⟨_,rfl,h⟩
   grind
  grind
 grind
theorem agJ{op:UnOp}(h:unT op x k):unK op x.toV (up k):=by
 unfold unT at h;split at h
 ·exact⟨_,rfl,h⟩
 ·rename_i c;split at h
  ·rename_i κ n hc;simp only[At.toV,A1.toV,Tt.toT,(iQ hc).1];exact OB h eJ
  grind
 ·rename_i c;split at h
  ·rename_i κ n hc;simp only[At.toV,A1.toV,Tt.toT,(iQ hc).1];exact OB h eJ
  grind
 grind
theorem IT(h:jk x i k):kO x.toV i (up k):=by
 unfold jk at h
 grind [At.toV,kO]
theorem T8{i:At}(h:qq x i k):wF x.toV i.toV (up k):=by
 unfold qq at h
 grind [C.toD,wF,Qy]
theorem Ff(h:gP x k):nv x.toV (up k):=by
 unfold gP at h;split at h
 ·exact⟨_,rfl,h⟩
 ·exact⟨_,rfl,h⟩
 ·exact⟨_,rfl,h⟩
 grind
theorem Sr{P:Program}(h:pG P t x i k):vS P t x.toV i (up k):=by
 unfold pG at h;split at h
 ·rename_i fs ts hk;simp only[At.toV,A1.toV,vS];rw[hk];dsimp only;cases hf:fs[i]? with
  |none=>grind
  |some f=>
   obtain⟨off,size,b⟩:=f;rw[hf]at h
   match b,h with
   |some false,h=>
    dsimp only at h⊢;rw[ajD];cases a:ts[off]? with
    |none=>grind
    |some t'=>rw[a]at h;exact⟨_,rfl,h⟩
   |some true,h=>
    dsimp only at h⊢;split at h
    ·rename_i hb;refine⟨by simp_all,.one (.agg ((ts.drop off).take size)),?_,h⟩;simp only[At.toV,A1.toV,ak0,alA]
    grind
   |none,h=>omega
 grind
theorem Wx{P:Program}{d b:TypeId}(h:xa P d b x k):ub P d b x.toV (up k):=by
 unfold xa at h;split at h
 ·rename_i f κ h1 h2;split at h
  ·rename_i c;split at h
   ·rename_i g n hc;simp only[At.toV,A1.toV,Tt.toT,(iQ hc).1,ub,h1,h2];exact OB h eJ
   grind
  grind
 ·rename_i e h1 h2;split at h
  ·rename_i h3;split at h
   ·rename_i l;simp only[At.toV,A1.toV,Tt.toT,C.toD,ub,h1,h2];refine⟨h3,?_⟩;have:∀l:a8,uc (l.map (ap .b8))=some l:=by
     intro l;induction l with
     |nil=>rfl
     |cons a l ih=>
      simp_all[ap,uc]
    rw[this l];exact⟨_,rfl,h⟩
   ·simp only[At.toV,A1.toV,Tt.toT,ub,h1,h2];exact⟨h3,_,rfl,h⟩
   grind
  grind
 grind
end
theorem K8(t:Tt):t.toT.sure=t.sure:=by
 cases t with
 |d c=>cases c<;>rfl
 |_=>rfl
def RH(t:Tt)(t':T):Prop:=t'=t.toT\/∃sh u l,∃l':List (List D),t=.ow sh u l/\t'=.ow sh l'/\l'.length=l.length
structure HL (ts:List Tt) (ts':List T):Prop where
 len:ts'.length=ts.length
 nth:∀(i:Nat)(t:Tt)(t':T),ts[i]? = some t->ts'[i]? = some t'->RH t t'
theorem vz(ts:List Tt):HL ts (ts.map Tt.toT):=by
 refine⟨by simp,fun i t t' h h'=>?_⟩;rw[ajD,h]at h';exact .inl (Option.some.inj h').symm
variable{ts:List Tt}{ts':List T}
theorem HL.drop(h:HL ts ts')(n:Nat):HL (ts.drop n) (ts'.drop n):=
 ⟨by simp[h.len],fun i t t' h1 h2=>by grind [nth]⟩
theorem HL.take(h:HL ts ts')(n:Nat):HL (ts.take n) (ts'.take n):=
 ⟨by simp[h.len],fun i t t' h1 h2=>by
  grind [nth]⟩
theorem lZ:∀(q:List Step)(sub:List Sh)(l:List (List D))(x:D),(bX sub l x q).length=l.length
 |[],_,_,_=>rfl
 |[st],_,_,_=>by simp[bX]
 |st::a::r,sub,l,x=>by
  grind [bX]
theorem yP(cells:List Tt)(hole:Option (Nat×Step×List Step)):HL cells (holed (cells.map Tt.toT) hole):=by
 cases hole with
 |none=>exact vz cells
 |some h=>
  obtain⟨off,st,q⟩:=h;simp only[holed];split
  ·rename_i sub l hc;refine⟨by simp,fun i t t' h1 h2=>?_⟩;by_cases hi:off=i
   ·subst hi;rw[ajD,h1]at hc;have a:=Option.some.inj hc
    have c:off < (cells.map Tt.toT).length:=by
     grind
    rw[ajW c]at h2;have b:=Option.some.inj h2
    cases t with
    |ow sh u d=>
     simp only[Tt.toT,T.ow.injEq]at a;obtain⟨rfl,rfl⟩:=a;exact .inr ⟨_,_,_,_,rfl,b.symm,by rw[lZ];simp⟩
    |_=>grind [Tt.toT]
   rw[ak7 hi]at h2;exact(vz cells).nth i t t' h1 h2
  grind [vz]
theorem Vb{t:Tt}{t':T}(h:RH t t')(q:Pl):Cc q t'=(KH q t).toT:=by
 rcases h with rfl|⟨sh,u,l,l',rfl,rfl,_⟩
 ·cases t<;>rfl
 rfl
theorem Y7(h:HL ts ts')(p:Pl):uU p ts'=(A7 p ts).map Tt.toT:=by
 refine aj9 fun i=>?_
 grind [uU,A7,HL.len,Vb,HL.nth]
variable{u:U}
theorem pM(l:List (El u))(h:i<l.length):(l.map (ap u)).getD i []=ap u (l.getD i (dflt u)):=by
 grind
theorem lW(l:List (El u))(h:i<l.length):(l.map (ap u))[i]? = some (ap u (l.getD i (dflt u))):=by
 grind
def Xy(s:Sh)(c:C):Tt:=match s,c with
 |Sh.fr,x=>Tt.d x
 |Sh.ow s,C.li u' l'=>Tt.ow s u' l'
 |_,_=>Tt.any
theorem Xz(s:Sh)(c:C):mkT s c.toD=(Xy s c).toT:=by
 cases s with
 |fr=>rfl
 |ow s=>cases c<;>rfl
theorem FT:∀(s:List Sh)(c:List C),List.zipWith mkT s (c.map C.toD)=(List.zipWith Xy s c).map Tt.toT
 |[],_=>by simp
 |_::_,[]=>by simp
 |s::a,c::cs=>by grind [Xz]
theorem MI:∀{path:List Step}{sub:List Sh}{u:U}{l:List (El u)}{n:Nat}{ts:List Tt}{K:List T->Prop},okO sub (l.map (ap u)) path->inT sub u l n path=some ts->K (ts.map Tt.toT)->inK sub (l.map (ap u)) n path K
 |[],_,_,_,_,_,_,h,_,_=>h.elim
 |[st],sub,u,l,n,ts,K,h,a,b=>by
  obtain⟨h1,h2,h3⟩:=h;rw[ajH]at h1;simp only[inT]at a;split at a
  ·rename_i hb;simp only[ai8]at a;refine⟨ajG hb,?_⟩;rw[lW l h1];dsimp only;rw[<- bR,<- alA,<- ak0,FT];subst a;exact b
  grind
 |st::e::r,sub,u,l,n,ts,K,h,a,b=>by
  obtain⟨⟨h1,h2,h3⟩,h4⟩:=h;rw[ajH]at h1;simp only[inT]at a;split at a
  ·rename_i s u' l' d f;simp only[inK];rw[lW l h1];dsimp only;have c:(ap u (l.getD st.idx (dflt u)))[st.off]? = some (.li (l'.map (ap u'))):=by
    rw[<- bR,ajD,f];rfl
   rw[d,c];dsimp only;rw[d,pM l h1,List.getD,c]at h4;exact MI h4 a b
  grind
def okP(m:Mm)(p:Pl):Prop:=match p.path with
 |[]=>True
 |st::q=>∃r sub l,af m p.root=some r/\r.cells[p.off]? = some (.ow sub l)/\okO sub l (st::q)
variable{p:Pl}
theorem NO{m:Mm}(h:bU m p):okP m p:=by
 grind [okP,bU]
theorem pY{m:Mm}(h:gU m p):okP m p:=by
 grind [okP,gU]
variable{n:Nm}{r:Rt}
theorem bi{m:List (Nm×Nat×Rt)}(h:bJ m n=some r):af (toM m) n=some r.toR:=by grind [uh]
theorem QE{a:List Sh}{xs:List D}{t:T}(h:(List.zipWith mkT a xs)[i]? = some t):∃s x,a[i]? = some s/\xs[i]? = some x/\t=mkT s x:=by
 grind
theorem WW:∀{path hp:List Step}{sub:List Sh}{u:U}{l:List (El u)}{n:Nat}{ts:List Tt}{K:List T->Prop},path.length<hp.length->okO sub (bX sub (l.map (ap u)) .any hp) path->inT sub u l n path=some ts->(∀ts',HL ts ts'->K ts')->inK sub (bX sub (l.map (ap u)) .any hp) n path K
 |[],_,_,_,_,_,_,_,_,h,_,_=>h.elim
 |_::_,[],_,_,_,_,_,_,g,_,_,_=>by grind
 |[_],[_],_,_,_,_,_,_,g,_,_,_=>by grind
 |_::_::_,[_],_,_,_,_,_,_,g,_,_,_=>by grind
 |[st],h::h'::hr,sub,u,l,n,ts,K,g,p,j,A=>by
  have f:(bX sub (l.map (ap u)) .any (h::h'::hr)).length=l.length:=by grind [lZ]
  have c:=p.1
  rw[f]at c;simp only[inT]at j;split at j
  ·rename_i hb;simp only[ai8]at j;refine⟨ajG hb,?_⟩;have z:((l.map (ap u))[st.idx]?)=some (ap u (l.getD st.idx (dflt u))):=lW l c
   have key:∀x,(bX sub (l.map (ap u)) .any (h::h'::hr))[st.idx]? = some x->(x=ap u (l.getD st.idx (dflt u))\/∃s l1,sub[h.off]? = some (.ow s)/\(ap u (l.getD st.idx (dflt u)))[h.off]? = some (.li l1)/\x=(ap u (l.getD st.idx (dflt u))).set h.off (.li (bX s l1 .any (h'::hr)))):=by
    intro x hx;simp only[bX]at hx;split at hx
    ·rename_i s l1 v m;rw[List.getElem?_set]at hx;split at hx
     ·rename_i H;split at hx
      ·have w:=Option.some.inj hx
       rw[H,pM l c]at m w;refine .inr ⟨s,l1,v,?_,w.symm⟩;rw[List.getD]at m;cases h3:(ap u (l.getD st.idx (dflt u)))[h.off]? with
       |none=>rw[h3]at m;cases m
       |some d=>grind
      grind
     grind
    grind
   have o:st.idx < (bX sub (l.map (ap u)) .any (h::h'::hr)).length:=by omega
   rw[ajA o];dsimp only;rcases key _ (ajA o)with e|⟨s,l1,v,m,e⟩
   ·rw[e,<- bR,<- alA,<- ak0,FT];subst j;exact A _ (vz _)
   rw[e];refine A _ ?_;subst j;have q:List.zipWith mkT ((sub.drop st.off).take n) (((ap u (l.getD st.idx (dflt u))).drop st.off).take n)=(List.zipWith Xy ((sub.drop st.off).take n) (((flat u (l.getD st.idx (dflt u))).drop st.off).take n)).map Tt.toT:=by
    rw[<- bR,<- alA,<- ak0,FT]
   refine⟨?_,fun i t t' Q J=>?_⟩
   ·grind [ajH]
   obtain⟨s0,M,b1,b2,b3⟩:=QE J;have y:((List.zipWith Xy ((sub.drop st.off).take n) (((flat u (l.getD st.idx (dflt u))).drop st.off).take n)).map Tt.toT)[i]? = some t.toT:=by
    grind [Xy]
   rw[<- q]at y;obtain⟨s1,R,D,k,B⟩:=QE y;rw[b1]at D;obtain rfl:=Option.some.inj D;rw[List.getElem?_take]at b1 b2 k;split at b2
   ·rename_i C;rw[if_pos C]at b1 k;rw[ak3]at b1 b2 k;rw[List.getElem?_set]at b2;split at b2
    ·rename_i F;rw[<- F]at b1 k;rw[v]at b1;obtain rfl:=Option.some.inj b1;rw[m]at k;obtain rfl:=Option.some.inj k;split at b2
     ·obtain rfl:=Option.some.inj b2;rw[b3];cases t with
      |ow E S l2=>
       simp only[mkT,Tt.toT,T.ow.injEq]at B;obtain⟨rfl,O⟩:=B;refine .inr ⟨_,_,_,_,rfl,rfl,?_⟩
       grind [lZ]
      |_=>grind [mkT,Tt.toT]
     grind
    rw[b2]at k;obtain rfl:=Option.some.inj k;rw[b3,<- B];exact .inl rfl
   grind
  grind
 |st::G::r,h::h'::hr,sub,u,l,n,ts,K,g,p,j,A=>by
  have f:(bX sub (l.map (ap u)) .any (h::h'::hr)).length=l.length:=by grind [lZ]
  obtain⟨⟨hi,P,N⟩,a⟩:=p;rw[f]at hi;simp only[inT]at j;split at j
  ·rename_i s u' l' v m;have z:((l.map (ap u))[st.idx]?)=some (ap u (l.getD st.idx (dflt u))):=lW l hi
   have L:(ap u (l.getD st.idx (dflt u)))[st.off]? = some (.li (l'.map (ap u'))):=by
    rw[<- bR,ajD,m];rfl
   have key:∃x,(bX sub (l.map (ap u)) .any (h::h'::hr))[st.idx]? = some x/\(x[st.off]? = some (.li (l'.map (ap u')))\/x[st.off]? = some (.li (bX s (l'.map (ap u')) .any (h'::hr)))):=by
    simp only[bX]
    grind
   obtain⟨x,hx,b⟩:=key;have I:(bX sub (l.map (ap u)) .any (h::h'::hr)).getD st.idx []=x:=by grind
   rw[v,I]at a;simp only[inK];rw[hx];dsimp only;rw[v];rcases b with b|b
   ·grind [MI,vz]
   rw[List.getD,b]at a;rw[b];dsimp only at a⊢;exact WW (by grind) a j A
  grind
theorem L3{m:List (Nm×Nat×Rt)}{n:Nat}{K:List T->Prop}(hp:okP (toM m) p)(h:atT m p n=some ts)(t:∀ts',HL ts ts'->K ts'):atK (toM m) p n K:=by
 unfold atT at h;split at h
 ·cases h
 rename_i r hr;unfold atK;rw[bi hr];dsimp only;unfold okP at hp;split at h
 ·rename_i a;rw[a];split at h
  ·rename_i hb;simp only[ai8]at h;have i:=yP r.cells r.hole
   refine⟨?_,t _ ?_⟩
   ·show p.off+n<=(holed (r.cells.map Tt.toT) r.hole).length
    rw[i.len];simp_all
   subst h;exact(i.drop _).take _
  grind
 rename_i st q a;rw[a]at hp⊢;split at h
 ·rename_i sub u l b hc;obtain⟨x,g,l',o,z,w⟩:=hp;rw[bi hr]at o;obtain rfl:=Option.some.inj o;have c:r.toR.cells[p.off]? = some (.ow sub (l.map (ap u)))->(match st::q,r.toR.cells[p.off]? with
    |[],_=>p.off+n<=r.toR.cells.length/\K ((r.toR.cells.drop p.off).take n)
    |st::q,some (.ow sub l)=>inK sub l n (st::q) K
    |_,_=>False):=by
   grind [MI,vz]
  cases e:r.hole with
  |none=>
   refine c ?_;show(holed (r.cells.map Tt.toT) r.hole)[p.off]? = _
   rw[e];show(r.cells.map Tt.toT)[p.off]? = _
   rw[ajD,hc];rfl
  |some v=>
   obtain⟨off,f,j⟩:=v;rw[e]at b;have s:(st::q).length < (f::j).length:=ajG b
   by_cases d:off=p.off
   ·subst d;have k:p.off < (r.cells.map Tt.toT).length:=by grind
    have y:r.toR.cells[p.off]? = some (.ow sub (bX sub (l.map (ap u)) .any (f::j))):=by
     show(holed (r.cells.map Tt.toT) r.hole)[p.off]? = _
     grind [holed,Tt.toT]
    grind [WW]
   refine c ?_;show(holed (r.cells.map Tt.toT) r.hole)[p.off]? = _
   rw[e];simp only[holed];split
   ·rw[ak7 d,ajD,hc];rfl
   rw[ajD,hc];rfl
 grind
theorem Bm{m:List (Nm×Nat×Rt)}{sh:List Sh}{l:List (El u)}{K:List T->Prop}(hp:okP (toM m) p)(h:sliceAt m p=some ⟨sh,u,l⟩)(d:∀l':List (List D),l'.length=l.length->K [.ow sh l']):atK (toM m) p 1 K:=by
 unfold sliceAt at h;split at h
 ·rename_i c u' l' f;cases h;refine L3 hp f (fun ts' a=>?_);have hl:=a.len
  match ts',hl with
  |[t'],_=>
   rcases a.nth 0 _ _ rfl rfl with e|⟨b,k,l2,n,i,j,g⟩
   ·rw[e];exact d _ (by simp)
   grind
 grind
variable{gd:Option (Nat×Bool)}{ps:Array (Nat×Operand)}{zs:List Value}
section
variable {k:At->Prop} {m:List (Nm×Nat×Rt)}
theorem EI{n:Nat}{q:Prop}(h:gift gd n q):n<=4611686018427387904->q:=by
 cases gd with
 |none=>exact h
 |some _=>exact fun _=>h
theorem abF{k:Nat->Prop}(hp:∀p,x=.one (.c (.rf p))->okP (toM m) p)(h:JU gd m x k):JT (toM m) x.toV k:=by
 unfold JU at h;split at h
 ·exact EI h
 ·grind [At.toV,A1.toV,Tt.toT,C.toD,JT,EI]
 ·exact h
 all_goals grind [At.toV,A1.toV,Tt.toT,JT,Bm,EI]
theorem mW{x:Option At}{d:Nat}{k:Nat->Prop}(h:fQ x d k):g8 (x.map At.toV) d k:=by
 unfold fQ at h;split at h
 ·exact h
 ·exact h
 grind
theorem TX{P:Program}{lo hi:Option At}(h:ql P t x lo hi k):mJ P t x.toV (lo.map At.toV) (hi.map At.toV) (up k):=by
 have c:∀{y:Option At}{d:Nat}{k1 k2:Nat->Prop},(∀n,k1 n->k2 n)->fQ y d k1->fQ y d k2:=by
  intro y d k1 k2 hk hb;unfold fQ at hb⊢
  grind
 unfold ql at h;split at h
 ·rename_i l;split at h
  ·rename_i f;refine⟨f,mW (c (fun a g=>mW (c (fun b hb=>?_) g)) h)⟩;exact⟨hb.1,_,rfl,hb.2⟩
  grind
 ·rename_i u l;split at h
  ·rename_i e f;split at h
   ·rename_i hc;simp only[ai9]at hc;simp only[At.toV,A1.toV,Tt.toT,C.toD,mJ,f];refine⟨hc.1,fun y hy=>?_,mW (c (fun a g=>?_) h)⟩
    ·grind [lU,ajF]
    rw[ajH]
    grind [mW,At.toV,A1.toV,Tt.toT,C.toD,ak0,alA]
   grind
  grind
 all_goals grind [At.toV,A1.toV,Tt.toT,mJ,mW]
theorem pP{n:Nat}(h:jo m p n=true):iZ (toM m) p n:=by
 unfold jo at h;split at h
 ·cases h
 rename_i r hr;unfold iZ room;rw[bi hr];dsimp only;have c:=yP r.cells r.hole
 split at h
 ·rename_i a;rw[a];show n < (holed (r.cells.map Tt.toT) r.hole).length-p.off
  rw[c.len];exact ajG h
 ·rename_i st q sub u l a hc;rw[a];split at h
  ·rename_i k hk;have f:=(akH.1 hc).1
   have b:p.off < (holed (r.cells.map Tt.toT) r.hole).length:=by grind [HL.len]
   have:=c.nth p.off _ _ hc (ajA b)
   have e:∃l',r.toR.cells[p.off]? = some (.ow sub l'):=by
    rcases this with e|⟨sh,j,l2,g,d,i,_⟩
    ·exact⟨_,by show(holed _ _)[p.off]? = _;rw[ajA b,e];rfl⟩
    simp only[Tt.ow.injEq]at d;obtain⟨rfl,_,_⟩:=d;exact⟨g,by show(holed _ _)[p.off]? = _;grind⟩
   grind [ajG]
  grind
 grind
theorem BN{P:Program}(h:fg P m t x i k):gy P (toM m) t x.toV i (up k):=by
 unfold fg at h;split at h
 ·rename_i fs a;unfold gy;rw[a];dsimp only;cases hf:fs[i]? with
  |none=>grind
  |some f=>
   obtain⟨off,size,b⟩:=f;rw[hf]at h;cases size with
   |zero=>grind
   |succ size=>
    dsimp only at h⊢;refine⟨by omega,?_⟩;split at h
    ·split at h
     ·rename_i hr;exact⟨pP hr,_,rfl,h⟩
     grind
    ·exact⟨_,rfl,h⟩
    grind
 grind
theorem rZ{P:Program}{i:At}(hp:∀p,x=.one (.c (.rf p))->okP (toM m) p)(h:eA P m t x i k):gA P (toM m) t x.toV i.toV (up k):=by
 unfold eA at h;split at h
 ·rename_i κ n;simp only[At.toV,A1.toV,Tt.toT,C.toD,gA];split at h
  ·rename_i e a;rw[a];split at h
   ·grind [At.toV,A1.toV,Tt.toT,lU,ajF,bR]
   ·rename_i p;split at h
    ·rename_i hc;simp only[ai9]at hc;split at h
     ·rename_i sh u l hs;split at h
      ·rename_i hb;obtain⟨h1,h2⟩:=h;simp only[At.toV,A1.toV,Tt.toT];refine⟨hc.1,by have:=ajG hc.2;omega,Bm (hp p rfl) hs (fun l' hl=>?_)⟩;dsimp only;exact⟨⟨h1.1,by omega⟩,ajF hb,_,rfl,h2⟩
      grind
     grind
    grind
   grind
  ·rename_i N e a;rw[a];split at h
   ·rename_i u l i;split at h
    ·rename_i hc;simp only[ai9]at hc;obtain⟨h1,h2⟩:=h;simp only[At.toV,A1.toV,Tt.toT];refine⟨hc.1.1,h1,_,?_,h2⟩;simp only[At.toV,A1.toV,Tt.toT];rw[ajF hc.1.2,Nat.mul_one,Nat.add_comm];rfl
    grind
   all_goals grind [At.toV,A1.toV,Tt.toT,pP]
  grind
 grind
theorem Ar{P:Program}(hp:∀p,x=.one (.c (.pl p))->okP (toM m) p)(h:kY P m t x k):uu P (toM m) t x.toV (up k):=by
 unfold kY at h;split at h
 ·rename_i b;refine⟨b,?_⟩;split at h
  ·rename_i row o;simp only[At.toV,A1.toV,Tt.toT];split at h
   ·rename_i a;rw[if_pos a];split at h
    ·rename_i hb;refine⟨by simp_all,fun _=>⟨_,?_,h⟩⟩;simp only[At.toV,A1.toV,AV.one.injEq,AV1.agg.injEq];rw[akA,<- alA,<- ak0,akA];rfl
    grind
   rename_i a;rw[if_neg (by grind),ajD];split at h
   ·rename_i c hc;rw[hc];exact fun _=>⟨_,rfl,h⟩
   grind
  ·rename_i u l i;simp only[At.toV,A1.toV,Tt.toT];split at h
   ·rename_i a hl;have e:l[i]? = some (l.getD i (dflt u)):=by grind
    rw[if_neg (by grind),ajD,e];exact fun _=>⟨_,rfl,h.2⟩
   grind
  ·rename_i p;simp only[At.toV,A1.toV,Tt.toT];split at h
   ·grind [L3,At.toV,A1.toV,Y7]
   rename_i a;rw[if_neg (by grind)];split at h
   ·rename_i t' d;refine L3 (hp p rfl) d (fun ts' f=>?_);have hl:=f.len
    match ts',hl with
    |[g],_=>
     dsimp only;refine fun _=>⟨_,?_,h⟩
     simp only[At.toV,A1.toV];rw[Vb (f.nth 0 _ _ rfl rfl)]
   grind
  grind
 grind
theorem sy(x:At):eT x.toV=(lP x).map (·.map Tt.toT):=by
 cases x with
 |one x=>cases x<;>rfl
 |_=>rfl
theorem Tv{α β:Type}(f:α->β)(ts cs:List α)(off:Nat):(overw ts off cs).map f=overw (ts.map f) off (cs.map f):=by
 grind [overw,ak0,alA]
theorem qO{pl:Nat->Option (Nat×Nat)}:∀{a:List (Nat×At)}{ts ts':List Tt},mB pl ts a=some ts'->jP pl (ts.map Tt.toT) (a.map fun x=>(x.1,x.2.toV))=some (ts'.map Tt.toT)
 |[],ts,ts',h=>by simp only[mB,ai8]at h;subst h;rfl
 |(i,x)::r,ts,ts',h=>by
  simp only[mB]at h;simp only[List.map_cons,jP];cases b:pl i with
  |none=>grind
  |some q=>
   obtain⟨off,size⟩:=q;cases hc:lP x with
   |none=>grind
   |some cs=>
    rw[b,hc]at h;dsimp only at h;split at h
    ·rename_i hb;simp only[ai9]at hb;rw[sy,hc];dsimp only[Option.map_some];have hs:(cs.map Tt.toT).all T.sure=true:=by
      grind [K8]
     rw[if_pos ⟨by grind [ajF],by rw[ajH,ajH];exact ajG hb.1.2,hs⟩];rw[<- Tv];exact qO h
    grind
theorem wq{s:St}(h:(ps.toList.all fun x=>aF x.2)=true):lb s.toS ps=(fo s ps).map fun x=>(x.1,x.2.toV):=by
 grind [lb,fo,ajN,aj]
theorem PM(h:zs.all okT=true):(zs.map pB).map Tt.toT=zs.map rH:=by
 grind [ajN,vQ]
theorem ac1{P:Program}{pl:List (Nat×Nat)}(h:zst P t=some (zs,pl)):zs.all okT=true:=by
 grind [zst]
theorem Rr{P:Program}{a:List (Nat×At)}(h:px P t a k):sw P t (a.map fun x=>(x.1,x.2.toV)) (up k):=by
 unfold px at h;split at h
 ·rename_i zs b c;split at h
  ·rename_i ts hf;unfold sw;rw[c];dsimp only;have:=qO hf
   rw[PM (ac1 c)]at this;rw[this];exact⟨.one (.agg ts),rfl,h⟩
  grind
 grind
end
theorem dV(bad:Bool->Pl->Bool)(t:Tt):(t.kill bad).toT=t.toT.kill bad:=by
 cases t with
 |pl p=>
  show(if bad false p=true then Tt.any else Tt.pl p).toT=if bad false p=true then T.any else T.pl p
  grind [Tt.toT]
 |rf p=>
  show(if bad true p=true then Tt.any else Tt.rf p).toT=if bad true p=true then T.any else T.rf p
  grind [Tt.toT]
 |_=>rfl
theorem zb(bad:Bool->Pl->Bool)(ts:List Tt):(ts.map (·.kill bad)).map Tt.toT=(ts.map Tt.toT).map (·.kill bad):=by
 grind [ajN,dV]
theorem wJ(bad:Bool->Pl->Bool)(x:A1):(x.kill bad).toV=x.toV.kill bad:=by
 cases x<;>grind [A1.kill,A1.toV,AV1.kill,dV,zb]
theorem F6(bad:Bool->Pl->Bool)(x:At):(x.kill bad).toV=x.toV.kill bad:=by
 cases x with
 |one x=>simp only[At.kill,At.toV,AV.kill,wJ]
 |tup xs=>
  simp_all[At.kill,At.toV,AV.kill,wJ]
 |any=>rfl
variable{bad:Bool->Pl->Bool}
theorem iG{t:Tt}(h:t.hit bad=false):t.kill bad=t:=by
 cases t<;>grind [Tt.hit,Tt.kill]
theorem pj:∀{ts:List Tt},ts.any (·.hit bad)=false->ts.map (·.kill bad)=ts
 |[],_=>rfl
 |t::ts,h=>by
  simp only[List.any_cons,Bool.or_eq_false_iff]at h;rw[List.map_cons,iG h.1,pj h.2]
theorem yl{x:A1}(h:x.hit bad=false):x.kill bad=x:=by
 cases x with
 |c t=>simp only[A1.kill,iG (show t.hit bad=false from h)]
 |agg ts=>simp only[A1.kill,pj (show ts.any _=false from h)]
theorem Lr(h:x.hit bad=false):x.kill bad=x:=by
 cases x with
 |one x=>simp only[At.kill,yl (show x.hit bad=false from h)]
 |tup xs=>
  simp only[At.hit]at h;simp only[At.kill]
  congr 1
  induction xs<;>grind [yl]
 |any=>rfl
theorem MH(bad:Bool->Pl->Bool)(cells:List Tt)(hole:Option (Nat×Step×List Step)) :
  holed ((cells.map (·.kill bad)).map Tt.toT) hole=(holed (cells.map Tt.toT) hole).map (·.kill bad):=by
 rw[zb];cases hole with
 |none=>rfl
 |some h=>
  obtain⟨off,st,q⟩:=h;simp only[holed];rw[ajD (f:=fun t=>T.kill bad t)];cases hc:(cells.map Tt.toT)[off]? with
  |none=>rfl
  |some t=>
   simp only[Option.map_some];cases t<;>grind [T.kill,ajZ]
theorem wX(bad:Bool->Pl->Bool)(r:Rt):(r.kill bad).toR={ r.toR with cells:=r.toR.cells.map (·.kill bad) }:=by
 simp only[Rt.toR,Rt.kill,MH]
theorem ni(bad:Bool->Pl->Bool)(nx:Nat)(t:List (Nat×Nat×At)):(kX bad nx t).map (fun x=>(x.1,x.2.2.toV))=nj bad (t.map fun x=>(x.1,x.2.2.toV)):=by
 grind [kX,nj,ajN,F6]
theorem eB(bad:Bool->Pl->Bool)(nx:Nat)(m:List (Nm×Nat×Rt)):toM (b9 bad nx m)=aJ bad (toM m):=by
 grind [b9,aJ,ajN,wX]
variable{nx:Nat}
theorem D8{m:List (Nm×Nat×Rt)}:ND (b9 bad nx m) ↔ ND m:=by
 grind [b9]
theorem Aw{k:Nm}:∀{m:List (Nm×Nat×Rt)},k∈(eM m n).map (·.1)->k∈m.map (·.1)/\k≠n
 |[],h=>by simp[eM]at h
 |(k',j,v)::m,h=>by
  simp only[eM]at h;split at h
  ·have:=Aw h;grind
  rename_i hk;simp only[List.map_cons,ajI]at h;rcases h with rfl|h
  ·grind
  have:=Aw h;grind
theorem LF{n:Nm}:∀{m:List (Nm×Nat×Rt)},ND m->ND (eM m n)
 |[],_=>by simp[ND,eM]
 |(k,j,v)::m,h=>by
  have h':k ∉ m.map (·.1)/\(m.map (·.1)).Nodup:=by grind
  simp only[eM];split
  ·exact LF h'.2
  have:=LF (n:=n) h'.2
  grind [Aw]
theorem Dm(n:Nm)(i:Nat)(r:Rt):∀m:List (Nm×Nat×Rt),(dj m n i r).map (·.1)=m.map (·.1)
 |[]=>rfl
 |(k,j,v)::m=>by
  simp only[dj];split
  ·rfl
  simp only[List.map_cons,Dm n i r m]
theorem fT{g:G}{s:St}{a:Act}{w:World}{H:FH}{γ:Gam}{F:Nm->Fp}(h:RX g s.toS a w H γ F):ND s.m:=by
 have:=h.mem.keys
 grind [St.toS]
theorem bE{s:St}(h:ND s.m):(s.drop n).toS=s.toS.drop n:=by
 have h1:=ni (bq n) s.nx s.t
 have h2:=eB (bq n) s.nx (eM s.m n)
 rw[mY n s.m h]at h2;exact S_ext h1 h2
where
 S_ext {t t':List (Nat×AV)} {m m':Mm} (h1:t=t') (h2:m=m'):(⟨t,m⟩:S)=⟨t',m'⟩:=by grind
theorem Ps{s:St}(h:ND s.m):ND (s.drop n).m:=D8.2 (LF h)
theorem bx{s:St}(h:ND s.m):(s.fresh n).toS=s.toS.fresh n:=by
 unfold St.fresh S.fresh;have e:af s.toS.m n=(bJ s.m n).map Rt.toR:=uh n s.m
 grind [bE]
def SEq(s s':S):Prop:=(∀i,aV s.t i=aV s'.t i)/\s.m=s'.m
theorem bH{g:G}{s s':S}{a:Act}{w:World}{H:FH}{γ:Gam}{F:Nm->Fp}(e:SEq s s')(h:RX g s a w H γ F):RX g s' a w H γ F:=by
 obtain⟨t,m⟩:=s;obtain⟨t',m'⟩:=s';obtain⟨b,c⟩:=e;dsimp only at b c;subst c;exact⟨h.mem,h.fr,h.nt,h.df,fun i=>by rw[<- b i];exact h.t i⟩
theorem CU{g:G}{s s':S}{a:Act}{w:World}(e:SEq s s')(h:R g s a w):R g s' a w:=by
 obtain⟨H,γ,F,h⟩:=h;exact⟨H,γ,F,bH e h⟩
theorem aO(s:St)(d:Option Tmp)(v:At):SEq (s.toS.put d v.toV) (s.put d v).toS:=by
 cases d with
 |none=>exact⟨fun _=>rfl,rfl⟩
 |some d=>
  refine⟨fun i=>?_,rfl⟩;show aV (s8 _ d v.toV) i=aV ((d,v.toV)::_) i
  rw[iP];rfl
theorem Ds(f:Nat×Nat×At->Nat×At)(k:Nat):∀t:List (Nat×Nat×At),cc (t.map fun x=>(x.1,f x)) k=(cc t k).map fun y=>f (k,y)
 |[]=>rfl
 |(i,j,v)::t=>by
  simp only[List.map_cons,cc];cases hb:Nat.beq i k with
  |true=>grind [ajF]
  |false=>exact Ds f k t
theorem wc(f:Nm×Nat×Rt->Nat×Rt)(k:Nm):∀t:List (Nm×Nat×Rt),cV (t.map fun x=>(x.1,f x)) k=(cV t k).map fun y=>f (k,y)
 |[]=>rfl
 |(i,j,v)::t=>by
  simp only[List.map_cons,cV];by_cases hb:i=k
  ·grind
  rw[if_neg hb,if_neg hb];exact wc f k t
structure Ext (s0 s:St):Prop where
 nx:s0.nx<=s.nx
 t:∀k j v,cc s.t k=some (j,v)->j<s0.nx->cc s0.t k=some (j,v)
 m:∀n j r,cV s.m n=some (j,r)->j<s0.nx->cV s0.m n=some (j,r)
theorem Ext.refl(s:St):Ext s s:=⟨ajB _,fun _ _ _ h _=>h,fun _ _ _ h _=>h⟩
theorem Ext.trans{a b c:St}(h1:Ext a b)(h2:Ext b c):Ext a c:=
 ⟨akQ h1.nx h2.nx,fun k j v h hj=>h1.t k j v (h2.t k j v h (Nat.lt_of_lt_of_le hj h1.nx)) hj,fun k j v h hj=>h1.m k j v (h2.m k j v h (Nat.lt_of_lt_of_le hj h1.nx)) hj⟩
abbrev Ly(nx:Nat)(t t':List (Nat×Nat×At)):Prop:=∀k j v,cc t' k=some (j,v)->j<nx->cc t k=some (j,v)
abbrev Gb(nx:Nat)(m m':List (Nm×Nat×Rt)):Prop:=∀n j r,cV m' n=some (j,r)->j<nx->cV m n=some (j,r)
theorem Gb.trans{a b c:List (Nm×Nat×Rt)}(h1:Gb nx a b)(h2:Gb nx b c):Gb nx a c:=fun n j r h hj=>h1 n j r (h2 n j r h hj) hj
theorem Ly.trans{a b c:List (Nat×Nat×At)}(h1:Ly nx a b)(h2:Ly nx b c):Ly nx a c:=fun n j r h hj=>h1 n j r (h2 n j r h hj) hj
theorem vr{t:List (Nat×Nat×At)}(d i:Nat)(v:At)(hi:nx<=i):Ly nx t ((d,i,v)::t):=by
 grind [cc]
theorem kf{t:List (Nm×Nat×Rt)}(d:Nm)(i:Nat)(v:Rt)(hi:nx<=i):Gb nx t ((d,i,v)::t):=by
 grind [cV]
theorem tD{t:List (Nat×Nat×At)}(a:At->Bool)(f:At->At)(hf:∀v,a v=false->f v=v)(hi:nx<=i) :
  Ly nx t (t.map fun x=>(x.1,stp (a x.2.2) i x.2.1,f x.2.2)):=by
 intro k j v h hj;rw[Ds (fun x=>(stp (a x.2.2) i x.2.1,f x.2.2))]at h;cases hl:cc t k with
 |none=>grind
 |some y=>
  obtain⟨j',b⟩:=y;rw[hl]at h;simp only[Option.map_some,ai8,Prod.mk.injEq]at h;cases hc:a b<;>grind [stp]
theorem gH{t:List (Nat×Nat×At)}(hi:nx<=i):Ly nx t (kX bad i t):=tD (·.hit bad) (·.kill bad) (fun _ h=>Lr h) hi
theorem dM{t:List (Nm×Nat×Rt)}(hi:nx<=i):Gb nx t (b9 bad i t):=by
 intro k j v h hj;unfold b9 at h;rw[wc (fun x=>(stp (x.2.2.cells.any (·.hit bad)) i x.2.1,x.2.2.kill bad))]at h;cases hl:cV t k with
 |none=>grind
 |some y=>
  obtain⟨j',r⟩:=y;rw[hl]at h;simp only[Option.map_some,ai8,Prod.mk.injEq]at h;cases hc:r.cells.any (·.hit bad)with
  |true=>grind [stp]
  |false=>
   rw[hc]at h;have:r.kill bad=r:=by unfold Rt.kill;rw[pj hc]
   grind [stp]
theorem sM(n k:Nm):∀m:List (Nm×Nat×Rt),cV (eM m n) k=if k=n then none else cV m k
 |[]=>by simp[eM,cV]
 |(i,j,v)::m=>by
  simp only[eM];by_cases h:i=n
  ·subst h;rw[if_pos rfl,sM i k m]
   grind [cV]
  rw[if_neg h];simp only[cV];by_cases hk:i=k
  ·grind
  rw[if_neg hk,if_neg hk,sM n k m]
theorem mN{m:List (Nm×Nat×Rt)}(n:Nm):Gb nx m (eM m n):=by
 grind [sM]
theorem dq(n:Nm)(r:Rt)(hi:nx<=i):∀m:List (Nm×Nat×Rt),Gb nx m (dj m n i r)
 |[],_,_,_,h,_=>h
 |(a,b,c)::m,k,j,v,h,hj=>by
  simp only[dj]at h;split at h
  ·grind [cV]
  simp only[cV]at h⊢;split at h
  ·grind
  rename_i hk;rw[if_neg hk];exact dq n r hi m k j v h hj
theorem aA(s:St)(d:Option Tmp)(v:At):Ext s (s.put d v):=by
 cases d with
 |none=>exact Ext.refl s
 |some d=>exact⟨aj2 _,vr d s.nx v (ajB _),fun _ _ _ h _=>h⟩
theorem tE(s:St)(n:Nm):Ext s (s.drop n):=⟨aj2 _,gH (ajB _),(mN n).trans (dM (ajB _))⟩
theorem bQ(s:St)(n:Nm):Ext s (s.fresh n):=by
 grind [St.fresh,Ext.refl,tE]
theorem da(s:St)(n:Nm)(r:Rt):Ext s (s.root n r):=⟨aj2 _,fun _ _ _ h _=>h,kf n s.nx r (ajB _)⟩
theorem LV(q:Pl)(u:U)(l:List (El u))(t:Tt):(t.frz q u l).toT=t.toT.frz q (l.map (ap u)):=by
 cases t with
 |pl p=>exact dV (thr q) (.pl p)
 |rf p=>
  obtain⟨n,o,path⟩:=p;cases path with
  |nil=>
   show(if n=q.root/\o=q.off then Tt.d (.li u l)else(Tt.rf ⟨n,o,[]⟩).kill (thr q)).toT=if n=q.root/\o=q.off then T.d (.li (l.map (ap u)))else(T.rf ⟨n,o,[]⟩).kill (thr q)
   by_cases h:n=q.root/\o=q.off
   ·rw[if_pos h,if_pos h];rfl
   rw[if_neg h,if_neg h];exact dV (thr q) (.rf ⟨n,o,[]⟩)
  |cons st r=>exact dV (thr q) (.rf ⟨n,o,st::r⟩)
 |_=>rfl
theorem LU(n:Nm)(c:C)(t:Tt):(t.frm n c).toT=t.toT.frm n c.toD:=by
 cases t with
 |pl p=>exact dV (bq n) (.pl p)
 |rf p=>
  obtain⟨r,o,path⟩:=p;by_cases h:r=n
  ·simp only[Tt.frm,Tt.toT,T.frm,if_pos h]
   grind
  simp_all[Tt.frm,Tt.toT,T.frm]
 |_=>rfl
variable{f:Tt->Tt}
theorem ym{f':T->T}(h:∀t,(f t).toT=f' t.toT)(x:A1):(x.map f).toV=x.toV.map f':=by
 cases x with
 |c t=>grind [A1.map,A1.toV,AV1.map]
 |agg ts=>
  simp_all[A1.map,A1.toV,AV1.map]
theorem se{f':T->T}(h:∀t,(f t).toT=f' t.toT)(x:At):(x.map f).toV=x.toV.map f':=by
 cases x with
 |one x=>grind [At.map,At.toV,AV.map,ym]
 |tup xs=>
  simp_all[At.map,At.toV,AV.map,ym]
 |any=>rfl
variable{q:Pl}
theorem Q7{l:List (El u)}{t:Tt}(h:t.hit (Oz q)=false):t.frz q u l=t:=by
 cases t with
 |pl p=>
  simp only[Tt.hit,Oz,ak4,Bool.or_false]at h;exact iG (t:=.pl p) h
 |rf p=>
  simp only[Tt.hit,Oz,aj3,Bool.or_eq_false_iff]at h;obtain⟨n,o,path⟩:=p;cases path with
  |nil=>
   simp only[Tt.frz];rw[if_neg (by grind)];exact iG (t:=.rf ⟨n,o,[]⟩) h.1
  |cons st r=>exact iG (t:=.rf ⟨n,o,st::r⟩) h.1
 |_=>rfl
theorem Q6{t:Tt}(h:t.hit (bq n)=false):t.frm n c=t:=by
 cases t with
 |pl p=>exact iG (t:=.pl p) h
 |rf p=>
  simp_all[Tt.hit,bq,Tt.frm]
 |_=>rfl
theorem vp(hf:∀{t:Tt},t.hit bad=false->f t=t)(h:x.hit bad=false):x.map f=x:=by
 have one:∀{y:A1},y.hit bad=false->y.map f=y:=by
  intro y hy;cases y with
  |c t=>simp only[A1.map,hf (show t.hit _=false from hy)]
  |agg ts=>
   simp only[A1.hit]at hy;simp only[A1.map]
   congr 1
   induction ts<;>grind
 cases x with
 |one y=>simp only[At.map,one (show y.hit _=false from h)]
 |tup xs=>
  simp only[At.hit]at h;simp only[At.map]
  congr 1
  induction xs<;>grind
 |any=>rfl
theorem QH{l:List (El u)}(h:x.hit (Oz q)=false):x.map (Tt.frz q u l)=x:=vp Q7 h
theorem oo(n:Nm):∀m:List (Nm×Nat×Rt),bJ m n=(cV m n).map (·.2)
 |[]=>rfl
 |(k,j,r)::m=>by
  simp only[bJ,cV];by_cases h:k=n
  ·grind
  rw[if_neg h,if_neg h];exact oo n m
theorem vw(s:St)(q:Pl):Ext s (ug s q):=by
 unfold ug;split
 ·split
  ·rename_i u l _ _;refine⟨aj2 _,tD (·.hit (Oz q)) (·.map (Tt.frz q u l)) (fun _ h=>QH h) (ajB _),?_⟩
   grind [setCell,dq,dM]
  ·split
   ·exact⟨aj2 _,tD (·.hit (bq q.root)) (·.map (Tt.frm q.root _)) (fun _ h=>vp Q6 h) (ajB _),(mN q.root).trans (dM (ajB _))⟩
   exact Ext.refl s
  exact Ext.refl s
 exact Ext.refl s
variable{off:Nat}
theorem qi{m:List (Nm×Nat×Rt)}{t:Tt}(hr:bJ m n=some r)(a:r.hole=none) :
  toM (setCell m n i off t)=cv (toM m) n ⟨r.blk,(r.toR.cells).set off t.toT⟩:=by
 grind [setCell,fA,Rt.toR,holed,ajZ]
theorem EH{m:List (Nm×Nat×Rt)}{t:Tt}(hr:bJ m n=some r):bJ (setCell m n i off t) n=some { r with cells:=r.cells.set off t }:=by
 unfold setCell;rw[hr];dsimp only;induction m<;>grind [dj,bJ]
theorem Dg(bad:Bool->Pl->Bool)(i:Nat)(n:Nm)(m:List (Nm×Nat×Rt)):bJ (b9 bad i m) n=(bJ m n).map (·.kill bad):=by
 rw[oo,oo];unfold b9;rw[wc (fun x=>(stp (x.2.2.cells.any (·.hit bad)) i x.2.1,x.2.2.kill bad))];cases cV m n<;>rfl
theorem pE(h:leaf u=true)(x:El u):(ap u x).headD .any=(ao u x).toD:=by cases u<;>first|rfl|cases h
theorem aaP(ku vu:U)(l:List (El ku×El vu)):frL (l.map fun x=>((ao ku x.1).toD,Sh.fr,(ao vu x.2).toD))=true:=by
 grind [frL]
theorem vC{g:G}{s:St}{a:Act}{w:World}{H:FH}{γ:Gam}{F:Nm->Fp}(h:RX g s.toS a w H γ F)(q:Pl):∃H' F',RX g (ug s q).toS a w H' γ F':=by
 unfold ug;split
 ·rename_i r b hr;split
  ·rename_i sh u l c hc;obtain⟨H',F',h'⟩:=LH h q;refine⟨H',F',?_⟩;have z:r.toR.cells[q.off]? = some (.ow sh (l.map (ap u))):=by
    show(holed (r.cells.map Tt.toT) r.hole)[q.off]? = _
    rw[c];show(r.cells.map Tt.toT)[q.off]? = _
    rw[ajD,hc];rfl
   have p:af s.toS.m q.root=some r.toR:=bi hr
   have o:aT s.toS.m q=some (.ow sh (l.map (ap u))):=by
    grind [aT]
   have e:I8 s.toS q=⟨sO (AV.map (T.frz q (l.map (ap u)))) s.toS.t,I7 s.toS.m q (l.map (ap u))⟩:=by
    grind [I8]
   rw[e]at h';have key:(⟨s.nx+1,s.t.map fun x=>(x.1,stp (x.2.2.hit (Oz q)) s.nx x.2.1,x.2.2.map (Tt.frz q u l)),
     setCell (b9 (thr q) s.nx (setCell s.m q.root s.nx q.off .any)) q.root s.nx q.off (.d (.li u l))⟩:St).toS=⟨sO (AV.map (T.frz q (l.map (ap u)))) s.toS.t,I7 s.toS.m q (l.map (ap u))⟩:=by
    refine bE.S_ext ?_ ?_
    ·simp only[St.toS,sO,akA]
     grind [ajN,se,LV]
    have g1:=EH (i:=s.nx) (off:=q.off) (t:=.any) hr
    have g2:bJ (b9 (thr q) s.nx (setCell s.m q.root s.nx q.off .any)) q.root=some (({ r with cells:=r.cells.set q.off .any }:Rt).kill (thr q)):=by grind [Dg]
    show toM (setCell _ q.root s.nx q.off (.d (.li u l)))=_
    rw[qi g2 c,eB,qi hr c];unfold I7;have y:bk s.toS.m q .any=cv (toM s.m) q.root ⟨r.blk,r.toR.cells.set q.off Tt.any.toT⟩:=by
     unfold bk;rw[p,b];rfl
    rw[y];have g3:af (aJ (thr q) (cv (toM s.m) q.root ⟨r.blk,r.toR.cells.set q.off Tt.any.toT⟩)) q.root=some ⟨r.blk,(r.toR.cells.set q.off Tt.any.toT).map (·.kill (thr q))⟩:=by
     grind [bi,eB,qi,wX,Rt.toR,holed,ajZ]
    grind [bk,Rt.toR,Rt.kill,holed,ajZ,zb,Tt.toT,C.toD]
   grind
  ·rename_i ku vu l c hc;split
   ·rename_i x hb k f;simp only[ai9]at f;have n:q.off=0:=by
     grind
    have hx:x=.mp ku vu l:=by grind
    have j:af s.toS.m q.root=some ⟨false,[.mp (l.map fun x=>((ao ku x.1).toD,Sh.fr,(ao vu x.2).toD))]⟩:=by
     have:=bi hr
     unfold Rt.toR at this;rw[hb,k,c,hx]at this;exact this
    obtain⟨H',F',h'⟩:=Ze h j (aaP ku vu l);refine⟨H',F',?_⟩;have v:mpD (l.map fun x=>((ao ku x.1).toD,Sh.fr,(ao vu x.2).toD))=(C.mp ku vu (some l)).toD:=by
     show D.mp (some ((l.map _).map _))=D.mp (some (l.map _))
     grind [ajN,pE]
    rw[v]at h';have key:(WI s q.root (.mp ku vu (some l))).toS=frzm s.toS q.root (C.mp ku vu (some l)).toD:=by
     refine bE.S_ext ?_ ?_
     ·simp_all[St.toS,WI,sO,se,LU]
     have h2:=eB (bq q.root) s.nx (eM s.m q.root)
     rw[mY q.root s.m (fT h)]at h2;exact h2
    grind
   grind
  grind
 grind
variable{v:At}
section
variable {g:G} {a:Act} {w:World} {γ:Gam}
theorem CS{s:St}{H:FH}{F:Nm->Fp}(h:RX g s.toS a w H γ F)(t:Tt):∃H' F',RX g (PV s t).toS a w H' γ F':=by
 cases t with
 |rf p=>exact vC h p
 |_=>exact⟨H,F,h⟩
theorem yW:∀(ts:List Tt)(s:St)(H:FH)(F:Nm->Fp),RX g s.toS a w H γ F->∃H' F',RX g (EF s ts).toS a w H' γ F'
 |[],_,H,F,h=>⟨H,F,h⟩
 |t::ts,s,H,F,h=>by
  obtain⟨H1,F1,h1⟩:=CS h t;exact yW ts _ H1 F1 h1
theorem gI{s:St}{H:FH}{F:Nm->Fp}(h:RX g s.toS a w H γ F)(v:At):∃H' F',RX g (fP s v).toS a w H' γ F':=by
 cases v with
 |one x=>cases x with
  |c t=>exact CS h t
  |agg ts=>exact yW ts s H F h
 |_=>exact⟨H,F,h⟩
theorem iE:∀(vs:List At)(s:St)(H:FH)(F:Nm->Fp),RX g s.toS a w H γ F->∃H' F',RX g (cN s vs).toS a w H' γ F'
 |[],_,H,F,h=>⟨H,F,h⟩
 |v::vs,s,H,F,h=>by
  obtain⟨H1,F1,h1⟩:=gI h v;exact iE vs _ H1 F1 h1
theorem G2{s s':St}{H:FH}{F:Nm->Fp}(c:RX g s.toS a w H γ F)(hf:∀(g':G) (H:FH) (F:Nm->Fp),RX g' s.toS a w H γ F->∃H' F',RX g' s'.toS a w H' γ F') :
  ∃H' F',RX g s'.toS a w H' γ F'/\∀b o y,H b o=some y->H' b o=some y:=by
 let g':G:=⟨g.nt,w,H,tot F s.toS.m,g.out,g.ex,g.dfs⟩
 have d:RX g' s.toS a w H γ F:=⟨c.mem,Fr.refl' rfl rfl rfl rfl (fun _ h=>h),c.nt,⟨c.df.1,c.df.2.1,jb c⟩,c.t⟩
 obtain⟨H',F',h⟩:=hf g' H F d;exact⟨H',F',⟨h.mem,c.fr.trans h.fr,h.nt,⟨h.df.1,h.df.2.1,c.df.2.2⟩,h.t⟩,h.fr.hold⟩
theorem qD:∀(ts:List Tt)(s:St)(p:Pl)(H:FH)(F:Nm->Fp),RX g s.toS a w H γ F->∃H' F',RX g (xf s p ts).toS a w H' γ F'
 |[],s,_,H,F,h=>⟨H,F,h⟩
 |t::ts,s,p,H,F,h=>by
  cases t with
  |rf q=>
   simp only[xf];split
   ·obtain⟨H1,F1,h1⟩:=vC h q;exact qD ts _ _ H1 F1 h1
   exact qD ts _ _ H F h
  |_=>exact qD ts s (p.add 1) H F h
theorem Q1{s:St}{H:FH}{F:Nm->Fp}(h:RX g s.toS a w H γ F)(x v:At):∃H' F',RX g (Dd s x v).toS a w H' γ F':=by
 unfold Dd;split
 ·exact qD _ _ _ H F h
 grind
theorem Ck(s:St)(t:Tt):Ext s (PV s t):=by
 cases t with
 |rf p=>exact vw s p
 |_=>exact Ext.refl s
theorem yA:∀(ts:List Tt)(s:St),Ext s (EF s ts)
 |[],s=>Ext.refl s
 |t::ts,s=>(Ck s t).trans (yA ts _)
theorem iD(s:St)(v:At):Ext s (fP s v):=by
 cases v with
 |one x=>cases x with
  |c t=>exact Ck s t
  |agg ts=>exact yA ts s
 |_=>exact Ext.refl s
theorem qz:∀(ts:List Tt)(s:St)(p:Pl),Ext s (xf s p ts)
 |[],s,_=>Ext.refl s
 |t::ts,s,p=>by
  cases t with
  |rf q=>
   simp only[xf];split
   ·exact(vw s q).trans (qz ts _ _)
   exact qz ts _ _
  |_=>exact qz ts s (p.add 1)
theorem QM(s:St)(x v:At):Ext s (Dd s x v):=by
 unfold Dd
 grind [qz,Ext.refl]
theorem d9:∀(vs:List At)(s:St),Ext s (cN s vs)
 |[],s=>Ext.refl s
 |v::vs,s=>(iD s v).trans (d9 vs _)
theorem yX{s:St}{H:FH}{F:Nm->Fp}(h:RX g s.toS a w H γ F)(o:Oper):∃H' F',RX g (B8 s o).toS a w H' γ F':=by
 unfold B8;split
 ·exact gI h _
 ·exact gI h _
 grind
theorem Gc(s:St)(o:Oper):Ext s (B8 s o):=by
 grind [B8,iD,Ext.refl]
theorem Dc{s:S}{t:Tt}(h:t.noRf=true):WJ s t.toT=s:=by
 cases t with
 |rf p=>cases h
 |_=>rfl
theorem zX{s:S}:∀{ts:List Tt},ts.all Tt.noRf=true->De s (ts.map Tt.toT)=s
 |[],_=>rfl
 |t::ts,h=>by
  simp only[ajJ,ai9]at h;simp only[List.map_cons,De];rw[Dc h.1,zX h.2]
theorem vT{s:S}(h:v.noRf=true):I9 s v.toV=s:=by
 cases v with
 |one x=>cases x with
  |c t=>exact Dc h
  |agg ts=>exact zX h
 |_=>rfl
theorem og{s:S}:∀{vs:List At},vs.all At.noRf=true->oT s (vs.map At.toV)=s
 |[],_=>rfl
 |v::vs,h=>by
  simp only[ajJ,ai9]at h;simp only[List.map_cons,oT];rw[vT h.1,og h.2]
theorem NN{s:St}{H:FH}{F:Nm->Fp}(b:RX g s.toS a w H γ F){x:Operand}(hc:aF x=true) :
  (∀p,evA s x=.one (.c (.rf p))->okP (toM s.m) p)/\(∀p,evA s x=.one (.c (.pl p))->okP (toM s.m) p):=by
 have h:=aH b hc
 rw[aj hc]at h;refine⟨fun p e=>?_,fun p e=>?_⟩
 ·rw[e]at h;obtain⟨_,h1,_⟩:=h;exact pY h1
 rw[e]at h;obtain⟨_,h1,_⟩:=h;exact NO h1
theorem Sv{n:Nat}{q a:Prop}(hq:q->a)(h:gift gd n q):gift gd n a:=by
 cases gd with
 |none=>exact fun b=>hq (h b)
 |some _=>exact hq h
theorem Dp{m:List (Nm×Nat×Rt)}{k k':Nat->Prop}(hk:∀n,k n->k' n)(h:JU gd m x k):JU gd m x k':=by
 unfold JU at h⊢
 grind [Sv]
theorem SM(x:At):qR x.toV=MN x:=by
 cases x with
 |one x=>cases x with
  |c t=>cases t with
   |d c=>cases c<;>rfl
   |_=>rfl
  |agg ts=>rfl
 |_=>rfl
theorem Yc{e:En}{o:Oper}{s:St}{k:At->Prop}{H:FH}{F:Nm->Fp}(l:RX g s.toS a w H γ F)(hc:opC g.nt o=true)(h:qT e o s k):qK e.P o s.toS (up k):=by
 unfold opC at hc;rw[ai9]at hc;obtain⟨_,hc⟩:=hc;unfold qT at h;unfold qK;cases j:o.op with
 |move x=>grind [aj]
 |assign x=>grind [aj]
 |pick c x y=>
  grind [aj,XX]
 |binOp op t x y z=>
  grind [aj,Zw]
 |unOp op t x=>grind [aj,agJ]
 |load t x=>rw[j]at h hc;dsimp only at hc⊢;rw[aj hc];exact Ar (NN l hc).2 h
 |field t x i=>grind [aj,Sr]
 |fieldAddr t x i=>rw[j]at h hc;dsimp only at hc⊢;rw[aj hc];exact BN h
 |indexAddr t x i=>
  rw[j]at h hc;simp only[ai9]at hc;dsimp only;rw[aj hc.1,aj hc.2];exact rZ (NN l hc.1).1 h
 |index t x i=>
  grind [aj,T8]
 |extract x i=>grind [aj,IT]
 |convert q r x=>grind [aj,Wx]
 |slice t x lo hi m=>
  rw[j]at h hc;cases m with
  |some _=>omega
  |none=>
   dsimp only at h hc⊢;simp only[ai9]at hc;have p:∀(y:Option Operand),y.all aF=true->y.map (ev s.toS)=(y.map (evA s)).map At.toV:=by
    intro y hy;cases y<;>grind [aj]
   grind [aj,TX]
 |nilCheck x=>grind [aj,Ff]
 |build t ps=>grind [wq,Rr]
 |call c=>
  rw[j]at h hc;obtain⟨f,args,d⟩:=c;obtain⟨args⟩:=args;obtain⟨d⟩:=d;dsimp only at h hc⊢;cases f with
  |builtin b=>
   cases b with
   |len=>
    match args,d,h with
    |[x],[t],h=>
     have h1:aF x=true:=by grind
     dsimp only at h⊢;split at h
     ·rename_i hl;rw[aj h1,SM];refine⟨hl,?_⟩;exact abF (NN l h1).1 (Dp (fun n hn=>⟨_,rfl,hn⟩) h)
     grind
   |_=>omega
  |_=>omega
 |_=>grind
end
theorem ro{x x':El u}(h:KQ u x off c=some x'):(∃d,(ap u x)[off]? = some d)/\ap u x'=(ap u x).set off c.toD:=by
 unfold KQ at h;split at h
 ·rename_i a hc;have e:=wG h
  refine⟨⟨a.toD,by grind [bR]⟩,?_⟩
  grind [bR,ajZ]
 grind
theorem KX:∀{path:List Step}{sub:List Sh}{u:U}{l l':List (El u)}{t:Tt}{k:Prop}{K:List (List D)->Prop},pZ sub u l path k->DT sub u l t path=some l'->K (l'.map (ap u))->iv sub (l.map (ap u)) t.toT path K
 |[],_,_,_,_,_,_,_,h,_,_=>h.elim
 |[st],sub,u,l,l',t,k,K,h,a,b=>by
  obtain⟨h1,_⟩:=h;simp only[DT]at a;simp only[iv];rw[lW l h1];dsimp only;split at a
  ·rename_i c hs;split at a
   ·rename_i x hx;simp only[ai8]at a;subst a;obtain⟨⟨d,hd⟩,e⟩:=ro hx;rw[hs,hd];dsimp only;refine⟨trivial,?_⟩;rw[ajZ,e]at b;exact b
   grind
  ·rename_i hs;split at a
   ·rename_i u' g hf;split at a
    ·rename_i x hx;simp only[ai8]at a;subst a;obtain⟨⟨d,hd⟩,e⟩:=ro hx;rw[hs,hd];dsimp only;refine⟨trivial,?_⟩;rw[ajZ,e]at b;exact b
    grind
   grind
  grind
 |st::n::r,sub,u,l,l',t,k,K,h,a,b=>by
  simp only[DT]at a;simp only[iv];simp only[pZ]at h;split at a
  ·rename_i s u' g j i;rw[j,i]at h;obtain⟨h1,h4⟩:=h;rw[lW l h1];dsimp only;split at a
   ·rename_i l2 f;split at a
    ·rename_i x hx;simp only[ai8]at a;subst a;obtain⟨_,e⟩:=ro hx;have m:(ap u (l.getD st.idx (dflt u)))[st.off]? = some (.li (g.map (ap u'))):=by
      rw[<- bR,ajD,i];rfl
     rw[j,m];dsimp only;refine KX h4 f ?_;rw[ajZ,e]at b;exact b
    grind
   grind
  grind
mutual
theorem Yv:∀{a b:Sh},KZ a b=true->a=b
 |.fr,.fr,_=>rfl
 |.ow a,.ow b,h=>by simp only[KZ]at h;rw[kp h]
 |.fr,.ow _,h=>by simp[KZ]at h
 |.ow _,.fr,h=>by simp[KZ]at h
theorem kp:∀{a b:List Sh},jO a b=true->a=b
 |[],[],_=>rfl
 |a::r,b::q,h=>by
  simp only[jO,ai9]at h;rw[Yv h.1,kp h.2]
 |[],_::_,h=>by simp[jO]at h
 |_::_,[],h=>by simp[jO]at h
end
theorem IV:∀{path:List Step}{sub:List Sh}{u:U}{l l':List (El u)}{sh:List Sh}{v:U}{j:List (El v)}{k:Prop}{K:List (List D)->Prop},pZ sub u l path k->C7 sub u l sh v j path=some l'->K (l'.map (ap u)) ->
  iv sub (bX sub (l.map (ap u)) .any path) (.ow sh (j.map (ap v))) path K
 |[],_,_,_,_,_,_,_,_,_,h,_,_=>h.elim
 |[st],sub,u,l,l',sh,v,j,k,K,h,a,i=>by
  obtain⟨h1,_⟩:=h;have h1':st.idx < (l.map (ap u)).length:=by grind
  simp only[C7]at a;split at a
  ·rename_i s c hs hc;split at a
   ·rename_i x m hx;simp only[ai8]at a;subst a;obtain⟨⟨d,hd⟩,e⟩:=ro hx;have f:st.off < (ap u (l.getD st.idx (dflt u))).length:=bT hd
    have b:bX sub (l.map (ap u)) .any [st]=(l.map (ap u)).set st.idx ((ap u (l.getD st.idx (dflt u))).set st.off .any):=by
     grind [bX]
    rw[b];simp only[iv];rw[ajW h1'];dsimp only;rw[hs,ajW f];dsimp only;refine⟨kp m,?_⟩;rw[akY,akY];rw[ajZ,e]at i;exact i
   grind
  grind
 |st::g::r,sub,u,l,l',sh,v,j,k,K,h,a,i=>by
  simp only[C7]at a;simp only[pZ]at h;split at a
  ·rename_i s u' o q p;rw[q,p]at h;obtain⟨h1,h4⟩:=h;have h1':st.idx < (l.map (ap u)).length:=by grind
   split at a
   ·rename_i l2 n;split at a
    ·rename_i x hx;simp only[ai8]at a;subst a;obtain⟨_,e⟩:=ro hx;have t:(ap u (l.getD st.idx (dflt u)))[st.off]? = some (.li (o.map (ap u'))):=by
      rw[<- bR,ajD,p];rfl
     have f:st.off < (ap u (l.getD st.idx (dflt u))).length:=bT t
     have w:(ap u (l.getD st.idx (dflt u))).getD st.off default=.li (o.map (ap u')):=by grind
     have b:bX sub (l.map (ap u)) .any (st::g::r)=(l.map (ap u)).set st.idx ((ap u (l.getD st.idx (dflt u))).set st.off (.li (bX s (o.map (ap u')) .any (g::r)))):=by
      grind [bX]
     rw[b];simp only[iv];rw[ajW h1'];dsimp only;rw[q,ajW f];dsimp only;refine IV h4 n ?_;rw[akY,akY];rw[ajZ,e]at i;exact i
    grind
   grind
  grind
theorem Fq:∀{path:List Step}{sub:List Sh}{u:U}{l:List (El u)}{k:Prop},pZ sub u l path k->k
 |[],_,_,_,_,h=>h.elim
 |[st],_,_,_,_,h=>h.2
 |st::a::r,sub,u,l,k,h=>by
  simp only[pZ]at h;split at h
  ·exact Fq h.2
  grind
theorem rh:∀{path:List Step}{sub:List Sh}{u:U}{l:List (El u)}{k k':Prop},(k->k')->pZ sub u l path k->pZ sub u l path k'
 |[],_,_,_,_,_,_,h=>h.elim
 |[st],_,_,_,_,_,hk,h=>⟨h.1,hk h.2⟩
 |st::a::r,sub,u,l,k,k',hk,h=>by
  simp only[pZ]at h⊢;split at h
  ·exact⟨h.1,rh hk h.2⟩
  omega
theorem C6:∀{a b:List Step}{k:Prop},n8 a b k->a=b/\k
 |[],[],_,h=>⟨rfl,h⟩
 |x::r,y::q,k,h=>by
  simp only[n8]at h;split at h
  ·rename_i hb;rw[ai9]at hb;obtain⟨e,hk⟩:=C6 h.2;obtain⟨c,d,a3⟩:=x;simp_all
  grind
 |[],_::_,_,h=>h.elim
 |_::_,[],_,h=>h.elim
theorem xc:∀{a b:List Step}{k k':Prop},(k->k')->n8 a b k->n8 a b k'
 |[],[],_,_,hk,h=>hk h
 |x::r,y::q,k,k',hk,h=>by
  simp only[n8]at h⊢;split at h
  ·exact⟨h.1,xc hk h.2⟩
  omega
 |[],_::_,_,_,_,h=>h.elim
 |_::_,[],_,_,_,h=>h.elim
theorem Ad:∀{path:List Step}{sub:List Sh}{u:U}{l:List (El u)}{sh:List Sh}{v:U}{b:List (El v)},okO sub (l.map (ap u)) path->inT sub u l 1 path=some [.ow sh v b]->bF sub (l.map (ap u)) path=some (.ow sh,.li (b.map (ap v)))
 |[],_,_,_,_,_,_,h,_=>h.elim
 |[st],sub,u,l,sh,v,b,h,a=>by
  obtain⟨h1,h2,h3⟩:=h;rw[ajH]at h1;simp only[inT]at a;split at a
  ·simp only[ai8]at a;have f:sub[st.off]? = some sub[st.off]:=ajA h3
   cases hc:(flat u (l.getD st.idx (dflt u)))[st.off]? with
   |none=>
    simp_all[List.drop_eq_nil_of_le]
   |some c=>
    have i:=bT hc
    have o:(flat u (l.getD st.idx (dflt u)))[st.off]=c:=by
     grind
    have g:(sub.drop st.off).take 1=[sub[st.off]]:=by grind [ajT]
    have n:((flat u (l.getD st.idx (dflt u))).drop st.off).take 1=[c]:=by grind [ajT]
    rw[g,n]at a;simp only[List.zipWith_cons_cons,List.zipWith_nil_left,List.cons.injEq,and_true]at a;simp only[bF,f,Option.map_some,pM l h1];have d:(ap u (l.getD st.idx (dflt u))).getD st.off default=c.toD:=by
     grind [bR]
    rw[d];generalize sub[st.off]=s0 at a;cases s0 with
    |fr=>cases a
    |ow s1=>
     cases c with
     |li u1 l1=>
      simp only[Tt.ow.injEq]at a;obtain⟨rfl,rfl,e⟩:=a;rw[eq_of_heq e];rfl
     |_=>cases a
  grind
 |st::j::r,sub,u,l,sh,v,b,h,a=>by
  obtain⟨⟨h1,h2,h3⟩,h4⟩:=h;rw[ajH]at h1;simp only[inT]at a;split at a
  ·rename_i s u' k f m;have d:(ap u (l.getD st.idx (dflt u))).getD st.off default=.li (k.map (ap u')):=by
    rw[List.getD,<- bR,ajD,m];rfl
   rw[f,pM l h1,d]at h4;simp only[bF];rw[f,pM l h1,d];exact Ad h4 a
  grind
variable{sub:List Sh}
theorem Jh{cells:List Tt}{l:List (El u)}(st:Step)(q:List Step)(h:cells[off]? = some (.ow sub u l)) :
  holed (cells.map Tt.toT) (some (off,st,q))=(cells.map Tt.toT).set off (.ow sub (bX sub (l.map (ap u)) .any (st::q))):=by
 unfold holed;dsimp only;rw[ajD,h];rfl
def Dz(row:List D)(off:Nat):List D->List D
 |[]=>row
 |d::r=>Dz (row.set off d) (off+1) r
def jN(sub:List Sh)(l:List (List D)):List T->List Step->(List (List D)->Prop)->Prop
 |[],_,K=>K l
 |t::ts,path,K=>iv sub l t path fun l1=>jN sub l1 ts (aU path 1) K
theorem qj:∀{path:List Step}{sub:List Sh}{l:List (List D)}{t:T}{K K':List (List D)->Prop},(∀x,K x->K' x)->iv sub l t path K->iv sub l t path K'
 |[],_,_,_,_,_,_,h=>h.elim
 |[st],sub,l,t,K,K',hk,h=>by
  grind [iv]
 |st::a::r,sub,l,t,K,K',hk,h=>by
  simp only[iv]at h⊢;split at h
  ·split at h
   ·exact qj (fun x hx=>hk _ hx) h
   omega
  omega
def Jo:T->Bool
 |.d _=>true
 |.nil=>true
 |_=>false
theorem Bl{idx esz:Nat}:∀{ts:List T}{l:List (List D)}{off:Nat}{row:List D}{K:List (List D)->Prop},l[idx]? = some row->ts.all Jo=true->frs sub off ts.length=true->off+ts.length<=row.length ->
  K (l.set idx (Dz row off (ts.map T.toD)))->jN sub l ts [⟨idx,esz,off⟩] K
 |[],l,off,row,K,hl,_,_,_,c=>by
  have:l.set idx row=l:=by
   apply aj9
   grind
  simp only[List.map_nil,Dz,this]at c;exact c
 |t::ts,l,off,row,K,hl,hd,hf,b,c=>by
  simp only[ajJ,ai9]at hd;simp only[ajK]at b hf;simp only[frs]at hf;cases hs:sub[off]? with
  |none=>grind
  |some s=>
   rw[hs]at hf;cases s with
   |ow _=>cases hf
   |fr=>
    dsimp only at hf;have a:off<row.length:=by omega
    simp only[jN,iv];rw[hl];dsimp only;rw[hs,ajA a];dsimp only;refine⟨by have h0:=hd.1;cases t<;>first|trivial|(simp[Jo]at h0),?_⟩;have d:=bT hl
    show jN sub _ ts [⟨idx,esz,off+1⟩] K
    refine Bl (row:=row.set off t.toD) (ajW d) hd.2 hf (by grind) ?_;rw[akY];exact c
theorem Eg(st a:Step)(r:List Step)(n:Nat):aU (st::a::r) n=st::aU (a::r) n:=rfl
theorem xu{s:List Sh}{st c:Step}:∀{ts:List T}{r:List Step}{l l':List (List D)}{row:List D}{K:List (List D)->Prop},l[st.idx]? = some row->sub[st.off]? = some (.ow s)->row[st.off]? = some (.li l') ->
  jN s l' ts (c::r) (fun i=>K (l.set st.idx (row.set st.off (.li i))))->jN sub l ts (st::c::r) K
 |[],r,l,l',row,K,hl,hs,hc,h=>by
  have k:row.set st.off (.li l')=row:=by
   apply aj9
   grind
  have j:l.set st.idx row=l:=by
   apply aj9
   grind
  grind [jN]
 |t::ts,r,l,l',row,K,hl,hs,hc,h=>by
  simp only[jN,iv]at h⊢;rw[hl];dsimp only;rw[hs,hc];dsimp only;refine qj (fun l1 h1=>?_) h;rw[Eg];have g:=bT hl
  have f:=bT hc
  obtain⟨d,r2,e⟩:∃d r2,aU (c::r) 1=d::r2:=by
   cases r with
   |nil=>exact⟨_,_,rfl⟩
   |cons a b=>exact⟨_,_,rfl⟩
  rw[e]at h1⊢;refine xu (row:=row.set st.off (.li l1)) (l':=l1) (ajW g) hs (ajW f) ?_
  grind [akY]
theorem AK:∀{ts:List Tt}{cs a:List C}{off:Nat},la cs off ts=some a->a.map C.toD=Dz (cs.map C.toD) off ((ts.map Tt.toT).map T.toD)/\(ts.map Tt.toT).all Jo=true/\(ts≠[]->off+ts.length<=cs.length)/\a.length=cs.length
 |[],cs,a,off,h=>by
  simp only[la,ai8]at h;subst h;exact⟨rfl,rfl,fun h=>(h rfl).elim,rfl⟩
 |t::r,cs,a,off,h=>by
  have step:∀{c:C},(∃e,cs[off]? = some e)->la (cs.set off c) (off+1) r=some a->t.toT.toD=c.toD->Jo t.toT=true ->
    a.map C.toD=Dz (cs.map C.toD) off (((t::r).map Tt.toT).map T.toD)/\((t::r).map Tt.toT).all Jo=true/\((t::r)≠[]->off+(t::r).length<=cs.length)/\a.length=cs.length:=by
   rintro c ⟨e,b⟩ h2 h3 h4
   obtain⟨k1,k2,k3,k4⟩:=AK h2;have f:=bT b
   refine⟨?_,by grind,fun _=>?_,by grind⟩
   ·grind [Dz,ajZ]
   simp only[ajK]
   grind
  cases t with
  |d c=>
   simp only[la]at h;split at h
   ·cases h
   ·rename_i hc;exact step ⟨_,hc⟩ h rfl rfl
   grind
  |nil=>
   simp only[la]at h;split at h
   ·rename_i u' g hc;exact step ⟨_,hc⟩ h rfl rfl
   grind
  |_=>simp[la]at h
theorem KY:∀{path:List Step}{sub:List Sh}{u:U}{l l':List (El u)}{ts:List Tt}{k:Prop}{K:List (List D)->Prop},ts≠[]->pZ sub u l path k->r8 sub u l ts path=some l'->K (l'.map (ap u))->jN sub (l.map (ap u)) (ts.map Tt.toT) path K
 |[],_,_,_,_,_,_,_,_,h,_,_=>h.elim
 |[st],sub,u,l,l',ts,k,K,b,h,a,d=>by
  obtain⟨h1,_⟩:=h;simp only[r8]at a;split at a
  ·rename_i cs hf n;split at a
   ·rename_i x hx;simp only[ai8]at a;subst a;obtain⟨k1,k2,k3,k4⟩:=AK n;have e:=wG hx
    obtain⟨idx,esz,off⟩:=st;refine Bl (lW l h1) k2 (by grind) ?_ ?_
    all_goals grind [bR,ajZ]
   grind
  grind
 |st::j::r,sub,u,l,l',ts,k,K,b,h,a,d=>by
  simp only[r8]at a;simp only[pZ]at h;split at a
  ·rename_i s u' m g f;rw[g,f]at h;obtain⟨h1,h4⟩:=h;split at a
   ·rename_i l2 c;split at a
    ·rename_i x hx;simp only[ai8]at a;subst a;obtain⟨_,e⟩:=ro hx;have i:(ap u (l.getD st.idx (dflt u)))[st.off]? = some (.li (m.map (ap u'))):=by
      rw[<- bR,ajD,f];rfl
     refine xu (lW l h1) g i (KY b h4 c ?_);rw[ajZ,e]at d;exact d
    grind
   grind
  grind
theorem DS:∀{m:Mm}{n:Nm}{r a:Root},cv (cv m n r) n a=cv m n a
 |[],_,_,_=>rfl
 |(k,x)::m,n,r,a=>by
  simp only[cv];by_cases h:k=n
  ·grind [cv]
  rw[if_neg h,if_neg h];simp only[cv,if_neg h,DS]
theorem DR:∀{m:Mm}{n:Nm}{r:Root},af m n=some r->cv m n r=m
 |[],_,_,h=>by rfl
 |(k,x)::m,n,r,h=>by
  simp only[af]at h;simp only[cv];by_cases hk:k=n
  ·grind
  rw[if_neg hk]at h⊢;rw[DR h]
variable{K:S->Prop}
theorem xC:∀{ts:List T}{s:S}{p:Pl}{r:Root}{sub:List Sh}{l:List (List D)}{st:Step}{q:List Step},af s.m p.root=some r->p.path=st::q->r.cells[p.off]? = some (.ow sub l)->ts.all Jo=true->(∀t∈ts,t≠.d .any) ->
  jN sub l ts (st::q) (fun l'=>K ⟨s.t,cv s.m p.root { r with cells:=r.cells.set p.off (.ow sub l') }⟩)->dD s p ts K
 |[],s,p,r,sub,l,st,q,hr,hp,hc,_,_,h=>by
  have k:r.cells.set p.off (.ow sub l)=r.cells:=by
   apply aj9
   grind
  simp only[jN,k]at h;have:cv s.m p.root r=s.m:=DR hr
  rw[show({ blk:=r.blk,cells:=r.cells }:Root)=r from rfl,this]at h;exact h
 |t::ts,s,p,r,sub,l,st,q,hr,hp,hc,hd,hn,h=>by
  simp only[ajJ,ai9]at hd;have key:dD s p (t::ts) K=sX s.m p t fun m'=>dD ⟨s.t,m'⟩ (p.add 1) ts K:=by
   cases t with
   |d c=>cases c with
    |any=>grind
    |_=>rfl
   |nil=>rfl
   |_=>grind [Jo]
  rw[key];unfold sX;rw[hr];dsimp only;rw[hp,hc];dsimp only;simp only[jN]at h;refine qj (fun l1 h1=>?_) h;have j:=bT hc
  have i:(p.add 1).root=p.root/\(p.add 1).off=p.off/\(p.add 1).path=aU (st::q) 1:=by
   obtain⟨pr,n,o⟩:=p;dsimp only at hp;subst hp;exact⟨rfl,rfl,rfl⟩
  obtain⟨f,q2,e⟩:∃f r2,aU (st::q) 1=f::r2:=by
   cases q with
   |nil=>exact⟨_,_,rfl⟩
   |cons a b=>exact⟨_,_,rfl⟩
  rw[e]at h1;refine xC (s:=⟨s.t,cv s.m p.root { r with cells:=r.cells.set p.off (.ow sub l1) }⟩) (p:=p.add 1) (r:={ r with cells:=r.cells.set p.off (.ow sub l1) }) (sub:=sub) (l:=l1) (st:=f) (q:=q2) ?_ (i.2.2.trans e) ?_ hd.2 (fun t g=>hn t (by simp[g])) ?_
  all_goals grind [fF,DS,akY]
theorem wk:∀{ts:List Tt}{cs a:List C}{off:Nat},la cs off ts=some a->∀t∈ts.map Tt.toT,t≠.d .any
 |[],_,_,_,_,t,g=>by grind
 |t::r,cs,a,off,h,x,hx=>by
  cases t with
  |d c=>
   have f:c≠.any:=by rintro rfl;simp[la]at h
   have h':∃b o,la b o r=some a:=by
    simp only[la]at h
    grind
   obtain⟨b,o,h'⟩:=h';rcases ajI.1 hx with rfl|hx
   ·intro e;simp only[Tt.toT,T.d.injEq]at e;cases c<;>first|exact f rfl|grind [C.toD]
   exact wk h' x hx
  |nil=>
   simp only[la]at h;split at h
   ·rcases ajI.1 hx with rfl|hx
    ·intro e;cases e
    exact wk h x hx
   grind
  |_=>simp[la]at h
theorem DU:∀{path:List Step}{sub:List Sh}{u:U}{l l':List (El u)}{ts:List Tt},r8 sub u l ts path=some l'->(∀t∈ts.map Tt.toT,t≠.d .any)/\(ts.map Tt.toT).all Jo=true
 |[],_,_,_,_,_,h=>by simp[r8]at h
 |[st],_,_,_,_,_,h=>by
  simp only[r8]at h;split at h
  ·rename_i a;exact⟨wk a,(AK a).2.1⟩
  grind
 |st::b::r,_,_,_,_,_,h=>by
  simp only[r8]at h;split at h
  ·split at h
   ·rename_i hl;exact DU hl
   grind
  grind
def tW(P:Program)(s:S)(t u:TypeId)(x y:Operand)(d:Tmp)(k:S->Prop):Prop:=
 match(ty P t).k with
 |.sl e=>(ty P e).ok=true/\(ty P u).k.isSS=true/\((zcells P e).map (·.length))=some (ty P e).size /\
  match jf s (ty P e).size (ev s y)with
  |some (s1,a,ys)=>match jf s1 (ty P e).size (ev s1 x)with
   |some (s2,sub,l)=>a=sub/\Fo a.length ys/\l.length+ys.length<=4611686018427387904/\(l.length+ys.length)*(ty P e).bytes<=140737488355328 /\
    k (((s2.fresh (.gh d)).root (.gh d) ⟨false,[.ow sub (l++ys)]⟩).put (some d) (.one (.c (.rf ⟨.gh d,0,[]⟩))))
   |none=>False
  |none=>False
 |_=>False
variable{d:Tmp}{l:List (List D)}{y:Operand}
section
variable {P:Program} {g:G} {s:S} {a:Act} {w:World} {H:FH} {γ:Gam} {F:Nm->Fp}
theorem aeF{k:Nat}{sh:Sh}{x:D}{f:Fp}{y:Value}(hs:x.sure=true)(h:OD w H k sh x f y):oY y=true:=by
 cases sh with
 |fr=>grind [OS,fO]
 |ow sub=>
  cases k with
  |zero=>cases x<;>first|(simp[OD]at h;done)|grind [D.sure]
  |succ k=>
   cases x with
   |li l=>
    obtain⟨a,c,_,_,rfl,_⟩:=mR h;rfl
   |any=>grind [D.sure]
   |_=>simp[OD]at h
theorem UB{k:Nat}:∀{b:List Sh}{xs:List D}{f:Fp}{vs:List Value},vs.length=xs.length->(∀x∈xs,x.sure=true)->Cs (OD w H k) b xs f vs->∀u∈vs,oY u=true
 |[],[],_,vs,hl,_,_=>by
  grind
 |s::b,x::xs,f,vs,hl,hx,h=>by
  obtain⟨v,r,f1,c,rfl,_,h1,h2⟩:=h;intro u a;rcases ajI.1 a with rfl|a
  ·exact aeF (hx x (by simp)) h1
  exact UB (by grind) (fun y hy=>hx y (by simp[hy])) h2 u a
 |[],_::_,_,_,_,_,h=>h.elim
 |_::_,[],_,_,_,_,h=>h.elim
theorem acM{k:Nat}{ys:List (List D)}{f:Fp}{v:Value}(h:OD w H k (.ow sub) (.li ys) f v)(i:Fo sub.length ys) :
  ∃(kx:Nat)(gx:Fp)(ws:List Value),Src P w sub.length v ys.length ws/\Cs (OD w H kx) (List.replicate ys.length sub).flatten ys.flatten gx ws/\(∀u∈ws,oY u=true)/\∀b,gx b<=f b:=by
 cases k with
 |zero=>simp[OD]at h
 |succ k=>
  obtain⟨ad,c,n,vs,rfl,hlc,m,l,e,d,a⟩:=mR h;refine⟨k,n,vs,?_,d,?_,?_⟩
  ·rcases a with⟨rfl,rfl,rfl,_⟩|⟨b,cs,ty,fz,rfl,hb,hfz,hcsz,rfl,hf⟩
   ·simp_all[pg]
   refine vE e (fun j u hj=>?_)
   grind [World.cell?]
  ·refine UB (by grind [cM]) (fun x hx=>?_) d;rw[List.mem_flatten]at hx;obtain⟨y,hy,g⟩:=hx;exact(i y hy).2 x g
  grind [Cs]
theorem mU(h:RX g s a w H γ F){size:Nat}{x:AV}{v:Value}{s1:S}(hx:AR w H γ s.m x v)(hb:jf s size x=some (s1,sub,l)) :
  ∃k f F1,OD w H k (.ow sub) (.li l) f v/\RX g s1 a w H γ F1/\sub.length=size/\(∀b,tot F1 s1.m b+f b=tot F s.m b)/\(∀b,f b≠0->b<w.heap.size/\(∀o,H b o=none)/\(g.own0 b≠0\/g.w0.heap.size<=b)):=by
 match x,hb with
 |.one (.c .nil),hb=>
  simp only[jf,ai8,Prod.mk.injEq]at hb;obtain⟨rfl,rfl,rfl⟩:=hb;obtain⟨_,rfl⟩:=hx;refine⟨1,fun _=>0,F,?_,h,by simp,fun b=>rfl,fun b hb=>absurd rfl hb⟩
  grind [fd]
 |.one (.c (.rf q)),hb=>
  simp only[jf]at hb;cases n:aT s.m q with
  |none=>grind
  |some t=>
   rw[n]at hb;cases t with
   |ow j l'=>
    dsimp only at hb;split at hb
    ·rename_i e;simp only[ai8,Prod.mk.injEq]at hb;obtain⟨rfl,rfl,rfl⟩:=hb;obtain⟨_,i,hv⟩:=hx;obtain⟨r,f,F',z,⟨k,u⟩,p,y⟩:=G1 h (fj i) n;rw[hv]at z;obtain rfl:v=r:=by grind
     exact⟨k,f,F',u,p,e,y,fun b hb=>by
      have d:tot F s.m b≠0:=by grind
      exact⟨h.mem.lt b d,h.mem.nofz b d,h.fr.tt b d⟩⟩
    grind
   |_=>grind
theorem Ib(h:RX g s a w H γ F){t u tt:TypeId}{x:Operand}{k:S->Prop}(hd:okD g.nt (some d)=true)(hx:aF x=true)(hy:aF y=true)(c:tW P s t u x y d k) :
  ∃s' z w' H' γ' F',(Builtin.append_ #[t,u] tt #[a.eval x,a.eval y]).run P w=.ok z w'/\k s'/\RX g s' (a.put (some d) z) w' H' γ' F':=by
 unfold tW at c;cases hk:(ty P t).k with
 |sl e=>
  rw[hk]at c;obtain⟨N,V,A,c⟩:=c;obtain⟨_,td,hit,R,ab,_⟩:=aS hk (by simp);have:=oX ab
  subst this;obtain⟨L,de,E,_,_,j,p,_⟩:=jx N;rw[j,p]at c;rw[j]at A;obtain⟨zs,O,A⟩:=ajL.1 A;obtain⟨W,z,Z,hz,ag,_⟩:=kw O;rw[E]at Z;obtain rfl:L=W:=by grind
  have J:z.cells.size=L.size:=by grind
  obtain⟨C,huu,hudd⟩:∃C,P.underlying u=some C/\isSS C=true:=by
   have X:(ty P u).k≠.ot:=fun e=>by grind [TK.isSS]
   obtain⟨_,C,_,h2,h3,_⟩:=aS rfl X;refine⟨C,h2,?_⟩;rw[<- h3]at V;cases C<;>first|rfl|grind [gf,TK.isSS]
  cases D:jf s L.size (ev s y)with
  |none=>grind
  |some q1=>
   obtain⟨s1,r,ys⟩:=q1;rw[D]at c;dsimp only at c;obtain⟨k1,f1,F1,d1,h1,d3,d4,d5⟩:=mU h (aH h hy) D;cases I:jf s1 L.size (ev s1 x)with
   |none=>grind
   |some q=>
    obtain⟨s2,sub,l⟩:=q;rw[I]at c;obtain⟨G,i,K,Q,c⟩:=c;subst G;obtain⟨kb,f,B,b1,b2,b3,M,b5⟩:=mU h1 (aH h1 hx) I;have b4:∀b,tot B s2.m b+f b+f1 b<=1:=fun b=>by have:=M b;have:=d4 b;have:=h.mem.le1 b;omega
    obtain⟨kx,gx,ws,r1,r2,r3,r4⟩:=acM (P:=P) d1 i;rw[d3]at r1;obtain⟨z',w',f',c1,⟨k',c2⟩,c3,c4,c5,c6,c7,c8,c9⟩:=Bc (tt:=tt) R huu hudd E hz J (gx:=gx) (kx:=kx) b3 b1 r1 (fun y hy=>(i y hy).1)
     r2 r3 (fun b=>by grind) (fun b hb=>by grind) K Q
    have hX:=pe b2 c3 c4 c5 c6 (fun b hb=>by
     grind)
    have aa:=cU hX (.gh d)
    have hn:=bZ hX (.gh d)
    have U:∀b,w.heap.size<=b->∀o,H b o=none:=by
     intro b hb o;cases hc:H b o with
     |none=>rfl
     |some y=>have:=(h1.mem.agree _ _ _ hc).lt;omega
    have ae:∀b,tot B (s2.fresh (.gh d)).m b<=tot B s2.m b:=by
     intro b;unfold S.fresh;split
     ·omega
     show tot B (aJ _ _) b<=_
     rw[bh];exact gi
    have ad:tot B s2.m w.heap.size=0:=by
     rcases aj5 (tot B s2.m w.heap.size)with h'|h'
     ·exact h'
     have:=b2.mem.lt w.heap.size kQ1;omega
    have own:∀b,f' b≠0->b≠w.heap.size->b<w.heap.size/\(∀o,H b o=none)/\(g.own0 b≠0\/g.w0.heap.size<=b):=by
     grind
    obtain⟨γ',F',T,Y⟩:=dN aa (n:=.gh d) rfl hn (v:=z') (t:=.ow r (l++ys)) (f:=f') ⟨k',c2⟩ (fun b=>by
      grind)
     (fun b hb=>⟨c9 b hb,by
      grind⟩)
     (fun b hb=>by
      by_cases ac:b=w.heap.size
      ·right;have:=b2.fr.size;omega
      grind)
    refine⟨_,z',w',H,γ',F',c1,c,RX.put T hd (gX (sub:=r) (l:=l++ys) ?_ Y)⟩;simp[af]
 |_=>grind
end
def fzS:List Sh->List T->Option (List D)
 |[],[]=>some []
 |.fr::a,t::ts=>match fzS a ts with
  |some r=>some (t.fz::r)
  |none=>none
 |.ow _::a,.nil::ts=>match fzS a ts with
  |some r=>some (.li []::r)
  |none=>none
 |_,_=>none
section
variable {P:Program} {g:G} {s:S} {a:Act} {w:World} {H:FH} {γ:Gam} {F:Nm->Fp}
theorem D6{k:Nat}{m:Mm}:∀{c:List Sh}{ts:List T}{xs:List D}{f:Fp}{vs:List Value},(∀b,f b=0)->fzS c ts=some xs->Ts (TR w H γ m) ts f vs ->
  Cs (OD w H (k+1)) c xs f vs
 |[],[],xs,_,_,hf,a,_=>by
  simp only[fzS,ai8]at a;subst a;exact hf
 |.fr::c,t::ts,xs,f,vs,hf,a,h=>by
  simp only[fzS]at a;cases h5:fzS c ts with
  |none=>grind
  |some r0=>
   rw[h5]at a;simp only[ai8]at a;subst a;obtain⟨v,r,f1,e,h1,h2,h3,h4⟩:=h;refine⟨v,r,f1,e,h1,h2,?_,D6 (fun b=>by grind) h5 h4⟩;rw[fO];refine⟨fun b=>by grind,?_⟩;cases t with
   |d x=>exact h3.2
   |nil=>obtain⟨_,rfl⟩:=h3;exact lJ
   |_=>exact⟨0,trivial⟩
 |.ow sub::c,.nil::ts,xs,f,vs,hf,a,h=>by
  simp only[fzS]at a;cases h5:fzS c ts with
  |none=>grind
  |some r0=>
   rw[h5]at a;simp only[ai8]at a;subst a;obtain⟨v,r,f1,e,h1,h2,h3,h4⟩:=h;refine⟨v,r,f1,e,h1,h2,?_,D6 (fun b=>by grind) h5 h4⟩;obtain⟨_,rfl⟩:=h3
   grind [fd]
 |[],_::_,_,_,_,_,a,_=>by grind [fzS]
 |.fr::_,[],_,_,_,_,a,_=>by grind [fzS]
 |.ow _::_,[],_,_,_,_,a,_=>by grind [fzS]
 |.ow _::_,.d _::_,_,_,_,_,a,_=>by grind [fzS]
 |.ow _::_,.ow _ _::_,_,_,_,_,a,_=>by grind [fzS]
 |.ow _::_,.el _ _::_,_,_,_,_,a,_=>by grind [fzS]
 |.ow _::_,.pl _::_,_,_,_,_,a,_=>by grind [fzS]
 |.ow _::_,.rf _::_,_,_,_,_,a,_=>by grind [fzS]
 |.ow _::_,.any::_,_,_,_,_,a,_=>by grind [fzS]
theorem yV(h:RX g s a w H γ F)(hno:n.isOut=false)(hn:af s.m n=none){cs:Array Value}{ty':TypeId}{len cap:Nat}(hl:l.length=len)(f:len<=cap)(d:len<=BIG)
  (hx:∀x∈l,x.length=sub.length) (j:cs.size=cap*sub.length) (p:∀k,Cs (OD w H (k+1)) (List.replicate len sub).flatten l.flatten (fun _=>0) cs.toList) :
  ∃γ' F',RX g (s.root n ⟨false,[.ow sub l]⟩) a (w.alloc (.cells cs ty')) H γ' F'/\γ' n=.gh (.slice (some ⟨w.heap.size,0,none⟩) len cap):=by
 obtain⟨hm,hf,q,r⟩:=qA h.mem cs ty' false;simp only[ajC,false_and,if_false]at hm hf q r;have B:RX g s a (w.alloc (.cells cs ty')) H γ F:=jS h hm hf (fun i=>dp q (fun _ _ _ h=>h) (h.t i)) (fun _=>rfl)
 have C:tot F s.m w.heap.size=0:=by
  rcases aj5 (tot F s.m w.heap.size)with h'|h'
  ·exact h'
  have:=h.mem.lt w.heap.size kQ1;omega
 have z:∀o,H w.heap.size o=none:=by
  intro o;cases hc:H w.heap.size o with
  |none=>rfl
  |some y=>have:=(h.mem.agree _ _ _ hc).lt;omega
 have e:∀k,Cs (OD (w.alloc (.cells cs ty')) H (k+1)) (List.replicate len sub).flatten l.flatten (fun _=>0) cs.toList:=by
  intro k;refine lI _ _ _ _ (fun s x g v u c=>?_) (p k);exact cF (fun _ _ _ h=>h) (k+1) (k+1) _ _ _ _ (ajB _) (fun b hb=>absurd (Nat.le_zero.1 (u b)) hb) c
 subst hl;have c:TR (w.alloc (.cells cs ty')) H γ s.m (.ow sub l) (fun b=>0+if b=w.heap.size then 1 else 0) (.slice (some ⟨w.heap.size,0,none⟩) l.length cap):=
  ⟨2,yT (bw) rfl j f d hx (e 0)⟩
 exact dN B hno hn c (fun b=>by
   grind [Mem.le1])
  (fun b hb=>by
   simp_all)
  (fun b hb=>by
   have A:b=w.heap.size:=by
    grind
   right;have:=h.fr.size;omega)
def jV(P:Program)(s0:S)(t:TypeId)(len:Nat)(sub:List Sh)(ps:Array (Nat×Operand))(d:Tmp)(k:S->Prop):Prop:=
 match(ty P t).k with
 |.sl e=>(ty P e).ok=true/\(zcells P e).isSome=true/\len*(ty P e).size<=16777216/\len<=16777216/\sub.length=(ty P e).size /\
  let s:=(oT s0 (ps.toList.map fun x=>ev s0 x.2)).fresh (.gh d)
  match jP (fun i=>some (i*(ty P e).size,(ty P e).size)) (List.replicate (len*(ty P e).size) .any) (lb s ps)with
  |some ts=>match fzS (List.replicate len sub).flatten ts with
   |some xs=>k ((s.root (.gh d) ⟨false,[.ow sub (chunk (ty P e).size len xs)]⟩).put (some d) (.one (.c (.rf ⟨.gh d,0,[]⟩))))
   |none=>False
  |none=>False
 |_=>False
theorem xH(h:RX g s a w H γ F){t:TypeId}{len:Nat}{sub:List Sh}{k:S->Prop}(hd:okD g.nt (some d)=true)(hp:(ps.toList.all fun x=>aF x.2)=true)(b:jV P s t len sub ps d k) :
  ∃s' y w' H' γ' F',(Instr.buildSlice t len (ps.map fun(i,x)=>(i,a.eval x))).run P w=.ok y w'/\k s'/\RX g s' (a.put (some d) y) w' H' γ' F':=by
 unfold jV at b;cases hk:(ty P t).k with
 |sl e=>
  rw[hk]at b;obtain⟨u,K,c,U,E,b⟩:=b;obtain⟨_,td,hit,A,J,_⟩:=aS hk (by simp);have:=oX J
  subst this;obtain⟨f,W,q,_⟩:=jx u;have j:(ty P e).size=f.size:=by
   omega
  obtain⟨zs,v⟩:=Option.isSome_iff_exists.1 K;obtain⟨D,z,I,R,_⟩:=kw v;rw[q]at I;obtain rfl:f=D:=by grind
  obtain⟨H1,F1,h1⟩:=tM (ps.toList.map fun x=>ev s x.2) s H F h;have h2:=cU h1 (.gh d)
  have hn:=bZ h1 (.gh d)
  dsimp only at b;generalize(oT s (ps.toList.map fun x=>ev s x.2)).fresh (.gh d)=s2 at b h2 hn;cases hf:jP (fun i=>some (i*(ty P e).size,(ty P e).size)) (List.replicate (len*(ty P e).size) .any) (lb s2 ps)with
  |none=>grind
  |some ts=>
   rw[hf]at b;dsimp only at b;rw[j]at hf b c E;have r:PR w H1 γ s2.m (lb s2 ps) (ps.map fun(i,x)=>(i,a.eval x)).toList:=by
    rw[Array.toList_map];exact tJ (m:=s2.m) h2 hp
   have o:∀us:Array Value,us.size=len*f.size->∃cs,Instr.fill (fun i=>some (i*f.size,f.size)) us (ps.map fun(i,x)=>(i,a.eval x)).toList=some cs/\cs.size=ts.length/\Ts (TR w H1 γ s2.m) ts (fun _=>0) cs.toList:=by
    intro us hus;refine yb h2.mem _ _ _ us ts r (by grind) ?_ hf;have:=LR (w:=w) (H:=H1) (γ:=γ) (m:=s2.m) (vs:=us.toList)
    grind
   have M:ts.length=len*f.size:=by rw[oa hf];simp
   obtain⟨us,cs,u1,T,V⟩:=jL (P:=P) (w:=w) (t:=t) (e:=e) (len:=len) (vs:=ps.map fun(i,x)=>(i,a.eval x)) (cells:=#[]) A q R kQ1 (fun us hus=>by
    grind)
   obtain⟨C,O,X,N⟩:=o us u1;rw[T]at O;obtain rfl:cs=C:=by grind
   cases p:fzS (List.replicate len sub).flatten ts with
   |none=>grind
   |some xs=>
    rw[p]at b;dsimp only at b;have B:∀k,Cs (OD w H1 (k+1)) (List.replicate len sub).flatten xs (fun _=>0) cs.toList:=fun k=>D6 (fun _=>rfl) p N
    have L:xs.length=len*f.size:=by
     have h5:=(Ci _ _ _ _ (B 0)).1
     grind [cM,akU]
    obtain⟨γ',F',Q,G⟩:=yV h2 (n:=.gh d) rfl hn (cs:=cs) (ty':=e) (len:=len) (cap:=len) (sub:=sub) (l:=chunk f.size len xs) nY (ajB _) (by
      show len<=2 ^ 62
      omega) (by grind [vP]) (by grind) (fun k=>by
       grind [sB])
    refine⟨_,_,_,H1,γ',F',V,b,RX.put Q hd (gX (sub:=sub) (l:=chunk f.size len xs) ?_ G)⟩;simp[S.root,af]
 |_=>grind
end
abbrev upS(k:St->Prop):S->Prop:=fun s'=>∃t:St,SEq s' t.toS/\k t
theorem OH{P:Program}(h:zcells P t=some zs):zs.all okT=true:=by
 grind [zcells]
variable{E:Ut}{u0:TypeId}
section
variable {P:Program} {s:St} {k:St->Prop}
theorem Rb(hn:ND s.m)(h:pq P s t d k):vF P s.toS t d (upS k):=by
 unfold pq at h;split at h
 ·rename_i z zs a;split at h
  ·rename_i hd;unfold vF;rw[a];refine⟨by simp,ajG hd,_,?_,h⟩;have e:((s.fresh (lG t d)).root (lG t d) ⟨true,(z::zs).map pB,none⟩).toS=(s.toS.fresh (lG t d)).root (lG t d) ⟨true,(z::zs).map rH⟩:=by
    rw[<- bx hn,<- PM (OH a)];rfl
   rw[<- e];exact aO ((s.fresh (lG t d)).root (lG t d) ⟨true,(z::zs).map pB,none⟩) (some d) (.one (.c (.pl ⟨lG t d,0,[]⟩)))
  grind
 grind
theorem ZA{x:Operand}(hn:ND s.m)(hx:aF x=true)(h:Io s x d k):Ro s.toS x d (upS k):=by
 unfold Io at h;split at h
 ·rename_i t ts hc;split at h
  ·rename_i hd;simp only[ai9]at hd;unfold Ro;rw[<- bx hn,aj hx,sy,hc];dsimp only[Option.map_some];refine⟨by simp,?_,ajG hd.2,_,?_,h⟩
   ·grind [K8]
   exact aO ((s.fresh (.loc d)).root (.loc d) ⟨true,t::ts,none⟩) (some d) (.one (.c (.pl ⟨.loc d,0,[]⟩)))
  grind
 grind
theorem PW{t:Tt}{x:El u}(h:BG u t=some x):t.toT.fz=(ao u x).toD:=by
 unfold BG at h;split at h
 ·split at h
  ·simp only[ai8]at h;subst h;rfl
  grind
 ·rename_i c _;rw[dQ h];rfl
 ·split at h
  ·simp only[ai8]at h;subst h;rfl
  grind
 grind
theorem Ja:∀{us:List U}{ts:List Tt}{x:Fl us},lO us ts=some x->ts.map (fun t=>t.toT.fz)=(ff us x).map C.toD
 |[],[],_,_=>rfl
 |u::r,c::cs,x,h=>by
  simp only[lO]at h;cases h1:BG u c with
  |none=>grind
  |some y=>
   cases h2:lO r cs with
   |none=>grind
   |some z=>
    rw[h1,h2]at h;simp only[ai8]at h;subst h;rw[ff,uj,ve,List.map_cons,List.map_cons,PW h1,Ja h2]
 |[],_::_,_,h=>by simp[lO]at h
 |_::_,[],_,h=>by simp[lO]at h
theorem aaQ{x:El u}(h:lF u ts=some x):ts.map (fun t=>t.toT.fz)=ap u x:=by
 rw[<- bR];cases u with
 |st n=>
  simp only[lF]at h;cases h1:lO (sd n).fs ts with
  |none=>grind
  |some y=>
   rw[h1]at h;have:=Option.some.inj h
   subst this;show _=(ff (sd n).fs ((sd n).un ((sd n).mkF y))).map C.toD
   rw[(sd n).l2,Ja h1]
 |_=>
  cases ts with
  |nil=>cases h
  |cons t r=>cases r with
   |nil=>rw[kj rfl];simp only[List.map_cons,List.map_nil];rw[PW h]
   |cons _ _=>cases h
theorem om:∀{rows:List (List Tt)}{l:List (El u)},g9 u rows=some l->rows.map (fun r=>r.map fun t=>t.toT.fz)=l.map (ap u)
 |[],l,h=>by grind [g9]
 |r::rs,l,h=>by
  simp only[g9]at h;cases h1:lF u r with
  |none=>grind
  |some x=>
   cases h2:g9 u rs with
   |none=>grind
   |some xs=>
    rw[h1,h2]at h;simp only[ai8]at h;subst h;rw[List.map_cons,List.map_cons,aaQ h1,om h2]
theorem vO{α β:Type}(f:α->β)(size:Nat):∀(n:Nat)(l:List α),chunk size n (l.map f)=(chunk size n l).map (·.map f)
 |0,_=>rfl
 |n+1,l=>by simp only[chunk,List.map_cons,ak0];rw[<- alA,vO f size n]
theorem Ia(h:(fo s ps).all (fun x=>x.2.noRf)=true):(ps.toList.map fun x=>evA s x.2).all At.noRf=true:=by
 grind [fo,List.all_map]
theorem PS{xs:List (Nat×Operand)}(h:(xs.all fun x=>aF x.2)=true):(xs.map fun x=>ev s.toS x.2)=(xs.map fun x=>evA s x.2).map At.toV:=by
 grind [ajN,aj]
theorem zo{len:Nat}(b:(ps.toList.all fun x=>aF x.2)=true)
  (hn:ND (cN s (ps.toList.map fun x=>evA s x.2)).m) (h:dW P E s t len ps d k):gL P (cN s (ps.toList.map fun x=>evA s x.2)).toS t len ps d (upS k):=by
 unfold dW at h;split at h
 ·rename_i e i;split at h
  ·rename_i u z q v;split at h
   ·rename_i hc;simp only[ai9]at hc;obtain⟨⟨⟨g,j⟩,r⟩,o⟩:=hc;have f:=ajF j
    dsimp only at h;generalize hs1:cN s (ps.toList.map fun x=>evA s x.2)=s1 at h hn;split at h
    ·rename_i ts hf hno;split at h
     ·rename_i l hl;unfold gL;rw[i];dsimp only;refine⟨g,by grind,by simp_all,ajG o,?_⟩;rw[PS b,og (Ia hno),<- bx hn,wq b,<- f];have a:=qO hf
      rw[List.map_replicate]at a;have e0:Tt.any.toT=T.any:=rfl
      rw[e0]at a;rw[a];dsimp only;refine⟨_,?_,h⟩;have n:(⟨false,[.ow (List.replicate (nc u) .fr) u l],none⟩:Rt).toR=⟨false,[.ow (List.replicate (nc u) .fr) (chunk (nc u) len ((ts.map Tt.toT).map T.fz))]⟩:=by
       have p:chunk (nc u) len ((ts.map Tt.toT).map T.fz)=l.map (ap u):=by rw[akA,vO];exact om hl
       rw[p];rfl
      rw[<- n];exact aO ((s1.fresh (.gh d)).root (.gh d) ⟨false,[.ow (List.replicate (nc u) .fr) u l],none⟩) (some d) (.one (.c (.rf ⟨.gh d,0,[]⟩)))
     grind
    grind
   grind
  grind
 grind
theorem vb:∀{a:List Sh}{ts:List Tt},nJ a ts=true->fzS a (ts.map Tt.toT)=some (ts.map fun t=>t.toT.fz)
 |[],[],_=>rfl
 |.fr::r,t::ts,h=>by
  simp only[List.map_cons,fzS];rw[vb (show nJ r ts=true from h)]
 |.ow sub::r,t::ts,h=>by
  cases t with
  |nil=>
   simp only[List.map_cons,Tt.toT,fzS];rw[vb (show nJ r ts=true from h)];rfl
  |_=>simp[nJ]at h
 |[],_::_,h=>by simp[nJ]at h
 |.fr::_,[],h=>by simp[nJ]at h
 |.ow _::_,[],h=>by simp[nJ]at h
theorem xI{len:Nat}(f:(ps.toList.all fun x=>aF x.2)=true)
  (hn:ND (cN s (ps.toList.map fun x=>evA s x.2)).m) (h:dw P E sub s t len ps d k):jV P (cN s (ps.toList.map fun x=>evA s x.2)).toS t len sub ps d (upS k):=by
 unfold dw at h;split at h
 ·rename_i e j;split at h
  ·rename_i u z v y;split at h
   ·rename_i hc;simp only[ai9]at hc;obtain⟨⟨⟨⟨i,n⟩,w⟩,p⟩,r⟩:=hc;have g:=ajF n
    dsimp only at h;generalize hs1:cN s (ps.toList.map fun x=>evA s x.2)=s1 at h hn;split at h
    ·rename_i ts hf hno;split at h
     ·rename_i l hl b;unfold jV;rw[j];dsimp only;refine⟨i,by grind,by simp_all,ajG p,by grind [ajF],?_⟩;rw[PS f,og (Ia hno),<- bx hn,wq f,<- g];have a:=qO hf
      rw[List.map_replicate]at a;have e0:Tt.any.toT=T.any:=rfl
      rw[e0]at a;rw[a];dsimp only;rw[vb b];dsimp only;refine⟨_,?_,h⟩;have o:(⟨false,[.ow sub u l],none⟩:Rt).toR=⟨false,[.ow sub (chunk (nc u) len (ts.map fun t=>t.toT.fz))]⟩:=by
       have q:chunk (nc u) len (ts.map fun t=>t.toT.fz)=l.map (ap u):=by grind [vO,om]
       rw[q];rfl
      rw[<- o];exact aO ((s1.fresh (.gh d)).root (.gh d) ⟨false,[.ow sub u l],none⟩) (some d) (.one (.c (.rf ⟨.gh d,0,[]⟩)))
     grind
    grind
   grind
  grind
 grind
theorem yS{m:List (Nm×Nat×Rt)}(h:ND m):ND (dj m n i r):=by
 grind [Dm]
theorem Tx(t:Tt):t.toT.owned=t.owned:=by cases t<;>rfl
theorem Qo{t:Tt}(h:B9 s p t k)(hn:ND s.m):∃m',(∀K:Mm->Prop,K m'->sX s.toS.m p t.toT K)/\∃s':St,s'.toS=⟨s.toS.t,m'⟩/\ND s'.m/\k s':=by
 unfold B9 at h;split at h
 ·grind
 rename_i r hr;split at h
 ·rename_i t0 a f hc;split at h
  ·rename_i o;have d:r.toR.cells=r.cells.map Tt.toT:=by show holed _ r.hole=_;rw[f];rfl
   refine⟨cv s.toS.m p.root ⟨r.blk,(r.cells.map Tt.toT).set p.off t.toT⟩,fun K e=>?_,_,?_,yS hn,h⟩
   ·unfold sX;rw[show af s.toS.m p.root=some r.toR from bi hr];dsimp only;rw[a,d,ajD,hc];exact⟨by grind [Tx],e⟩
   refine bE.S_ext rfl ?_;show toM (dj s.m p.root s.nx _)=_
   rw[fA]
   congr 1
   grind [Rt.toR,holed,ajZ]
  grind
 ·rename_i st q sub u l a f hc;split at h
  ·rename_i l' hl;have d:r.toR.cells=r.cells.map Tt.toT:=by show holed _ r.hole=_;rw[f];rfl
   refine⟨cv s.toS.m p.root ⟨r.blk,(r.cells.map Tt.toT).set p.off (.ow sub (l'.map (ap u)))⟩,fun K e=>?_,_,?_,yS hn,Fq h⟩
   ·unfold sX;rw[show af s.toS.m p.root=some r.toR from bi hr];dsimp only;rw[a,d,ajD,hc];exact KX h hl e
   refine bE.S_ext rfl ?_;show toM (dj s.m p.root s.nx _)=_
   rw[fA]
   congr 1
   grind [Rt.toR,holed,ajZ,Tt.toT]
  grind
 ·rename_i st q off i j sub u l a f hc;split at h
  ·rename_i sh v n hb;split at h
   ·rename_i l' hl;have c:off=p.off:=ajF hb
    subst c;obtain⟨b,hk⟩:=C6 (Fq h);have g:p.off < (r.cells.map Tt.toT).length:=by grind
    simp only[List.cons.injEq]at b;obtain⟨rfl,rfl⟩:=b;have d:r.toR.cells=(r.cells.map Tt.toT).set p.off (.ow sub (bX sub (l.map (ap u)) .any (i::j))):=by
     show holed _ r.hole=_
     grind [Jh]
    refine⟨cv s.toS.m p.root ⟨r.blk,(r.cells.map Tt.toT).set p.off (.ow sub (l'.map (ap u)))⟩,fun K e=>?_,_,?_,yS hn,hk⟩
    ·unfold sX;rw[show af s.toS.m p.root=some r.toR from bi hr];dsimp only;rw[a,d,ajW g];refine IV h hl ?_;rw[akY];exact e
    refine bE.S_ext rfl ?_;show toM (dj s.m p.root s.nx _)=_
    rw[fA]
    congr 1
    simp only[Rt.toR,holed,ajZ,Tt.toT]
   grind
  grind
 grind
theorem Xx(n:Nm)(t:Tt):t.toT.ment n=t.ment n:=by cases t<;>rfl
theorem ta(g:∀t:St,k t->K t.toS):∀{ts:List Tt}{s:St}{p:Pl},ND s.m->iw s p ts k->dD s.toS p (ts.map Tt.toT) K
 |[],s,p,hn,h=>g s h
 |t::ts,s,p,hn,h=>by
  have b:∀t:Tt,(∀q,t≠.rf q)->t≠.any->t≠.d .any->B9 s p t (fun s'=>iw s' (p.add 1) ts k)->dD s.toS p (t.toT::ts.map Tt.toT) K:=by
   intro t h1 h2 h3 h;obtain⟨m',hp,s',e,hn',hk⟩:=Qo h hn;have key:dD s.toS p (t.toT::ts.map Tt.toT) K=sX s.toS.m p t.toT fun m'=>dD ⟨s.toS.t,m'⟩ (p.add 1) (ts.map Tt.toT) K:=by
    cases t with
    |rf q=>grind
    |any=>grind
    |d c=>cases c with
     |any=>grind
     |_=>rfl
    |_=>rfl
   rw[key];refine hp _ ?_;rw[<- e];exact ta g hn' hk
  cases t with
  |rf q=>
   simp only[iw]at h;split at h
   ·rename_i sub u l hr;split at h
    ·rename_i a f i;simp only[List.map_cons,Tt.toT,dD];rw[show af s.toS.m q.root=some (⟨false,[.ow sub u l],none⟩:Rt).toR from bi hr];refine⟨a,by grind,?_,?_⟩
     ·grind [Xx]
     rw[<- bE hn];obtain⟨m',hp,s',e,hn',hk⟩:=Qo h (Ps hn);refine hp _ ?_;rw[<- e];exact ta g hn' hk
    grind
   grind
  |any=>exact h.elim
  |d c=>cases c with
   |any=>exact h.elim
   |_=>exact b _ (fun _ h=>by cases h) (fun h=>by cases h) (fun h=>by cases h) h
  |_=>exact b _ (fun _ h=>by cases h) (fun h=>by cases h) (fun h=>by cases h) h
theorem N5(d:∀t:St,k t->K t.toS)(b:ts≠[])(h:mg s p ts k):dD s.toS p (ts.map Tt.toT) K:=by
 unfold mg at h;split at h
 ·grind
 rename_i r hr;split at h
 ·rename_i st q sub u l a i hc;split at h
  ·rename_i l' hl;have c:r.toR.cells=r.cells.map Tt.toT:=by show holed _ r.hole=_;rw[i];rfl
   obtain⟨f,g⟩:=DU hl;refine xC (bi hr) a (sub:=sub) (l:=l.map (ap u)) (by rw[c,ajD,hc];rfl) g f (KY b h hl ?_);have hk:=d _ (Fq h)
   have e:(⟨s.nx+1,s.t,dj s.m p.root s.nx { r with cells:=r.cells.set p.off (.ow sub u l') }⟩:St).toS=⟨s.toS.t,cv s.toS.m p.root { r.toR with cells:=r.toR.cells.set p.off (.ow sub (l'.map (ap u))) }⟩:=by
    refine bE.S_ext rfl ?_;show toM (dj s.m p.root s.nx _)=_
    rw[fA]
    congr 1
    grind [Rt.toR,holed,ajZ,Tt.toT]
   grind
  grind
 grind
theorem T5(b:∀t:St,k t->K t.toS)(hn:ND s.m)(h:qm P s t x v k):wE P s.toS t x.toV v.toV K:=by
 unfold qm at h;split at h
 ·rename_i p ts hv;split at h
  ·rename_i hc;simp only[ai9]at hc;unfold wE;rw[sy,hv];refine⟨hc.1.1,by grind [ajF],by rw[ajH];exact pP hc.2,?_⟩;split at h
   ·rename_i a;refine N5 b (fun e=>?_) h;subst e;simp[Yp,Nat.blt]at a
   grind [ta]
  grind
 grind
theorem acL{l:List (El u)}{size:Nat}(hs:nc u=size)(h:acK u v=some l):kc size v.toV=some (l.map (ap u))/\v.noRf=true:=by
 unfold acK at h;split at h
 ·simp only[ai8]at h;subst h;exact⟨rfl,rfl⟩
 ·rename_i u' l';obtain⟨e,rfl⟩:=jj h;subst e;exact⟨rfl,rfl⟩
 ·rename_i b;split at h
  ·simp only[ai8]at h;subst h;have:size=1:=hs.symm
   simp only[At.toV,A1.toV,Tt.toT,C.toD,kc];rw[if_pos this];exact⟨rfl,rfl⟩
  grind
 grind
theorem IJ{m:List (Nm×Nat×Rt)}{t:Tt}(hr:bJ m q.root=some r)(hp:q.path=[])(h:atT m q 1=some [t]):r.cells[q.off]? = some t:=by
 unfold atT at h;rw[hr]at h;dsimp only at h;rw[hp]at h;dsimp only at h;split at h
 ·rename_i hb;simp only[ai8]at h;have:=congrArg (·[0]?) h
  grind
 grind
theorem mT{s':St}{l:List (El u)}{size:Nat}(hs:nc u=size)(hn:ND s.m)(hop:∀q,v=.one (.c (.rf q))->okP (toM s.m) q)(h:kH s u v=some (s',sub,l)) :
  jf s.toS size v.toV=some (s'.toS,sub,l.map (ap u))/\ND s'.m/\Ext s s':=by
 unfold kH at h;split at h
 ·simp only[ai8,Prod.mk.injEq]at h;obtain⟨rfl,rfl,rfl⟩:=h;exact⟨by rw[<- hs];rfl,hn,Ext.refl _⟩
 ·rename_i q;split at h
  ·rename_i d u' l' y;split at h
   ·rename_i l2 s2 k t a;simp only[ai8,Prod.mk.injEq]at h;obtain⟨rfl,rfl,rfl⟩:=h;obtain⟨e,rfl⟩:=jj k;subst e;unfold YB at a;split at a
    ·grind
    rename_i r hr;split at a
    ·rename_i b o;simp only[ai8]at a;have g:atT s.m q 1=some [.ow d u' l']:=by
      grind [sliceAt]
     have hc:=IJ hr b g
     have f:af s.toS.m q.root=some r.toR:=bi hr
     have i:r.toR.cells=r.cells.map Tt.toT:=by show holed _ r.hole=_;rw[o];rfl
     have j:aT s.toS.m q=some (.ow d (l'.map (ap u'))):=by
      unfold aT;rw[f,b];dsimp only;rw[i,ajD,hc];rfl
     refine⟨?_,?_,?_⟩
     ·simp only[At.toV,A1.toV,Tt.toT,jf];rw[j];dsimp only;rw[if_pos (by grind [ajF])]
      congr 2
      rw[<- a];refine bE.S_ext (ni _ _ _).symm ?_;show _=toM (b9 (thr q) s.nx (dj s.m q.root s.nx _))
      rw[eB,fA]
      congr 1
      unfold bk;rw[f,b];dsimp only;show cv (toM s.m) q.root _=_
      grind [Rt.toR,holed,ajZ,Tt.toT]
     ·grind [D8,yS]
     rw[<- a];exact⟨aj2 _,gH (ajB _),(dq _ _ (ajB _) s.m).trans (dM (ajB _))⟩
    ·rename_i st z b o;simp only[ai8]at a;have g:atT s.m q 1=some [.ow d u' l']:=by
      grind [sliceAt]
     have f:af s.toS.m q.root=some r.toR:=bi hr
     have i:r.toR.cells=r.cells.map Tt.toT:=by show holed _ r.hole=_;rw[o];rfl
     have hq:=hop q rfl
     unfold okP at hq;rw[b]at hq;obtain⟨r2,p,l2,g1,g2,g3⟩:=hq;have n:r2=r.toR:=Option.some.inj (g1.symm.trans f)
     subst n;unfold atT at g;rw[hr]at g;dsimp only at g;rw[b]at g;dsimp only at g;split at g
     ·rename_i w u0 A _ hc;rw[i,ajD,hc]at g2;simp only[Option.map_some,ai8,Tt.toT,T.ow.injEq]at g2;obtain⟨rfl,rfl⟩:=g2;have x:=Ad g3 g
      have j:aT s.toS.m q=some (.ow d (l'.map (ap u'))):=by
       grind [aT,Tt.toT]
      refine⟨?_,?_,?_⟩
      ·simp only[At.toV,A1.toV,Tt.toT,jf];rw[j];dsimp only;rw[if_pos (by grind [ajF])]
       congr 2
       rw[<- a];refine bE.S_ext (ni _ _ _).symm ?_;show _=toM (b9 (thr q) s.nx (dj s.m q.root s.nx _))
       rw[eB,fA]
       congr 1
       unfold bk;rw[f];dsimp only;rw[b];dsimp only;rw[i,ajD,hc];show cv (toM s.m) q.root _=_
       grind [Rt.toR,Tt.toT,T.toD,Jh]
      ·grind [D8,yS]
      rw[<- a];exact⟨aj2 _,gH (ajB _),(dq _ _ (ajB _) s.m).trans (dM (ajB _))⟩
     grind
    grind
   grind
  grind
 grind
theorem acC:∀n:Sn,(sd n).fs.all leaf=true:=by intro n;cases n<;>rfl
theorem R0(h:leaf u=true)(x:El u):(ao u x).toD.sure=true:=by
 cases u with
 |st n=>cases h
 |_=>rfl
theorem zI:∀{us:List U}(_:us.all leaf=true)(x:Fl us),∀d∈(ff us x).map C.toD,d.sure=true
 |[],_,_,d,hd=>by grind [ff]
 |u::r,h,x,d,hd=>by
  simp only[ajJ,ai9]at h;simp only[ff,List.map_cons,ajI]at hd;rcases hd with rfl|hd
  ·exact R0 h.1 _
  exact zI h.2 _ d hd
theorem IM(x:El u):∀d∈ap u x,d.sure=true:=by
 rw[<- bR];cases u with
 |st n=>exact zI (acC n) _
 |_=>intro d hd;rw[kj rfl]at hd;simp only[List.map_cons,List.map_nil,ajQ]at hd;subst hd;rfl
theorem L1{x:Operand}(hx:aF x=true)(hy:aF y=true)(hn:ND (fP s (evA s y)).m)(hop:∀q,evA (fP s (evA s y)) x=.one (.c (.rf q))->okP (toM (fP s (evA s y)).m) q)(h:lL P E s t u0 x y d k):qH P (fP s (evA s y)).toS t u0 x y d (upS k):=by
 unfold lL at h;dsimp only at h;generalize hs1:fP s (evA s y)=s1 at h hn hop;split at h
 ·rename_i e j;split at h
  ·rename_i u z v A;split at h
   ·rename_i hc;simp only[ai9]at hc;obtain⟨⟨⟨i,n⟩,w⟩,p⟩:=hc;have f:=ajF p
    split at h
    ·rename_i ys s2 sub l b a;split at h
     ·rename_i g;obtain⟨⟨h1,h2⟩,h3⟩:=h;obtain⟨k1,k2⟩:=acL f b;obtain⟨b1,b2,_⟩:=mT f hn hop a;unfold qH;dsimp only;rw[aj hy,vT k2,j];dsimp only;refine⟨i,n,by grind [ajF],?_⟩;rw[aj hy,aj hx,k1,b1];dsimp only;refine⟨g,?_,by grind,by grind,_,?_,h3⟩
      ·intro r hr
       grind [lU,IM]
      rw[<- bx b2];have o:(⟨false,[.ow sub u (l++ys)],none⟩:Rt).toR=⟨false,[.ow sub (l.map (ap u)++ys.map (ap u))]⟩:=by
       rw[<- List.map_append];rfl
      rw[<- o];exact aO ((s2.fresh (.gh d)).root (.gh d) ⟨false,[.ow sub u (l++ys)],none⟩) (some d) (.one (.c (.rf ⟨.gh d,0,[]⟩)))
     grind
    grind
   grind
  grind
 grind
theorem Ic{x:Operand}(hx:aF x=true)(hy:aF y=true)(hn:ND s.m)(j:∀q,evA s y=.one (.c (.rf q))->okP (toM s.m) q)
  (i:∀(size:Nat)(s1:St)(sub:List Sh)(l:List (List D))q,ND s1.m->jf s.toS size (evA s y).toV=some (s1.toS,sub,l)->evA s1 x=.one (.c (.rf q))->okP (toM s1.m) q) (h:jd P E s t u0 x y d k):tW P s.toS t u0 x y d (upS k):=by
 unfold jd at h;split at h
 ·rename_i e F;split at h
  ·rename_i u z H G;split at h
   ·rename_i hc;simp only[ai9]at hc;obtain⟨⟨⟨w,A⟩,I⟩,C⟩:=hc;have f:=ajF C
    split at h
    ·rename_i s1 b ys a;split at h
     ·rename_i s2 sub l n;split at h
      ·rename_i g;obtain⟨⟨h1,h2⟩,h3⟩:=h;obtain⟨o,v,_⟩:=mT f hn j a;obtain⟨b1,b2,_⟩:=mT f v (fun q hq=>i _ s1 _ _ q v o hq) n;unfold tW;rw[F];dsimp only;refine⟨w,A,by grind [ajF],?_⟩;rw[aj hy,o];dsimp only;rw[aj hx,b1];dsimp only;have p:b.length=nc u:=by
        unfold kH at a;split at a
        all_goals grind [ajF]
       refine⟨kp g,?_,by grind,by grind,_,?_,h3⟩
       ·intro r hr
        grind [lU,IM]
       rw[<- bx b2];have B:(⟨false,[.ow sub u (l++ys)],none⟩:Rt).toR=⟨false,[.ow sub (l.map (ap u)++ys.map (ap u))]⟩:=by
        rw[<- List.map_append];rfl
       rw[<- B];exact aO ((s2.fresh (.gh d)).root (.gh d) ⟨false,[.ow sub u (l++ys)],none⟩) (some d) (.one (.c (.rf ⟨.gh d,0,[]⟩)))
      grind
     grind
    grind
   grind
  grind
 grind
end
end Go.Am
end
