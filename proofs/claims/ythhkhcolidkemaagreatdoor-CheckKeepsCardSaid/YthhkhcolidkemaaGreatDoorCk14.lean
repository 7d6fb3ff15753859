/-
  Part 14: AmIter · AmE3 · AmE3b · AmE3c · AmE3d · AmE20 · AmAppTwo · AmBuildTwo · AmE3e.
-/
import Derived.Test.YthhkhcolidkemaaGreatDoorCk13
import Derived.Shelf.SlIter.Nil
import Derived.Shelf.SortM.Plain
import Derived.Shelf.SortM.SortNone
import Derived.Shelf.SlMaps.Clone
set_option linter.unusedSimpArgs false
set_option linter.unusedVariables false
set_option linter.unusedSectionVars false
set_option linter.unnecessarySimpa false
open Go.Proofs.Tryz
section
namespace Go.Proofs
open Go.RowKit Go.Maps Go.Sort Go.Shelf
def Tryz.keys210_ren:Go.Shelf.Ren:=⟨fun|7=>210|10=>237|n=>n,fun|23=>221|26=>9|3=>4|28=>261|0=>0|27=>260|33=>40|4=>4|n=>n,fun|n=>n⟩
theorem Tryz.keys210:Go.Proofs.SlLaysZ.n7 prog Tryz.keys210_ren:={
 mixed:=by kernel_rfl
 f7:=⟨f210.name,by decide,func210.trans (congrArg some kQ0)⟩
 f10:=⟨f237.name,by decide,func237.trans (congrArg some kQ0)⟩
 t0:=underlying0
 a0:=isAgg0
 z0:=sizeOf0
 v0:=zeroValue0
 t4:=underlying4
 a4:=isAgg4
 z4:=sizeOf4
 v4:=zeroValue4
 t23:=underlying221
 a23:=isAgg221
 z23:=sizeOf221
 v23:=zeroValue221
 t26:=underlying9
 a26:=isAgg9
 z26:=sizeOf9
 v26:=zeroValue9
 t27:=underlying260
 a27:=isAgg260
 z27:=sizeOf260
 v27:=zeroValue260
 t28:=underlying261
 a28:=isAgg261
 z28:=sizeOf261
 v28:=zeroValue261
 t33:=underlying40
 a33:=isAgg40
 z33:=sizeOf40
 v33:=zeroValue40 }
def Tryz.sorted209_ren:Go.Shelf.Ren:=⟨fun|6=>209|8=>235|9=>236|11=>248|13=>250|12=>249|23=>262|24=>263|14=>253|15=>254|16=>255|17=>256|18=>257|19=>258|20=>259|21=>260|22=>261|25=>266|26=>267|27=>268|28=>269|29=>270|30=>271|31=>273|n=>n,fun|26=>9|28=>261|24=>45|0=>0|3=>3|37=>280|48=>285|50=>137|4=>4|40=>300|39=>299|45=>156|5=>5|9=>9|51=>308|55=>312|57=>314|58=>315|33=>40|n=>n,fun|n=>n⟩
theorem Tryz.sorted209:Go.Proofs.SlLaysZ.n6 prog Tryz.sorted209_ren:={
 mixed:=by kernel_rfl
 f6:=⟨f209.name,by decide,func209.trans (congrArg some kQ0)⟩
 f8:=⟨f235.name,by decide,func235.trans (congrArg some kQ0)⟩
 f11:=⟨f248.name,by decide,func248.trans (congrArg some kQ0)⟩
 t0:=underlying0
 a0:=isAgg0
 z0:=sizeOf0
 v0:=zeroValue0
 t24:=underlying45
 a24:=isAgg45
 z24:=sizeOf45
 v24:=zeroValue45
 t26:=underlying9
 a26:=isAgg9
 z26:=sizeOf9
 v26:=zeroValue9
 t28:=underlying261
 a28:=isAgg261
 z28:=sizeOf261
 v28:=zeroValue261
 i26:=by kernel_rfl }
def Tryz.sort236_ren:Go.Shelf.Ren:=⟨fun|6=>236|8=>250|9=>249|19=>262|20=>263|21=>253|22=>254|23=>255|24=>256|25=>257|26=>258|27=>259|28=>260|29=>261|36=>266|31=>267|32=>268|37=>269|38=>270|39=>271|41=>273|n=>n,fun|27=>45|29=>9|3=>3|32=>280|26=>45|0=>0|44=>285|46=>137|4=>4|36=>300|35=>299|41=>156|5=>5|9=>9|53=>308|57=>312|63=>314|64=>315|n=>n,fun|n=>n⟩
theorem Tryz.sort236:Go.Proofs.SlLaysM.n6 prog Tryz.sort236_ren:={
 mixed:=by kernel_rfl
 f6:=⟨f236.name,by decide,func236.trans (congrArg some kQ0)⟩
 f8:=func250.trans (congrArg some kQ0)
 f9:=⟨f249.name,by decide,func249.trans (congrArg some kQ0)⟩
 f19:=func262.trans (congrArg some kQ0)
 f20:=func263.trans (congrArg some kQ0)
 f21:=⟨f253.name,by decide,func253.trans (congrArg some kQ0)⟩
 f22:=⟨f254.name,by decide,func254.trans (congrArg some kQ0)⟩
 f23:=⟨f255.name,by decide,func255.trans (congrArg some kQ0)⟩
 f24:=⟨f256.name,by decide,func256.trans (congrArg some kQ0)⟩
 f25:=⟨f257.name,by decide,func257.trans (congrArg some kQ0)⟩
 f26:=⟨f258.name,by decide,func258.trans (congrArg some kQ0)⟩
 f27:=⟨f259.name,by decide,func259.trans (congrArg some kQ0)⟩
 f28:=⟨f260.name,by decide,func260.trans (congrArg some kQ0)⟩
 f29:=⟨f261.name,by decide,func261.trans (congrArg some kQ0)⟩
 f31:=func267.trans (congrArg some kQ0)
 f32:=func268.trans (congrArg some kQ0)
 f36:=⟨f266.name,by decide,func266.trans (congrArg some kQ0)⟩
 f37:=⟨f269.name,by decide,func269.trans (congrArg some kQ0)⟩
 f38:=⟨f270.name,by decide,func270.trans (congrArg some kQ0)⟩
 f39:=⟨f271.name,by decide,func271.trans (congrArg some kQ0)⟩
 f41:=⟨f273.name,by decide,func273.trans (congrArg some kQ0)⟩
 t0:=underlying0
 a0:=isAgg0
 z0:=sizeOf0
 v0:=zeroValue0
 t3:=underlying3
 a3:=isAgg3
 z3:=sizeOf3
 v3:=zeroValue3
 t4:=underlying4
 a4:=isAgg4
 z4:=sizeOf4
 v4:=zeroValue4
 t5:=underlying5
 a5:=isAgg5
 z5:=sizeOf5
 v5:=zeroValue5
 t9:=underlying9
 a9:=isAgg9
 z9:=sizeOf9
 v9:=zeroValue9
 t26:=underlying45
 a26:=isAgg45
 z26:=sizeOf45
 v26:=zeroValue45
 t27:=underlying45
 a27:=isAgg45
 z27:=sizeOf45
 v27:=zeroValue45
 t29:=underlying9
 a29:=isAgg9
 z29:=sizeOf9
 v29:=zeroValue9
 t32:=underlying280
 a32:=isAgg280
 z32:=sizeOf280
 v32:=zeroValue280
 t35:=underlying299
 a35:=isAgg299
 z35:=sizeOf299
 v35:=zeroValue299
 t36:=underlying300
 a36:=isAgg300
 z36:=sizeOf300
 v36:=zeroValue300
 t41:=underlying156
 a41:=isAgg156
 z41:=sizeOf156
 v41:=zeroValue156
 t44:=underlying285
 a44:=isAgg285
 z44:=sizeOf285
 v44:=zeroValue285
 t46:=underlying137
 a46:=isAgg137
 z46:=sizeOf137
 v46:=zeroValue137
 t53:=underlying308
 a53:=isAgg308
 z53:=sizeOf308
 v53:=zeroValue308
 t57:=underlying312
 a57:=isAgg312
 z57:=sizeOf312
 v57:=zeroValue312
 t63:=underlying314
 a63:=isAgg314
 z63:=sizeOf314
 v63:=zeroValue314
 t64:=underlying315
 a64:=isAgg315
 z64:=sizeOf315
 v64:=zeroValue315 }
def Tryz.clone106_ren:Go.Shelf.Ren:=⟨fun|5=>106|7=>173|n=>n,fun|23=>118|25=>9|3=>4|4=>4|20=>20|n=>n,fun|n=>n⟩
theorem Tryz.clone106:Go.Proofs.SlLaysW.n5 prog Tryz.clone106_ren:={
 mixed:=by kernel_rfl
 f5:=⟨f106.name,by decide,func106.trans (congrArg some kQ0)⟩
 f7:=func173.trans (congrArg some kQ0)
 t4:=underlying4
 a4:=isAgg4
 z4:=sizeOf4
 v4:=zeroValue4
 t20:=underlying20
 a20:=isAgg20
 z20:=sizeOf20
 v20:=zeroValue20
 t23:=underlying118
 a23:=isAgg118
 z23:=sizeOf118
 v23:=zeroValue118 }
theorem Tryz.sorts209(m:Nat):AnyZ.SortsIn prog Tryz.sorted209_ren Fence.wide m:=
 ⟨fun blk off cap ss W hH hblk hsz=>callsIn_wide.2 (AnyM.slices_Sort_string Tryz.sort236 blk off cap ss W hH hblk hsz),
  fun p cap W=>callsIn_wide.2 (AnyM.slices_Sort_string_none Tryz.sort236 p cap W)⟩
theorem Tryz.maps_Keys_210(mb:Option Nat)(W:World):CallsIn Fence.wide 5 prog 210 #[.map mb] W fun e w'=>e=.returned (.func (.func 237) #[] #[.pointer (some ⟨W.heap.size,0,none⟩)])/\w'=W.alloc (.cells #[.map mb] 221):=
 AnyZ.keys_in Tryz.keys210 Fence.wide 5 trivial rfl mb W
set_option maxHeartbeats 1000000 in
theorem Tryz.slices_Sorted_keys_209_210{H:Type}(b nn:Nat)(D0:DataW H)(R:Value->Option (DataW H×List MemPlace))(w:World)(hown:w.ownsMap prog 9 R b nn D0)(hmax:Maps.size D0<=maxLen)(hbytes:Maps.size D0*16<=140737488355328) :
  CallsIn Fence.wide 5 prog 209 #[.func (.func 237) #[] #[.pointer (some ⟨w.heap.size,0,none⟩)]] (w.alloc (.cells #[.map (some b)] 221)) fun e w'=>∃(v:Value)(ss:List (List UInt8)),e=.returned v/\ss.Perm (strKeys D0) /\
   w'.ownsRow (w.alloc (.cells #[.map (some b)] 221)).heap.size 9 1 v ss.length ((ss.mergeSort (fun x y=>decide (x<=y))).map encStr)/\(v=.slice none 0 0 ↔ ss=[])/\Below (w.alloc (.cells #[.map (some b)] 221)).heap.size (w.alloc (.cells #[.map (some b)] 221)) w':=by
 have hbl:=hown.lt
 have hseq:SeqGives Fence.wide 2 prog 237 #[.pointer (some ⟨w.heap.size,0,none⟩)] encStr (fun ss=>ss.Perm (strKeys D0)) (Maps.size D0) (w.alloc (.cells #[.map (some b)] 221)):=
  AnyZ.keys_gives (ρ:=Tryz.keys210_ren) { Tryz.keys210 with } Fence.wide _ trivial rfl kQ1 w.heap.size b nn D0 _ (by simp) (by simp) (by
   obtain⟨es,clock,hb,Ft,hs,hD⟩:=hown;exact⟨es,clock,(Below.heap_alloc _ _ b hbl).trans hb,Ft,hs,hD⟩)
 exact AnyZ.sorted_in Tryz.sorted209 Fence.wide 5 trivial trivial trivial trivial rfl kQ1 (Tryz.sorts209 _) (enters_of func236 kQ0 rfl) 237 #[.pointer (some ⟨w.heap.size,0,none⟩)] trivial (enters_of func237 kQ0 rfl) _ _ hmax hbytes _ hseq
end Go.Proofs
end

section
namespace Go.Am
theorem O2(c:C):(sct c).toV=sc c.toD:=rfl
theorem yj{n:Int}(h:0<=n/\n < 256):(((UInt8.ofNat n.toNat).toNat:Nat):Int)=n:=by
 have:n.toNat < 256:=by omega
 simp only[UInt8.toNat_ofNat',Nat.reducePow];omega
theorem Wr(x:UInt8):0<=((x.toNat:Nat):Int)/\((x.toNat:Nat):Int) < 256:=by
 have:=x.toNat_lt
 omega
theorem D3{k:IntKind}{n:Int}(h:k=.u8->0<=n/\n < 256):(mkC k n).toD=.int k n:=by
 cases k with
 |u8=>show D.int .u8 _=_;rw[yj (h rfl)]
 |_=>rfl
theorem abN(n:Int):0<=IntKind.u8.wrap n/\IntKind.u8.wrap n < 256:=by
 have:=wf_wrap (k:=.u8) n
 simp only[Lit.wf,acX,decide_eq_true_eq]at this;have h1:IntKind.u8.min=0:=by decide
 have h2:IntKind.u8.max=255:=by decide
 rw[h1,h2]at this;omega
theorem dt{k:IntKind}{n:Int}:(mkC k (k.wrap n)).toD=.int k (k.wrap n):=D3 fun h=>by subst h;exact abN n
theorem gH{c:C}{k:IntKind}{n:Int}(h:j5 c=some (k,n)):c.toD=.int k n/\(k=.u8->0<=n/\n < 256):=by
 unfold j5 at h;split at h
 ·rename_i k' n';cases k'<;>simp only[acV,Prod.mk.injEq,reduceCtorEq]at h<;>(obtain⟨rfl,rfl⟩:=h;exact⟨rfl,fun h=>by cases h⟩)
 ·rename_i x;simp only[acV,Prod.mk.injEq]at h;obtain⟨rfl,rfl⟩:=h;exact⟨rfl,fun _=>Wr x⟩
 ·cases h
theorem Ue{k:Nat}{row:List D}(h:qi k=some row):row=gw.map D.str:=by
 unfold qi at h;split at h
 ·first|(cases h;done)|(simp only[acV]at h;exact h.symm)
 ·cases h
theorem uD{v:Value}(h:okT v=true):(oz v).toT=p7 v:=by
 cases v with
 |int k n=>
  simp only[oz,p7];cases k with
  |u8=>
   simp only[okT,Lit.wf,acX,decide_eq_true_eq]at h;have h1:IntKind.u8.min=0:=by decide
   have h2:IntKind.u8.max=255:=by decide
   rw[h1,h2]at h;have h':0<=n/\n < 256:=by omega
   simp only[h',and_self,if_true,Tt.toT,C.toD,yj h']
  |_=>rfl
 |slice a l c=>cases a with
  |none=>match l,c with
   |0,0=>rfl
   |0,_+1=>rfl
   |_+1,_=>rfl
  |some _=>rfl
 |pointer p=>cases p<;>rfl
 |map p=>cases p<;>rfl
 |_=>rfl
theorem ae{s:St}{x:Operand}(h:aw x=true):ev s.toS x=(evA s x).toV:=by
 cases x with
 |tmp t=>exact b9 t s.t
 |const v=>
  simp only[aw]at h;cases v with
  |agg cs=>
   simp only[ev,evA,cst,Zu,At.toV,A1.toV]
   congr 2
   rw[adD];refine adG fun x hx=>?_
   simp only[okC]at h;exact(uD (Array.all_eq_true_iff_forall_mem.1 h x (by simpa using hx))).symm
  |_=>
   simp only[ev,evA,cst,Zu,At.toV,A1.toV];rw[uD (by simpa[okC]using h)]
 |func f=>rfl
 |global g=>
  simp only[aw]at h;simp only[ev,evA,YG];cases hg:qi g with
  |none=>rw[hg]at h;cases h
  |some row=>
   simp only[At.toV,A1.toV,Tt.toT,Ue hg];rfl
section
variable {k:At->Prop}
abbrev up(k:At->Prop):AV->Prop:=fun v=>∃v',v=v'.toV/\k v'
theorem MR{c:C}{d:D}(h:k (sct c))(e:c.toD=d):up k (sc d):=⟨sct c,by rw[O2,e],h⟩
theorem U3{c x y:At}(h:vQ c x y k):I8 c.toV x.toV y.toV (up k):=by
 unfold vQ at h;split at h
 ·rename_i b;cases b
  ·rw[if_neg (by simp)]at h;exact⟨y,rfl,h⟩
  ·rw[if_pos rfl]at h;exact⟨x,rfl,h⟩
 ·exact h.elim
theorem abH{a b:Int}(ha:0<=a/\a < 256):0<=a.tmod b/\a.tmod b < 256:=by
 refine⟨Int.tmod_nonneg _ ha.1,?_⟩;rcases Int.lt_or_le b 0 with h|h
 ·rw[<- Int.tmod_neg];rcases Int.lt_or_le a (-b)with h'|h'
  ·rw[Int.tmod_eq_of_lt ha.1 h'];exact ha.2
  ·have:=Int.tmod_lt_of_pos a (show 0 < -b by omega);omega
 ·rcases Int.lt_or_le a b with h'|h'
  ·rw[Int.tmod_eq_of_lt ha.1 h'];exact ha.2
  ·rcases Int.lt_or_eq_of_le h with h''|h''
   ·have:=Int.tmod_lt_of_pos a h'';omega
   ·subst h'';rw[Int.tmod_zero];exact ha.2
theorem aa3{a:Int}{m:Nat}(ha:0<=a/\a < 256):0<=a.fdiv (2 ^ m)/\a.fdiv (2 ^ m) < 256:=by
 have hp:(0:Int) < 2 ^ m:=Int.pow_pos (by decide)
 rw[Int.fdiv_eq_ediv_of_nonneg _ kQ1];refine⟨Int.ediv_nonneg ha.1 kQ1,?_⟩;have:=Int.ediv_le_self (2 ^ m) ha.1
 omega
theorem Wk{op:BinOp}{x y:C}{K:C->Prop}(h:Al op x y K):uq op x.toD y.toD (fun d=>∃c:C,c.toD=d/\K c):=by
 unfold Al at h;split at h
 ·rename_i a b;cases op<;>first|exact h.elim|exact⟨_,rfl,h⟩|exact⟨h.1,_,rfl,h.2⟩
 ·split at h
  ·rename_i k a k' b hx hy;obtain⟨ex,rx⟩:=gH hx;obtain⟨ey,ry⟩:=gH hy;rw[ex,ey];split at h
   ·rename_i hk;unfold Mc at h;cases op<;>simp only[ZE,ac4,false_or,true_or]at hk<;>simp only[uq]
    case add=>exact⟨hk,_,dt,h⟩
    case sub=>exact⟨hk,_,dt,h⟩
    case mul=>exact⟨hk,_,dt,h⟩
    case quo=>exact⟨hk,h.1,_,dt,h.2⟩
    case rem=>exact⟨hk,h.1,_,D3 fun e=>abH (rx e),h.2⟩
    case and=>exact⟨hk,_,dt,h⟩
    case or=>exact⟨hk,_,dt,h⟩
    case xor=>exact⟨hk,_,dt,h⟩
    case andNot=>exact⟨hk,_,dt,h⟩
    case shl=>exact⟨h.1,_,dt,h.2⟩
    case shr=>exact⟨h.1,_,D3 fun e=>aa3 (rx e),h.2⟩
    case eql=>exact⟨hk,_,rfl,h⟩
    case neq=>exact⟨hk,_,rfl,h⟩
    case lss=>exact⟨hk,_,rfl,h⟩
    case leq=>exact⟨hk,_,rfl,h⟩
    case gtr=>exact⟨hk,_,rfl,h⟩
    case geq=>exact⟨hk,_,rfl,h⟩
   ·exact h.elim
  ·exact h.elim
theorem K9{op:BinOp}{x y:D}{K K':D->Prop}(hk:∀d,K d->K' d)(h:uq op x y K):uq op x y K':=by
 cases x<;>cases y<;>try exact h.elim
 ·cases op<;>simp only[uq]at h⊢<;>first|exact⟨h.1,h.2.1,hk _ h.2.2⟩|exact⟨h.1,hk _ h.2⟩
 ·cases op<;>simp only[uq]at h⊢<;>first|exact⟨h.1,hk _ h.2⟩|exact hk _ h|exact h.elim
theorem Zw{ck:CK}{x y:C}{b:Bool}(h:eqC ck x y=some b):eqD ck x.toD y.toD=some b:=by
 unfold eqC at h;cases ck with
 |i=>
  dsimp only at h;split at h
  ·rename_i k a k' b' hx hy;rw[(gH hx).1,(gH hy).1];exact h
  ·cases h
 |s=>
  dsimp only at h;split at h
  ·exact h
  ·cases h
 |b=>
  dsimp only at h;split at h
  ·exact h
  ·cases h
theorem DB:∀{l:List (Nat×CK)}{xs ys:List C}{b:Bool},Qp l xs ys=some b->ip l (xs.map C.toD) (ys.map C.toD)=some b
 |[],_,_,_,h=>h
 |(o,ck)::l,xs,ys,b,h=>by
  unfold Qp at h;unfold ip;rw[acZ,acZ];cases hx:xs[o]? with
  |none=>rw[hx]at h;cases h
  |some x=>
   cases hy:ys[o]? with
   |none=>rw[hx,hy]at h;cases h
   |some y=>
    rw[hx,hy]at h;dsimp only[Option.map_some]at h⊢;cases he:eqC ck x y with
    |none=>rw[he]at h;cases h
    |some c=>
     rw[he]at h;rw[Zw he];cases l with
     |nil=>exact h
     |cons z l=>
      dsimp only at h⊢;cases hr:Qp (z::l) xs ys with
      |none=>rw[hr]at h;cases h
      |some r=>rw[hr]at h;rw[DB hr];exact h
theorem S1(t:Tt)(h:TD t.toT≠.any\/True):(TC t).toD=TD t.toT:=by
 cases t<;>rfl
theorem Y8{op:BinOp}{x y:C}{K:C->Prop}(h:Al op x y K):(∃b,y=.s b)\/∃k n,j5 y=some (k,n):=by
 unfold Al at h;split at h
 ·exact .inl ⟨_,rfl⟩
 ·split at h
  ·rename_i h2;exact .inr ⟨_,_,h2⟩
  ·exact h.elim
theorem Wn{P:Program}{op:BinOp}{t:TypeId}{x y:At}(h:Gt P op t x y k):La P op t x.toV y.toV (up k):=by
 unfold Gt at h;split at h
 ·rename_i a b;split at h
  ·rename_i ht;refine⟨ht,?_⟩;cases op<;>first|exact h.elim|exact⟨_,rfl,h⟩
  ·exact h.elim
 ·rename_i q;split at h
  ·rename_i kt et z ht hz;have e:ZJ q.toD=some z:=by
    unfold ZI at hz;split at hz
    ·rename_i ku vu z';rw[<- hz];cases z'<;>rfl
    ·rw[<- hz];rfl
    ·cases hz
   have key:ZK P op t q.toD (up k):=⟨⟨_,_,ht⟩,by
    rw[e];cases op<;>first|exact h.elim|exact⟨_,rfl,h⟩⟩
   cases q<;>exact key
  ·exact h.elim
 ·rename_i a b hne hne2;have h':=Wk h
  have key:uq op a.toD b.toD (fun d=>up k (sc d)):=by
   refine K9 ?_ h';rintro d ⟨c,rfl,hc⟩
   exact⟨sct c,rfl,hc⟩
  rcases Y8 h with⟨b',rfl⟩|⟨κ,n,hb⟩
  ·cases a with
   |mp ku vu l=>exact h.elim
   |_=>exact key
  ·cases b with
   |i k n=>cases a with
    |mp ku vu l=>exact h.elim
    |_=>exact key
   |b x=>cases a with
    |mp ku vu l=>exact h.elim
    |_=>exact key
   |_=>cases hb
 ·rename_i xs ys;split at h
  ·rename_i l hl;have e1:(xs.map Tt.toT).map TD=(xs.map TC).map C.toD:=by
    rw[adD,adD];exact adG fun t _=>(S1 t (.inr trivial)).symm
   have e2:(ys.map Tt.toT).map TD=(ys.map TC).map C.toD:=by
    rw[adD,adD];exact adG fun t _=>(S1 t (.inr trivial)).symm
   simp only[At.toV,A1.toV,La];rw[hl,e1,e2];dsimp only;split at h
   ·rename_i b hb;rw[DB hb];exact⟨_,rfl,h⟩
   ·rename_i b hb;rw[DB hb];exact⟨_,rfl,h⟩
   ·exact h.elim
  ·exact h.elim
 ·exact h.elim
theorem Z3{op:UnOp}{x:At}(h:unT op x k):unK op x.toV (up k):=by
 unfold unT at h;split at h
 ·exact⟨_,rfl,h⟩
 ·rename_i c;split at h
  ·rename_i κ n hc;simp only[At.toV,A1.toV,Tt.toT,(gH hc).1];exact MR h dt
  ·exact h.elim
 ·rename_i c;split at h
  ·rename_i κ n hc;simp only[At.toV,A1.toV,Tt.toT,(gH hc).1];exact MR h dt
  ·exact h.elim
 ·exact h.elim
theorem GV{x:At}{i:Nat}(h:iq x i k):jW x.toV i (up k):=by
 unfold iq at h;split at h
 ·rename_i vs;split at h
  ·rename_i v hv;simp only[At.toV,jW,acZ,hv,Option.map_some];exact⟨.one v,rfl,h⟩
  ·exact h.elim
 ·exact h.elim
theorem Rs{x i:At}(h:o5 x i k):vf x.toV i.toV (up k):=by
 unfold o5 at h;split at h
 ·rename_i l κ n;obtain⟨⟨h1,h2⟩,h3⟩:=h;simp only[At.toV,A1.toV,Tt.toT,C.toD,vf];refine⟨h1,?_⟩;rw[acW h2];dsimp only;refine⟨_,?_,h3⟩;rw[O2];simp only[C.toD];rw[List.getD,acW h2];rfl
 ·exact h.elim
theorem D7{x:At}(h:fD x k):mg x.toV (up k):=by
 unfold fD at h;split at h
 ·exact⟨_,rfl,h⟩
 ·exact⟨_,rfl,h⟩
 ·exact⟨_,rfl,h⟩
 ·exact h.elim
theorem Qs{P:Program}{t:TypeId}{x:At}{i:Nat}(h:oB P t x i k):uF P t x.toV i (up k):=by
 unfold oB at h;split at h
 ·rename_i fs ts hk;simp only[At.toV,A1.toV,uF];rw[hk];dsimp only;cases hf:fs[i]? with
  |none=>rw[hf]at h;exact h.elim
  |some f=>
   obtain⟨off,size,ag⟩:=f;rw[hf]at h
   match ag,h with
   |some false,h=>
    dsimp only at h⊢;rw[acZ];cases ht:ts[off]? with
    |none=>rw[ht]at h;exact h.elim
    |some t'=>rw[ht]at h;exact⟨_,rfl,h⟩
   |some true,h=>
    dsimp only at h⊢;split at h
    ·rename_i hb;refine⟨by rw[acY];exact ac5 hb,.one (.agg ((ts.drop off).take size)),?_,h⟩;simp only[At.toV,A1.toV,ae8,afK]
    ·exact h.elim
   |none,h=>exact h.elim
 ·exact h.elim
theorem T1{P:Program}{su du:TypeId}{x:At}(h:vH P su du x k):sF P su du x.toV (up k):=by
 unfold vH at h;split at h
 ·rename_i κ0 κ h1 h2;split at h
  ·rename_i c;split at h
   ·rename_i κ1 n hc;simp only[At.toV,A1.toV,Tt.toT,(gH hc).1,sF,h1,h2];exact MR h dt
   ·exact h.elim
  ·exact h.elim
 ·rename_i e h1 h2;split at h
  ·rename_i h3;split at h
   ·rename_i l;simp only[At.toV,A1.toV,Tt.toT,C.toD,sF,h1,h2];refine⟨h3,?_⟩;have:∀l:List UInt8,oA (l.map (al .b8))=some l:=by
     intro l;induction l with
     |nil=>rfl
     |cons a l ih=>
      simp only[List.map_cons,al,oA];have ih':oA (l.map (al .b8))=some l:=ih
      simp only[al]at ih'
      first
       |rw[ih']
       |(show(oA (l.map (al .b8))).map _=_;rw[ih])
      simp
    rw[this l];exact⟨_,rfl,h⟩
   ·simp only[At.toV,A1.toV,Tt.toT,sF,h1,h2];exact⟨h3,_,rfl,h⟩
   ·exact h.elim
  ·exact h.elim
 ·exact h.elim
end
theorem Jw(t:Tt):t.toT.sure=t.sure:=by
 cases t with
 |d c=>cases c<;>rfl
 |_=>rfl
def RH(t:Tt)(t':T):Prop:=t'=t.toT\/∃sh u l,∃l':List (List D),t=.ow sh u l/\t'=.ow sh l'/\l'.length=l.length
structure HL (ts:List Tt) (ts':List T):Prop where
 len:ts'.length=ts.length
 nth:∀(i:Nat)(t:Tt)(t':T),ts[i]? = some t->ts'[i]? = some t'->RH t t'
theorem ue(ts:List Tt):HL ts (ts.map Tt.toT):=by
 refine⟨by simp,fun i t t' h h'=>?_⟩;rw[acZ,h]at h';exact .inl (Option.some.inj h').symm
theorem HL.drop{ts:List Tt}{ts':List T}(h:HL ts ts')(n:Nat):HL (ts.drop n) (ts'.drop n):=
 ⟨by simp[h.len],fun i t t' h1 h2=>by rw[adS]at h1 h2;exact h.nth _ t t' h1 h2⟩
theorem HL.take{ts:List Tt}{ts':List T}(h:HL ts ts')(n:Nat):HL (ts.take n) (ts'.take n):=
 ⟨by simp[h.len],fun i t t' h1 h2=>by
  rw[List.getElem?_take]at h1 h2;split at h1
  ·rename_i hi;rw[if_pos hi]at h2;exact h.nth _ t t' h1 h2
  ·cases h1⟩
theorem kZ:∀(q:List Step)(sub:List Sh)(l:List (List D))(x:D),(bD sub l x q).length=l.length
 |[],_,_,_=>rfl
 |[st],_,_,_=>by simp[bD]
 |st::st'::r,sub,l,x=>by
  simp only[bD];split
  ·simp
  ·rfl
theorem xG(cells:List Tt)(hole:Option (Nat×Step×List Step)):HL cells (holed (cells.map Tt.toT) hole):=by
 cases hole with
 |none=>exact ue cells
 |some h=>
  obtain⟨off,st,q⟩:=h;simp only[holed];split
  ·rename_i sub l hc;refine⟨by simp,fun i t t' h1 h2=>?_⟩;by_cases hi:off=i
   ·subst hi;rw[acZ,h1]at hc;have hc':=Option.some.inj hc
    have hlt:off < (cells.map Tt.toT).length:=by
     have:=(adV.1 h1).1
     simpa using this
    rw[adL hlt]at h2;have h2':=Option.some.inj h2
    cases t with
    |ow sh u l0=>
     simp only[Tt.toT,T.ow.injEq]at hc';obtain⟨rfl,rfl⟩:=hc';exact .inr ⟨_,_,_,_,rfl,h2'.symm,by rw[kZ];simp⟩
    |_=>simp[Tt.toT]at hc'
   ·rw[adH hi]at h2;exact(ue cells).nth i t t' h1 h2
  ·exact ue cells
theorem SK{t:Tt}{t':T}(h:RH t t')(q:Pl):AT q t'=(Jc q t).toT:=by
 rcases h with rfl|⟨sh,u,l,l',rfl,rfl,_⟩
 ·cases t<;>rfl
 ·rfl
theorem V3{ts:List Tt}{ts':List T}(h:HL ts ts')(p:Pl):s9 p ts'=(zF p ts).map Tt.toT:=by
 refine aeJ fun i=>?_
 simp only[s9,zF,acZ,List.getElem?_zipIdx,aeA,Option.map_map];cases h1:ts[i]? with
 |none=>
  have:ts'[i]? = none:=by rw[List.getElem?_eq_none_iff]at h1⊢;rw[h.len];exact h1
  rw[this];rfl
 |some t=>
  have hlt:i<ts'.length:=by rw[h.len];exact(adV.1 h1).1
  rw[acW hlt];simp only[Option.map_some,Function.comp,acV];exact SK (h.nth i t _ h1 (acW hlt)) _
theorem iv{u:U}(l:List (El u)){i:Nat}(h:i<l.length):(l.map (al u)).getD i []=al u (l.getD i (dflt u)):=by
 rw[List.getD,List.getD,acZ,acW h];rfl
theorem jh{u:U}(l:List (El u)){i:Nat}(h:i<l.length):(l.map (al u))[i]? = some (al u (l.getD i (dflt u))):=by
 rw[List.getD,acZ,acW h];rfl
def UL(s:Sh)(c:C):Tt:=match s,c with
 |Sh.fr,x=>Tt.d x
 |Sh.ow s,C.li u' l'=>Tt.ow s u' l'
 |_,_=>Tt.any
theorem UM(s:Sh)(c:C):mkT s c.toD=(UL s c).toT:=by
 cases s with
 |fr=>rfl
 |ow s=>cases c<;>rfl
theorem wO:∀(s:List Sh)(c:List C),List.zipWith mkT s (c.map C.toD)=(List.zipWith UL s c).map Tt.toT
 |[],_=>by simp
 |_::_,[]=>by simp
 |s::ss,c::cs=>by simp only[List.map_cons,List.zipWith_cons_cons,UM,wO ss cs]
theorem Lz:∀{path:List Step}{sub:List Sh}{u:U}{l:List (El u)}{n:Nat}{ts:List Tt}{K:List T->Prop},okO sub (l.map (al u)) path->inT sub u l n path=some ts->K (ts.map Tt.toT)->inK sub (l.map (al u)) n path K
 |[],_,_,_,_,_,_,h,_,_=>h.elim
 |[st],sub,u,l,n,ts,K,h,ht,hK=>by
  obtain⟨h1,h2,h3⟩:=h;rw[acY]at h1;simp only[inT]at ht;split at ht
  ·rename_i hb;simp only[acV]at ht;refine⟨ac5 hb,?_⟩;rw[jh l h1];dsimp only;rw[<- bm,<- afK,<- ae8,wO];subst ht;exact hK
  ·cases ht
 |st::st'::r,sub,u,l,n,ts,K,h,ht,hK=>by
  obtain⟨⟨h1,h2,h3⟩,h4⟩:=h;rw[acY]at h1;simp only[inT]at ht;split at ht
  ·rename_i s u' l' e1 e2;simp only[inK];rw[jh l h1];dsimp only;have e3:(al u (l.getD st.idx (dflt u)))[st.off]? = some (.li (l'.map (al u'))):=by
    rw[<- bm,acZ,e2];rfl
   rw[e1,e3];dsimp only;rw[e1,iv l h1,List.getD,e3]at h4;exact Lz h4 ht hK
  ·cases ht
def okP(m:Mm)(p:Pl):Prop:=match p.path with
 |[]=>True
 |st::q=>∃r sub l,aa m p.root=some r/\r.cells[p.off]? = some (.ow sub l)/\okO sub l (st::q)
theorem Mg{m:Mm}{p:Pl}(h:bz m p):okP m p:=by
 unfold okP;split
 ·trivial
 ·rename_i st q hp;unfold bz at h;split at h
  ·exact h.elim
  ·rename_i r hr;rw[hp]at h;dsimp only at h;split at h
   ·rename_i sub l hc;exact⟨r,sub,l,hr,hc,h⟩
   ·exact h.elim
theorem oK{m:Mm}{p:Pl}(h:fI m p):okP m p:=by
 unfold okP;split
 ·trivial
 ·rename_i st q hp;unfold fI at h;split at h
  ·exact h.elim
  ·rename_i r hr;rw[hp]at h;split at h
   ·simp_all
   ·simp_all
   ·simp_all
   ·rename_i sub l st' q' hc he;simp only[List.cons.injEq]at he;obtain⟨rfl,rfl⟩:=he;exact⟨r,sub,l,hr,hc,h.1⟩
   ·exact h.elim
theorem aP{m:List (Nm×Nat×Rt)}{n:Nm}{r:Rt}(h:be m n=some r):aa (toM m) n=some r.toR:=by rw[sI,h];rfl
theorem O6{ss:List Sh}{xs:List D}{i:Nat}{t:T}(h:(List.zipWith mkT ss xs)[i]? = some t):∃s x,ss[i]? = some s/\xs[i]? = some x/\t=mkT s x:=by
 rw[List.getElem?_zipWith]at h;cases h1:ss[i]? with
 |none=>rw[h1]at h;simp at h
 |some s=>cases h2:xs[i]? with
  |none=>rw[h1,h2]at h;simp at h
  |some x=>rw[h1,h2]at h;exact⟨s,x,rfl,rfl,(Option.some.inj h).symm⟩
theorem Ui:∀{path hp:List Step}{sub:List Sh}{u:U}{l:List (El u)}{n:Nat}{ts:List Tt}{K:List T->Prop},path.length<hp.length->okO sub (bD sub (l.map (al u)) .any hp) path->inT sub u l n path=some ts->(∀ts',HL ts ts'->K ts')->inK sub (bD sub (l.map (al u)) .any hp) n path K
 |[],_,_,_,_,_,_,_,_,h,_,_=>h.elim
 |_::_,[],_,_,_,_,_,_,hlt,_,_,_=>by simp at hlt
 |[_],[_],_,_,_,_,_,_,hlt,_,_,_=>by simp at hlt
 |_::_::_,[_],_,_,_,_,_,_,hlt,_,_,_=>by simp at hlt
 |[st],h::h'::hr,sub,u,l,n,ts,K,hlt,hok,ht,hK=>by
  have hlen:(bD sub (l.map (al u)) .any (h::h'::hr)).length=l.length:=by rw[kZ,acY]
  have hok1:=hok.1
  rw[hlen]at hok1;simp only[inT]at ht;split at ht
  ·rename_i hb;simp only[acV]at ht;refine⟨ac5 hb,?_⟩;have base:((l.map (al u))[st.idx]?)=some (al u (l.getD st.idx (dflt u))):=jh l hok1
   have key:∀x,(bD sub (l.map (al u)) .any (h::h'::hr))[st.idx]? = some x->(x=al u (l.getD st.idx (dflt u))\/∃s l1,sub[h.off]? = some (.ow s)/\(al u (l.getD st.idx (dflt u)))[h.off]? = some (.li l1)/\x=(al u (l.getD st.idx (dflt u))).set h.off (.li (bD s l1 .any (h'::hr)))):=by
    intro x hx;simp only[bD]at hx;split at hx
    ·rename_i s l1 e1 e2;rw[aeB]at hx;split at hx
     ·rename_i ei;split at hx
      ·have hx':=Option.some.inj hx
       rw[ei,iv l hok1]at e2 hx';refine .inr ⟨s,l1,e1,?_,hx'.symm⟩;rw[List.getD]at e2;cases h3:(al u (l.getD st.idx (dflt u)))[h.off]? with
       |none=>rw[h3]at e2;cases e2
       |some d=>rw[h3]at e2;simp only[adW]at e2;rw[e2]
      ·cases hx
     ·rw[base]at hx;exact .inl (Option.some.inj hx).symm
    ·rw[base]at hx;exact .inl (Option.some.inj hx).symm
   have hlt2:st.idx < (bD sub (l.map (al u)) .any (h::h'::hr)).length:=by rw[hlen];exact hok1
   rw[acW hlt2];dsimp only;rcases key _ (acW hlt2)with e|⟨s,l1,e1,e2,e⟩
   ·rw[e,<- bm,<- afK,<- ae8,wO];subst ht;exact hK _ (ue _)
   ·rw[e];refine hK _ ?_;subst ht;have hbase:List.zipWith mkT ((sub.drop st.off).take n) (((al u (l.getD st.idx (dflt u))).drop st.off).take n)=(List.zipWith UL ((sub.drop st.off).take n) (((flat u (l.getD st.idx (dflt u))).drop st.off).take n)).map Tt.toT:=by
     rw[<- bm,<- afK,<- ae8,wO]
    refine⟨?_,fun i t t' a1 a2=>?_⟩
    ·have hl:=congrArg List.length hbase
     simp only[acY]at hl;have hx:∀ys:List D,(List.zipWith mkT ((sub.drop st.off).take n) ((ys.drop st.off).take n)).length=min (min n (sub.length-st.off)) (min n (ys.length-st.off)):=by
      intro ys;simp
     refine Eq.trans ?_ hl;rw[hx,hx,List.length_set]
    ·obtain⟨s0,x0,b1,b2,b3⟩:=O6 a2;have a1':((List.zipWith UL ((sub.drop st.off).take n) (((flat u (l.getD st.idx (dflt u))).drop st.off).take n)).map Tt.toT)[i]? = some t.toT:=by
      rw[acZ];have:(List.zipWith UL ((sub.drop st.off).take n) (((flat u (l.getD st.idx (dflt u))).drop st.off).take n))[i]? = some t:=a1
      rw[this];rfl
     rw[<- hbase]at a1';obtain⟨s1,x1,c1,c2,c3⟩:=O6 a1';rw[b1]at c1;obtain rfl:=Option.some.inj c1;rw[List.getElem?_take]at b1 b2 c2;split at b2
     ·rename_i hin;rw[if_pos hin]at b1 c2;rw[adS]at b1 b2 c2;rw[aeB]at b2;split at b2
      ·rename_i eo;rw[<- eo]at b1 c2;rw[e1]at b1;obtain rfl:=Option.some.inj b1;rw[e2]at c2;obtain rfl:=Option.some.inj c2;split at b2
       ·obtain rfl:=Option.some.inj b2;rw[b3];cases t with
        |ow sh2 u2 l2=>
         simp only[mkT,Tt.toT,T.ow.injEq]at c3;obtain⟨rfl,e5⟩:=c3;refine .inr ⟨_,_,_,_,rfl,rfl,?_⟩;rw[kZ,<- e5,acY]
        |_=>simp[mkT,Tt.toT]at c3
       ·cases b2
      ·rw[b2]at c2;obtain rfl:=Option.some.inj c2;rw[b3,<- c3];exact .inl rfl
     ·cases b2
  ·cases ht
 |st::st'::r,h::h'::hr,sub,u,l,n,ts,K,hlt,hok,ht,hK=>by
  have hlen:(bD sub (l.map (al u)) .any (h::h'::hr)).length=l.length:=by rw[kZ,acY]
  obtain⟨⟨hi,hz,ho⟩,hok2⟩:=hok;rw[hlen]at hi;simp only[inT]at ht;split at ht
  ·rename_i s u' l' e1 e2;have base:((l.map (al u))[st.idx]?)=some (al u (l.getD st.idx (dflt u))):=jh l hi
   have e3:(al u (l.getD st.idx (dflt u)))[st.off]? = some (.li (l'.map (al u'))):=by
    rw[<- bm,acZ,e2];rfl
   have key:∃x,(bD sub (l.map (al u)) .any (h::h'::hr))[st.idx]? = some x/\(x[st.off]? = some (.li (l'.map (al u')))\/x[st.off]? = some (.li (bD s (l'.map (al u')) .any (h'::hr)))):=by
    simp only[bD];split
    ·rename_i s1 l1 f1 f2;rw[aeB];split
     ·rename_i ei;rw[if_pos (by rw[acY,ei];exact hi)];refine⟨_,rfl,?_⟩;rw[ei,iv l hi]at f2⊢;rw[aeB];split
      ·rename_i eo;rw[eo]at f1 f2;rw[e1]at f1;simp only[acV,Sh.ow.injEq]at f1;subst f1;rw[List.getD,e3,adW]at f2;simp only[D.li.injEq]at f2;subst f2;rw[if_pos (by rw[eo];exact ah e3)];exact .inr rfl
      ·exact .inl e3
     ·exact⟨_,base,.inl e3⟩
    ·exact⟨_,base,.inl e3⟩
   obtain⟨x,hx,hx2⟩:=key;have hg:(bD sub (l.map (al u)) .any (h::h'::hr)).getD st.idx []=x:=by rw[List.getD,hx];rfl
   rw[e1,hg]at hok2;simp only[inK];rw[hx];dsimp only;rw[e1];rcases hx2 with hx2|hx2
   ·rw[List.getD,hx2]at hok2;rw[hx2];dsimp only at hok2⊢;exact Lz hok2 ht (hK _ (ue _))
   ·rw[List.getD,hx2]at hok2;rw[hx2];dsimp only at hok2⊢;exact Ui (by simpa using hlt) hok2 ht hK
  ·cases ht
theorem K7{m:List (Nm×Nat×Rt)}{p:Pl}{n:Nat}{ts:List Tt}{K:List T->Prop}(hp:okP (toM m) p)(h:atT m p n=some ts)(hK:∀ts',HL ts ts'->K ts'):atK (toM m) p n K:=by
 unfold atT at h;split at h
 ·cases h
 ·rename_i r hr;unfold atK;rw[aP hr];dsimp only;unfold okP at hp;split at h
  ·rename_i hpath;rw[hpath];split at h
   ·rename_i hb;simp only[acV]at h;have hH:=xG r.cells r.hole
    refine⟨?_,hK _ ?_⟩
    ·show p.off+n<=(holed (r.cells.map Tt.toT) r.hole).length
     rw[hH.len];exact ac5 hb
    ·subst h;exact(hH.drop _).take _
   ·cases h
  ·rename_i st q hpath;rw[hpath]at hp⊢;split at h
   ·rename_i sub u l hhole hc;obtain⟨r',sub',l',e1,e2,e3⟩:=hp;rw[aP hr]at e1;obtain rfl:=Option.some.inj e1;have plain:r.toR.cells[p.off]? = some (.ow sub (l.map (al u)))->(match st::q,r.toR.cells[p.off]? with
      |[],_=>p.off+n<=r.toR.cells.length/\K ((r.toR.cells.drop p.off).take n)
      |st::q,some (.ow sub l)=>inK sub l n (st::q) K
      |_,_=>False):=by
     intro ec;rw[ec]at e2⊢;have e2':=Option.some.inj e2
     simp only[T.ow.injEq]at e2';obtain⟨rfl,rfl⟩:=e2';exact Lz e3 h (hK _ (ue ts))
    cases hho:r.hole with
    |none=>
     refine plain ?_;show(holed (r.cells.map Tt.toT) r.hole)[p.off]? = _
     rw[hho];show(r.cells.map Tt.toT)[p.off]? = _
     rw[acZ,hc];rfl
    |some hh=>
     obtain⟨off,st',q'⟩:=hh;rw[hho]at hhole;have hlt:(st::q).length < (st'::q').length:=ac5 hhole
     by_cases hoff:off=p.off
     ·subst hoff;have hlt2:p.off < (r.cells.map Tt.toT).length:=by rw[acY];exact(adV.1 hc).1
      have ec:r.toR.cells[p.off]? = some (.ow sub (bD sub (l.map (al u)) .any (st'::q'))):=by
       show(holed (r.cells.map Tt.toT) r.hole)[p.off]? = _
       rw[hho];simp only[holed];rw[acZ,hc];simp only[Option.map_some,Tt.toT];rw[adL hlt2]
      rw[ec]at e2⊢;have e2':=Option.some.inj e2
      simp only[T.ow.injEq]at e2';obtain⟨rfl,rfl⟩:=e2';exact Ui hlt e3 h hK
     ·refine plain ?_;show(holed (r.cells.map Tt.toT) r.hole)[p.off]? = _
      rw[hho];simp only[holed];split
      ·rw[adH hoff,acZ,hc];rfl
      ·rw[acZ,hc];rfl
   ·cases h
theorem zT{m:List (Nm×Nat×Rt)}{p:Pl}{sh:List Sh}{u:U}{l:List (El u)}{K:List T->Prop}(hp:okP (toM m) p)(h:sliceAt m p=some ⟨sh,u,l⟩)(hK:∀l':List (List D),l'.length=l.length->K [.ow sh l']):atK (toM m) p 1 K:=by
 unfold sliceAt at h;split at h
 ·rename_i sh' u' l' ht;cases h;refine K7 hp ht (fun ts' hH=>?_);have hl:=hH.len
  match ts',hl with
  |[t'],_=>
   rcases hH.nth 0 _ _ rfl rfl with e|⟨sh2,u2,l2,l3,e1,e2,e3⟩
   ·rw[e];exact hK _ (by simp)
   ·simp only[Tt.ow.injEq]at e1;obtain⟨rfl,rfl,e5⟩:=e1;have e5':=eq_of_heq e5
    subst e5';rw[e2];exact hK _ e3
 ·cases h
section
variable {k:At->Prop} {m:List (Nm×Nat×Rt)}
theorem DH{gd:Option (Nat×Bool)}{n:Nat}{q:Prop}(h:gift gd n q):n<=4611686018427387904->q:=by
 cases gd with
 |none=>exact h
 |some _=>exact fun _=>h
theorem Xp{gd:Option (Nat×Bool)}{x:At}{k:Nat->Prop}(hp:∀p,x=.one (.c (.rf p))->okP (toM m) p)(h:IH gd m x k):IG (toM m) x.toV k:=by
 unfold IH at h;split at h
 ·exact DH h
 ·simp only[At.toV,A1.toV,Tt.toT,C.toD,IG,acY];exact DH h
 ·exact h
 ·rename_i p;split at h
  ·rename_i sh u l hs;simp only[At.toV,A1.toV,Tt.toT,IG];refine zT (hp p rfl) hs (fun l' hl=>?_);dsimp only;rw[hl];exact DH h
  ·exact h.elim
 ·exact h.elim
theorem jt{x:Option At}{d:Nat}{k:Nat->Prop}(h:ew x d k):fP (x.map At.toV) d k:=by
 unfold ew at h;split at h
 ·exact h
 ·exact h
 ·exact h.elim
theorem Rl{P:Program}{t:TypeId}{x:At}{lo hi:Option At}(h:oY P t x lo hi k):lH P t x.toV (lo.map At.toV) (hi.map At.toV) (up k):=by
 have bmono:∀{y:Option At}{d:Nat}{k1 k2:Nat->Prop},(∀n,k1 n->k2 n)->ew y d k1->ew y d k2:=by
  intro y d k1 k2 hk hb;unfold ew at hb⊢;split at hb
  ·exact hk _ hb
  ·exact⟨hb.1,hk _ hb.2⟩
  ·exact hb.elim
 unfold oY at h;split at h
 ·rename_i l;split at h
  ·rename_i ht;refine⟨ht,jt (bmono (fun a ha=>jt (bmono (fun b hb=>?_) ha)) h)⟩;exact⟨hb.1,_,rfl,hb.2⟩
  ·exact h.elim
 ·rename_i u l;split at h
  ·rename_i e ht;split at h
   ·rename_i hc;simp only[acX]at hc;simp only[At.toV,A1.toV,Tt.toT,C.toD,lH,ht];refine⟨hc.1,fun y hy=>?_,jt (bmono (fun a ha=>?_) h)⟩
    ·obtain⟨z,_,rfl⟩:=adR.1 hy;rw[il];exact ac7 hc.2
    ·rw[acY];refine jt (bmono (fun b hb=>?_) ha);exact⟨hb.1,_,by simp only[At.toV,A1.toV,Tt.toT,C.toD,ae8,afK],hb.2⟩
   ·exact h.elim
  ·exact h.elim
 ·split at h
  ·rename_i e ht;split at h
   ·rename_i hc;simp only[At.toV,A1.toV,Tt.toT,lH,ht];refine⟨hc,jt (bmono (fun a ha=>jt (bmono (fun b hb=>?_) ha)) h)⟩;exact⟨hb.1,hb.2.1,_,rfl,hb.2.2⟩
   ·exact h.elim
  ·exact h.elim
 ·exact h.elim
theorem oF{p:Pl}{n:Nat}(h:ix m p n=true):gQ (toM m) p n:=by
 unfold ix at h;split at h
 ·cases h
 ·rename_i r hr;unfold gQ room;rw[aP hr];dsimp only;have hH:=xG r.cells r.hole
  split at h
  ·rename_i hpath;rw[hpath];show n < (holed (r.cells.map Tt.toT) r.hole).length-p.off
   rw[hH.len];exact ac5 h
  ·rename_i st q sub u l hpath hc;rw[hpath];split at h
   ·rename_i k hk;have hlt:=(adV.1 hc).1
    have hlt':p.off < (holed (r.cells.map Tt.toT) r.hole).length:=by rw[hH.len];exact hlt
    have:=hH.nth p.off _ _ hc (acW hlt')
    have e:∃l',r.toR.cells[p.off]? = some (.ow sub l'):=by
     rcases this with e|⟨sh,u2,l2,l3,e1,e2,_⟩
     ·exact⟨_,by show(holed _ _)[p.off]? = _;rw[acW hlt',e];rfl⟩
     ·simp only[Tt.ow.injEq]at e1;obtain⟨rfl,_,_⟩:=e1;exact⟨l3,by show(holed _ _)[p.off]? = _;rw[acW hlt',e2]⟩
    obtain⟨l',e⟩:=e;rw[e];dsimp only;rw[hk];exact ac5 h
   ·cases h
  ·cases h
theorem Av{P:Program}{t:TypeId}{x:At}{i:Nat}(h:dK P m t x i k):fj P (toM m) t x.toV i (up k):=by
 unfold dK at h;split at h
 ·rename_i fs ht;unfold fj;rw[ht];dsimp only;cases hf:fs[i]? with
  |none=>rw[hf]at h;exact h.elim
  |some f=>
   obtain⟨off,size,ag⟩:=f;rw[hf]at h;cases size with
   |zero=>exact h.elim
   |succ size=>
    dsimp only at h⊢;refine⟨by omega,?_⟩;split at h
    ·split at h
     ·rename_i hr;exact⟨oF hr,_,rfl,h⟩
     ·exact h.elim
    ·exact⟨_,rfl,h⟩
    ·exact h.elim
 ·exact h.elim
theorem qj{P:Program}{t:TypeId}{x i:At}(hp:∀p,x=.one (.c (.rf p))->okP (toM m) p)(h:dk P m t x i k):fo P (toM m) t x.toV i.toV (up k):=by
 unfold dk at h;split at h
 ·rename_i κ n;simp only[At.toV,A1.toV,Tt.toT,C.toD,fo];split at h
  ·rename_i e ht;rw[ht];split at h
   ·rename_i u l;split at h
    ·rename_i hc;simp only[acX]at hc;obtain⟨⟨h1,h2⟩,h3⟩:=h;simp only[At.toV,A1.toV,Tt.toT,C.toD];refine⟨hc.1,h1,?_⟩;rw[jh l h2];dsimp only;refine⟨by rw[il];exact ac7 hc.2,_,?_,h3⟩;simp only[At.toV,A1.toV,Tt.toT,bm]
    ·exact h.elim
   ·rename_i p;split at h
    ·rename_i hc;simp only[acX]at hc;split at h
     ·rename_i sh u l hs;split at h
      ·rename_i hb;obtain⟨h1,h2⟩:=h;simp only[At.toV,A1.toV,Tt.toT];refine⟨hc.1,by have:=ac5 hc.2;omega,zT (hp p rfl) hs (fun l' hl=>?_)⟩;dsimp only;exact⟨⟨h1.1,by rw[hl];exact h1.2⟩,ac7 hb,_,rfl,h2⟩
      ·exact h.elim
     ·exact h.elim
    ·exact h.elim
   ·exact h.elim
  ·rename_i N e ht;rw[ht];split at h
   ·rename_i u l i;split at h
    ·rename_i hc;simp only[acX]at hc;obtain⟨h1,h2⟩:=h;simp only[At.toV,A1.toV,Tt.toT];refine⟨hc.1.1,h1,_,?_,h2⟩;simp only[At.toV,A1.toV,Tt.toT];rw[ac7 hc.1.2,Nat.mul_one,Nat.add_comm];rfl
    ·exact h.elim
   ·rename_i p;split at h
    ·rename_i hc;simp only[acX]at hc;obtain⟨h1,h2⟩:=h;simp only[At.toV,A1.toV,Tt.toT];exact⟨hc.1,h1,oF hc.2,_,rfl,h2⟩
    ·exact h.elim
   ·exact h.elim
  ·exact h.elim
 ·exact h.elim
theorem yW{P:Program}{t:TypeId}{x:At}(hp:∀p,x=.one (.c (.pl p))->okP (toM m) p)(h:j8 P m t x k):sO P (toM m) t x.toV (up k):=by
 unfold j8 at h;split at h
 ·rename_i hok;refine⟨hok,?_⟩;split at h
  ·rename_i row o;simp only[At.toV,A1.toV,Tt.toT];split at h
   ·rename_i ha;rw[if_pos ha];split at h
    ·rename_i hb;refine⟨by rw[acY];exact ac5 hb,fun _=>⟨_,?_,h⟩⟩;simp only[At.toV,A1.toV,AV.one.injEq,AV1.agg.injEq];rw[adD,<- afK,<- ae8,adD];rfl
    ·exact h.elim
   ·rename_i ha;rw[if_neg (by rw[ha];simp),acZ];split at h
    ·rename_i c hc;rw[hc];exact fun _=>⟨_,rfl,h⟩
    ·exact h.elim
  ·rename_i u l i;simp only[At.toV,A1.toV,Tt.toT];split at h
   ·rename_i ha hl;have e:l[i]? = some (l.getD i (dflt u)):=by rw[List.getD_eq_getElem?_getD,acW h.1];rfl
    rw[if_neg (by rw[ha];simp),acZ,e];exact fun _=>⟨_,rfl,h.2⟩
   ·exact h.elim
  ·rename_i p;simp only[At.toV,A1.toV,Tt.toT];split at h
   ·rename_i ha;rw[if_pos ha];split at h
    ·rename_i ts hts;refine K7 (hp p rfl) hts (fun ts' hH=>fun _=>⟨_,?_,h⟩);simp only[At.toV,A1.toV,V3 hH]
    ·exact h.elim
   ·rename_i ha;rw[if_neg (by rw[ha];simp)];split at h
    ·rename_i t' hts;refine K7 (hp p rfl) hts (fun ts' hH=>?_);have hl:=hH.len
     match ts',hl with
     |[t''],_=>
      dsimp only;refine fun _=>⟨_,?_,h⟩
      simp only[At.toV,A1.toV];rw[SK (hH.nth 0 _ _ rfl rfl)]
    ·exact h.elim
  ·exact h.elim
 ·exact h.elim
theorem qV(x:At):dy x.toV=(kP x).map (·.map Tt.toT):=by
 cases x with
 |one x=>cases x<;>rfl
 |_=>rfl
theorem Q5{α β:Type}(f:α->β)(ts cs:List α)(off:Nat):(overw ts off cs).map f=overw (ts.map f) off (cs.map f):=by
 simp only[overw,aeN,ae8,afK,acY]
theorem pC{pl:Nat->Option (Nat×Nat)}:∀{parts:List (Nat×At)}{ts ts':List Tt},lA pl ts parts=some ts'->iU pl (ts.map Tt.toT) (parts.map fun x=>(x.1,x.2.toV))=some (ts'.map Tt.toT)
 |[],ts,ts',h=>by simp only[lA,acV]at h;subst h;rfl
 |(i,x)::r,ts,ts',h=>by
  simp only[lA]at h;simp only[List.map_cons,iU];cases hpl:pl i with
  |none=>rw[hpl]at h;cases h
  |some q=>
   obtain⟨off,size⟩:=q;cases hc:kP x with
   |none=>rw[hpl,hc]at h;cases h
   |some cs=>
    rw[hpl,hc]at h;dsimp only at h;split at h
    ·rename_i hb;simp only[acX]at hb;rw[qV,hc];dsimp only[Option.map_some];have hs:(cs.map Tt.toT).all T.sure=true:=by
      rw[afM];rw[<- hb.2]
      congr 1
      funext t;exact Jw t
     rw[if_pos ⟨by rw[acY];exact ac7 hb.1.1,by rw[acY,acY];exact ac5 hb.1.2,hs⟩];rw[<- Q5];exact pC h
    ·cases h
theorem uV{s:St}{ps:Array (Nat×Operand)}(h:(ps.toList.all fun x=>aw x.2)=true):kc s.toS ps=(dN s ps).map fun x=>(x.1,x.2.toV):=by
 unfold kc dN;rw[adD];refine adG fun x hx=>?_
 simp only[Function.comp];rw[ae (adC.1 h x hx)]
theorem On{zs:List Value}(h:zs.all okT=true):(zs.map oz).map Tt.toT=zs.map p7:=by
 rw[adD];exact adG fun x hx=>uD (adC.1 h x hx)
theorem Yi{P:Program}{t:TypeId}{zs:List Value}{pl:List (Nat×Nat)}(h:zst P t=some (zs,pl)):zs.all okT=true:=by
 unfold zst at h;split at h
 ·split at h
  ·split at h
   ·rename_i hall;simp only[acV,Prod.mk.injEq]at h;obtain⟨rfl,_⟩:=h;simpa using hall
   ·cases h
  ·cases h
 ·split at h
  ·split at h
   ·rename_i hall;simp only[acV,Prod.mk.injEq]at h;obtain⟨rfl,_⟩:=h;simpa using hall
   ·cases h
  ·cases h
 ·cases h
theorem PU{P:Program}{t:TypeId}{parts:List (Nat×At)}(h:ou P t parts k):qS P t (parts.map fun x=>(x.1,x.2.toV)) (up k):=by
 unfold ou at h;split at h
 ·rename_i zs places hz;split at h
  ·rename_i ts hf;unfold qS;rw[hz];dsimp only;have:=pC hf
   rw[On (Yi hz)]at this;rw[this];exact⟨.one (.agg ts),rfl,h⟩
  ·exact h.elim
 ·exact h.elim
end
theorem da(bad:Bool->Pl->Bool)(t:Tt):(t.kill bad).toT=t.toT.kill bad:=by
 cases t with
 |pl p=>
  show(if bad false p=true then Tt.any else Tt.pl p).toT=if bad false p=true then T.any else T.pl p
  by_cases h:bad false p=true<;>simp[h,Tt.toT]
 |rf p=>
  show(if bad true p=true then Tt.any else Tt.rf p).toT=if bad true p=true then T.any else T.rf p
  by_cases h:bad true p=true<;>simp[h,Tt.toT]
 |_=>rfl
theorem xQ(bad:Bool->Pl->Bool)(ts:List Tt):(ts.map (·.kill bad)).map Tt.toT=(ts.map Tt.toT).map (·.kill bad):=by
 rw[adD,adD];exact adG fun t _=>da bad t
theorem vj(bad:Bool->Pl->Bool)(x:A1):(x.kill bad).toV=x.toV.kill bad:=by
 cases x with
 |c t=>simp only[A1.kill,A1.toV,AV1.kill,da]
 |agg ts=>simp only[A1.kill,A1.toV,AV1.kill,xQ]
theorem E5(bad:Bool->Pl->Bool)(x:At):(x.kill bad).toV=x.toV.kill bad:=by
 cases x with
 |one x=>simp only[At.kill,At.toV,AV.kill,vj]
 |tup xs=>
  simp only[At.kill,At.toV,AV.kill]
  congr 1
  rw[adD,adD];exact adG fun t _=>vj bad t
 |any=>rfl
theorem gr{bad:Bool->Pl->Bool}{t:Tt}(h:t.hit bad=false):t.kill bad=t:=by
 cases t with
 |pl p=>simp only[Tt.hit]at h;simp[Tt.kill,h]
 |rf p=>simp only[Tt.hit]at h;simp[Tt.kill,h]
 |_=>rfl
theorem oe{bad:Bool->Pl->Bool}:∀{ts:List Tt},ts.any (·.hit bad)=false->ts.map (·.kill bad)=ts
 |[],_=>rfl
 |t::ts,h=>by
  simp only[List.any_cons,afI]at h;rw[List.map_cons,gr h.1,oe h.2]
theorem wP{bad:Bool->Pl->Bool}{x:A1}(h:x.hit bad=false):x.kill bad=x:=by
 cases x with
 |c t=>simp only[A1.kill,gr (show t.hit bad=false from h)]
 |agg ts=>simp only[A1.kill,oe (show ts.any _=false from h)]
theorem Kg{bad:Bool->Pl->Bool}{x:At}(h:x.hit bad=false):x.kill bad=x:=by
 cases x with
 |one x=>simp only[At.kill,wP (show x.hit bad=false from h)]
 |tup xs=>
  simp only[At.hit]at h;simp only[At.kill]
  congr 1
  induction xs with
  |nil=>rfl
  |cons x xs ih=>
   simp only[List.any_cons,afI]at h;rw[List.map_cons,wP h.1,ih h.2]
 |any=>rfl
theorem Ly(bad:Bool->Pl->Bool)(cells:List Tt)(hole:Option (Nat×Step×List Step)) :
  holed ((cells.map (·.kill bad)).map Tt.toT) hole=(holed (cells.map Tt.toT) hole).map (·.kill bad):=by
 rw[xQ];cases hole with
 |none=>rfl
 |some h=>
  obtain⟨off,st,q⟩:=h;simp only[holed];rw[acZ (f:=fun t=>T.kill bad t)];cases hc:(cells.map Tt.toT)[off]? with
  |none=>rfl
  |some t=>
   simp only[Option.map_some];cases t with
   |ow sub l=>simp only[T.kill,ad0]
   |pl p=>by_cases h:bad false p=true<;>simp[T.kill,h]
   |rf p=>by_cases h:bad true p=true<;>simp[T.kill,h]
   |_=>rfl
theorem vw(bad:Bool->Pl->Bool)(r:Rt):(r.kill bad).toR={ r.toR with cells:=r.toR.cells.map (·.kill bad) }:=by
 simp only[Rt.toR,Rt.kill,Ly]
theorem jz(bad:Bool->Pl->Bool)(nx:Nat)(t:List (Nat×Nat×At)):(j6 bad nx t).map (fun x=>(x.1,x.2.2.toV))=j7 bad (t.map fun x=>(x.1,x.2.2.toV)):=by
 simp only[j6,j7,adD];exact adG fun x _=>by simp only[Function.comp,E5]
theorem cN(bad:Bool->Pl->Bool)(nx:Nat)(m:List (Nm×Nat×Rt)):toM (bH bad nx m)=ax bad (toM m):=by
 simp only[toM,bH,ax,adD];exact adG fun x _=>by simp only[Function.comp,vw]
theorem Db{bad:Bool->Pl->Bool}{nx:Nat}{m:List (Nm×Nat×Rt)}:ND (bH bad nx m) ↔ ND m:=by
 simp only[ND,bH,adD];exact Iff.rfl
theorem yZ{n k:Nm}:∀{m:List (Nm×Nat×Rt)},k∈(dq m n).map (·.1)->k∈m.map (·.1)/\k≠n
 |[],h=>by simp[dq]at h
 |(k',j,v)::m,h=>by
  simp only[dq]at h;split at h
  ·have:=yZ h;exact⟨adB _ this.1,this.2⟩
  ·rename_i hk;simp only[List.map_cons,ac8]at h;rcases h with rfl|h
   ·exact⟨by simp,hk⟩
   ·have:=yZ h;exact⟨adB _ this.1,this.2⟩
theorem KH{n:Nm}:∀{m:List (Nm×Nat×Rt)},ND m->ND (dq m n)
 |[],_=>by simp[ND,dq]
 |(k,j,v)::m,h=>by
  have h':k ∉ m.map (·.1)/\(m.map (·.1)).Nodup:=by simpa[ND]using h
  simp only[dq];split
  ·exact KH h'.2
  ·have:=KH (n:=n) h'.2
   simp only[ND,List.map_cons,aeD];exact⟨fun hm=>h'.1 (yZ hm).1,this⟩
theorem Cg(n:Nm)(i:Nat)(r:Rt):∀m:List (Nm×Nat×Rt),(cu m n i r).map (·.1)=m.map (·.1)
 |[]=>rfl
 |(k,j,v)::m=>by
  simp only[cu];split
  ·rfl
  ·simp only[List.map_cons,Cg n i r m]
theorem d9{g:G}{s:St}{a:Act}{w:World}{H:FH}{γ:Gam}{F:Nm->Fp}(h:RX g s.toS a w H γ F):ND s.m:=by
 have:=h.mem.keys
 have e:s.toS.m.map (·.1)=s.m.map (·.1):=by simp only[St.toS,adD];rfl
 rw[e]at this;exact this
theorem aY{s:St}{n:Nm}(h:ND s.m):(s.drop n).toS=s.toS.drop n:=by
 have h1:=jz (aM n) s.nx s.t
 have h2:=cN (aM n) s.nx (dq s.m n)
 rw[jV n s.m h]at h2;exact S_ext h1 h2
where
 S_ext {t t':List (Nat×AV)} {m m':Mm} (h1:t=t') (h2:m=m'):(⟨t,m⟩:S)=⟨t',m'⟩:=by rw[h1,h2]
theorem NP{s:St}{n:Nm}(h:ND s.m):ND (s.drop n).m:=Db.2 (KH h)
theorem br{s:St}{n:Nm}(h:ND s.m):(s.fresh n).toS=s.toS.fresh n:=by
 unfold St.fresh S.fresh;have e:aa s.toS.m n=(be s.m n).map Rt.toR:=sI n s.m
 rw[e];cases hm:be s.m n with
 |none=>rfl
 |some r=>exact aY h
def SEq(s s':S):Prop:=(∀i,aH s.t i=aH s'.t i)/\s.m=s'.m
theorem aV{g:G}{s s':S}{a:Act}{w:World}{H:FH}{γ:Gam}{F:Nm->Fp}(e:SEq s s')(h:RX g s a w H γ F):RX g s' a w H γ F:=by
 obtain⟨t,m⟩:=s;obtain⟨t',m'⟩:=s';obtain⟨e1,e2⟩:=e;dsimp only at e1 e2;subst e2;exact⟨h.mem,h.fr,h.nt,h.df,fun i=>by rw[<- e1 i];exact h.t i⟩
theorem By{g:G}{s s':S}{a:Act}{w:World}(e:SEq s s')(h:R g s a w):R g s' a w:=by
 obtain⟨H,γ,F,h⟩:=h;exact⟨H,γ,F,aV e h⟩
theorem aD(s:St)(d:Option Tmp)(v:At):SEq (s.toS.put d v.toV) (s.put d v).toS:=by
 cases d with
 |none=>exact⟨fun _=>rfl,rfl⟩
 |some d=>
  refine⟨fun i=>?_,rfl⟩;show aH (nM _ d v.toV) i=aH ((d,v.toV)::_) i
  rw[gF];rfl
theorem Ck(f:Nat×Nat×At->Nat×At)(k:Nat):∀t:List (Nat×Nat×At),bI (t.map fun x=>(x.1,f x)) k=(bI t k).map fun y=>f (k,y)
 |[]=>rfl
 |(i,j,v)::t=>by
  simp only[List.map_cons,bI];cases hb:Nat.beq i k with
  |true=>have:=ac7 hb;subst this;rfl
  |false=>exact Ck f k t
theorem uM(f:Nm×Nat×Rt->Nat×Rt)(k:Nm):∀t:List (Nm×Nat×Rt),bY (t.map fun x=>(x.1,f x)) k=(bY t k).map fun y=>f (k,y)
 |[]=>rfl
 |(i,j,v)::t=>by
  simp only[List.map_cons,bY];by_cases hb:i=k
  ·subst hb;rw[if_pos rfl,if_pos rfl];rfl
  ·rw[if_neg hb,if_neg hb];exact uM f k t
structure Ext (s0 s:St):Prop where
 nx:s0.nx<=s.nx
 t:∀k j v,bI s.t k=some (j,v)->j<s0.nx->bI s0.t k=some (j,v)
 m:∀n j r,bY s.m n=some (j,r)->j<s0.nx->bY s0.m n=some (j,r)
theorem Ext.refl(s:St):Ext s s:=⟨ac1 _,fun _ _ _ h _=>h,fun _ _ _ h _=>h⟩
theorem Ext.trans{a b c:St}(h1:Ext a b)(h2:Ext b c):Ext a c:=
 ⟨aeF h1.nx h2.nx,fun k j v h hj=>h1.t k j v (h2.t k j v h (Nat.lt_of_lt_of_le hj h1.nx)) hj,fun k j v h hj=>h1.m k j v (h2.m k j v h (Nat.lt_of_lt_of_le hj h1.nx)) hj⟩
abbrev Kr(nx:Nat)(t t':List (Nat×Nat×At)):Prop:=∀k j v,bI t' k=some (j,v)->j<nx->bI t k=some (j,v)
abbrev CP(nx:Nat)(m m':List (Nm×Nat×Rt)):Prop:=∀n j r,bY m' n=some (j,r)->j<nx->bY m n=some (j,r)
theorem CP.trans{nx:Nat}{a b c:List (Nm×Nat×Rt)}(h1:CP nx a b)(h2:CP nx b c):CP nx a c:=fun n j r h hj=>h1 n j r (h2 n j r h hj) hj
theorem Kr.trans{nx:Nat}{a b c:List (Nat×Nat×At)}(h1:Kr nx a b)(h2:Kr nx b c):Kr nx a c:=fun n j r h hj=>h1 n j r (h2 n j r h hj) hj
theorem tO{nx:Nat}{t:List (Nat×Nat×At)}(d i:Nat)(v:At)(hi:nx<=i):Kr nx t ((d,i,v)::t):=by
 intro k j w h hj;simp only[bI]at h;split at h
 ·simp only[acV,Prod.mk.injEq]at h;omega
 ·exact h
theorem jq{nx:Nat}{t:List (Nm×Nat×Rt)}(d:Nm)(i:Nat)(v:Rt)(hi:nx<=i):CP nx t ((d,i,v)::t):=by
 intro k j w h hj;simp only[bY]at h;split at h
 ·simp only[acV,Prod.mk.injEq]at h;omega
 ·exact h
theorem rV{nx i:Nat}{t:List (Nat×Nat×At)}(chg:At->Bool)(f:At->At)(hf:∀v,chg v=false->f v=v)(hi:nx<=i) :
  Kr nx t (t.map fun x=>(x.1,stp (chg x.2.2) i x.2.1,f x.2.2)):=by
 intro k j v h hj;rw[Ck (fun x=>(stp (chg x.2.2) i x.2.1,f x.2.2))]at h;cases hl:bI t k with
 |none=>rw[hl]at h;cases h
 |some y=>
  obtain⟨j',v'⟩:=y;rw[hl]at h;simp only[Option.map_some,acV,Prod.mk.injEq]at h;cases hc:chg v' with
  |true=>rw[hc]at h;simp only[stp]at h;omega
  |false=>rw[hc,hf v' hc]at h;simp only[stp]at h;obtain⟨rfl,rfl⟩:=h;rfl
theorem fq{nx i:Nat}{t:List (Nat×Nat×At)}{bad:Bool->Pl->Bool}(hi:nx<=i):Kr nx t (j6 bad i t):=rV (·.hit bad) (·.kill bad) (fun _ h=>Kg h) hi
theorem cQ{nx i:Nat}{t:List (Nm×Nat×Rt)}{bad:Bool->Pl->Bool}(hi:nx<=i):CP nx t (bH bad i t):=by
 intro k j v h hj;unfold bH at h;rw[uM (fun x=>(stp (x.2.2.cells.any (·.hit bad)) i x.2.1,x.2.2.kill bad))]at h;cases hl:bY t k with
 |none=>rw[hl]at h;cases h
 |some y=>
  obtain⟨j',r⟩:=y;rw[hl]at h;simp only[Option.map_some,acV,Prod.mk.injEq]at h;cases hc:r.cells.any (·.hit bad)with
  |true=>rw[hc]at h;simp only[stp]at h;omega
  |false=>
   rw[hc]at h;have:r.kill bad=r:=by unfold Rt.kill;rw[oe hc]
   rw[this]at h;simp only[stp]at h;obtain⟨rfl,rfl⟩:=h;rfl
theorem ra(n k:Nm):∀m:List (Nm×Nat×Rt),bY (dq m n) k=if k=n then none else bY m k
 |[]=>by simp[dq,bY]
 |(i,j,v)::m=>by
  simp only[dq];by_cases h:i=n
  ·subst h;rw[if_pos rfl,ra i k m];by_cases hk:k=i
   ·rw[if_pos hk,if_pos hk]
   ·rw[if_neg hk,if_neg hk];simp only[bY];rw[if_neg (fun e=>hk e.symm)]
  ·rw[if_neg h];simp only[bY];by_cases hk:i=k
   ·subst hk;rw[if_pos rfl,if_neg h,if_pos rfl]
   ·rw[if_neg hk,if_neg hk,ra n k m]
theorem lO{nx:Nat}{m:List (Nm×Nat×Rt)}(n:Nm):CP nx m (dq m n):=by
 intro k j r h _;rw[ra]at h;split at h
 ·cases h
 ·exact h
theorem cx{nx i:Nat}(n:Nm)(r:Rt)(hi:nx<=i):∀m:List (Nm×Nat×Rt),CP nx m (cu m n i r)
 |[],_,_,_,h,_=>h
 |(a,b,c)::m,k,j,v,h,hj=>by
  simp only[cu]at h;split at h
  ·rename_i ha;simp only[bY]at h⊢;split at h
   ·simp only[acV,Prod.mk.injEq]at h;omega
   ·rename_i hk;rw[if_neg hk];exact h
  ·simp only[bY]at h⊢;split at h
   ·rename_i hk;rw[if_pos hk];exact h
   ·rename_i hk;rw[if_neg hk];exact cx n r hi m k j v h hj
theorem ay(s:St)(d:Option Tmp)(v:At):Ext s (s.put d v):=by
 cases d with
 |none=>exact Ext.refl s
 |some d=>exact⟨ad3 _,tO d s.nx v (ac1 _),fun _ _ _ h _=>h⟩
theorem rW(s:St)(n:Nm):Ext s (s.drop n):=⟨ad3 _,fq (ac1 _),(lO n).trans (cQ (ac1 _))⟩
theorem bx(s:St)(n:Nm):Ext s (s.fresh n):=by
 unfold St.fresh;split
 ·exact Ext.refl s
 ·exact rW s n
theorem cf(s:St)(n:Nm)(r:Rt):Ext s (s.root n r):=⟨ad3 _,fun _ _ _ h _=>h,jq n s.nx r (ac1 _)⟩
theorem KX(q:Pl)(u:U)(l:List (El u))(t:Tt):(t.frz q u l).toT=t.toT.frz q (l.map (al u)):=by
 cases t with
 |pl p=>exact da (thr q) (.pl p)
 |rf p=>
  obtain⟨n,o,path⟩:=p;cases path with
  |nil=>
   show(if n=q.root/\o=q.off then Tt.d (.li u l)else(Tt.rf ⟨n,o,[]⟩).kill (thr q)).toT=if n=q.root/\o=q.off then T.d (.li (l.map (al u)))else(T.rf ⟨n,o,[]⟩).kill (thr q)
   by_cases h:n=q.root/\o=q.off
   ·rw[if_pos h,if_pos h];rfl
   ·rw[if_neg h,if_neg h];exact da (thr q) (.rf ⟨n,o,[]⟩)
  |cons st r=>exact da (thr q) (.rf ⟨n,o,st::r⟩)
 |_=>rfl
theorem KW(n:Nm)(c:C)(t:Tt):(t.frm n c).toT=t.toT.frm n c.toD:=by
 cases t with
 |pl p=>exact da (aM n) (.pl p)
 |rf p=>
  obtain⟨r,o,path⟩:=p;by_cases h:r=n
  ·simp only[Tt.frm,Tt.toT,T.frm,if_pos h];cases o<;>cases path<;>rfl
  ·simp only[Tt.frm,Tt.toT,T.frm,if_neg h]
 |_=>rfl
theorem wQ{f:Tt->Tt}{f':T->T}(h:∀t,(f t).toT=f' t.toT)(x:A1):(x.map f).toV=x.toV.map f':=by
 cases x with
 |c t=>simp only[A1.map,A1.toV,AV1.map,h]
 |agg ts=>
  simp only[A1.map,A1.toV,AV1.map]
  congr 1
  rw[adD,adD];exact adG fun t _=>h t
theorem qy{f:Tt->Tt}{f':T->T}(h:∀t,(f t).toT=f' t.toT)(x:At):(x.map f).toV=x.toV.map f':=by
 cases x with
 |one x=>simp only[At.map,At.toV,AV.map,wQ h]
 |tup xs=>
  simp only[At.map,At.toV,AV.map]
  congr 1
  rw[adD,adD];exact adG fun t _=>wQ h t
 |any=>rfl
theorem Pz{q:Pl}{u:U}{l:List (El u)}{t:Tt}(h:t.hit (MP q)=false):t.frz q u l=t:=by
 cases t with
 |pl p=>
  simp only[Tt.hit,MP,ae5,Bool.or_false]at h;exact gr (t:=.pl p) h
 |rf p=>
  simp only[Tt.hit,MP,ad6,afI]at h;obtain⟨n,o,path⟩:=p;cases path with
  |nil=>
   simp only[Tt.frz];rw[if_neg (by simpa using h.2)];exact gr (t:=.rf ⟨n,o,[]⟩) h.1
  |cons st r=>exact gr (t:=.rf ⟨n,o,st::r⟩) h.1
 |_=>rfl
theorem Py{n:Nm}{c:C}{t:Tt}(h:t.hit (aM n)=false):t.frm n c=t:=by
 cases t with
 |pl p=>exact gr (t:=.pl p) h
 |rf p=>
  simp only[Tt.hit,aM,decide_eq_false_iff_not]at h;simp only[Tt.frm];rw[if_neg h]
 |_=>rfl
theorem tJ{bad:Bool->Pl->Bool}{f:Tt->Tt}(hf:∀{t:Tt},t.hit bad=false->f t=t){x:At}(h:x.hit bad=false):x.map f=x:=by
 have one:∀{y:A1},y.hit bad=false->y.map f=y:=by
  intro y hy;cases y with
  |c t=>simp only[A1.map,hf (show t.hit _=false from hy)]
  |agg ts=>
   simp only[A1.hit]at hy;simp only[A1.map]
   congr 1
   induction ts with
   |nil=>rfl
   |cons t ts ih=>
    simp only[List.any_cons,afI]at hy;rw[List.map_cons,hf hy.1,ih hy.2]
 cases x with
 |one y=>simp only[At.map,one (show y.hit _=false from h)]
 |tup xs=>
  simp only[At.hit]at h;simp only[At.map]
  congr 1
  induction xs with
  |nil=>rfl
  |cons y ys ih=>
   simp only[List.any_cons,afI]at h;rw[List.map_cons,one h.1,ih h.2]
 |any=>rfl
theorem O8{q:Pl}{u:U}{l:List (El u)}{x:At}(h:x.hit (MP q)=false):x.map (Tt.frz q u l)=x:=tJ Pz h
theorem m9(n:Nm):∀m:List (Nm×Nat×Rt),be m n=(bY m n).map (·.2)
 |[]=>rfl
 |(k,j,r)::m=>by
  simp only[be,bY];by_cases h:k=n
  ·rw[if_pos h,if_pos h];rfl
  ·rw[if_neg h,if_neg h];exact m9 n m
theorem tP(s:St)(q:Pl):Ext s (sH s q):=by
 unfold sH;split
 ·split
  ·rename_i u l _ _;refine⟨ad3 _,rV (·.hit (MP q)) (·.map (Tt.frz q u l)) (fun _ h=>O8 h) (ac1 _),?_⟩;have hset:∀(m:List (Nm×Nat×Rt))off t,CP s.nx m (setCell m q.root s.nx off t):=by
    intro m off t;unfold setCell;split
    ·exact cx _ _ (ac1 _) m
    ·exact fun _ _ _ h _=>h
   exact((hset _ _ _).trans (cQ (ac1 _))).trans (hset _ _ _)
  ·split
   ·exact⟨ad3 _,rV (·.hit (aM q.root)) (·.map (Tt.frm q.root _)) (fun _ h=>tJ Py h) (ac1 _),(lO q.root).trans (cQ (ac1 _))⟩
   ·exact Ext.refl s
  ·exact Ext.refl s
 ·exact Ext.refl s
theorem oW{m:List (Nm×Nat×Rt)}{n:Nm}{i off:Nat}{t:Tt}{r:Rt}(hr:be m n=some r)(hh:r.hole=none) :
  toM (setCell m n i off t)=bA (toM m) n ⟨r.blk,(r.toR.cells).set off t.toT⟩:=by
 unfold setCell;rw[hr];dsimp only;rw[dO]
 congr 1
 simp only[Rt.toR,hh,holed,ad0]
theorem DG{m:List (Nm×Nat×Rt)}{n:Nm}{i off:Nat}{t:Tt}{r:Rt}(hr:be m n=some r):be (setCell m n i off t) n=some { r with cells:=r.cells.set off t }:=by
 unfold setCell;rw[hr];dsimp only;induction m with
 |nil=>cases hr
 |cons x m ih=>
  obtain⟨k,j,v⟩:=x;simp only[cu];simp only[be]at hr;by_cases h:k=n
  ·rw[if_pos h];simp only[be];rw[if_pos h]
  ·rw[if_neg h]at hr⊢;simp only[be];rw[if_neg h];exact ih hr
theorem B9(bad:Bool->Pl->Bool)(i:Nat)(n:Nm)(m:List (Nm×Nat×Rt)):be (bH bad i m) n=(be m n).map (·.kill bad):=by
 rw[m9,m9];unfold bH;rw[uM (fun x=>(stp (x.2.2.cells.any (·.hit bad)) i x.2.1,x.2.2.kill bad))];cases bY m n<;>rfl
theorem im{u:U}(h:leaf u=true)(x:El u):(al u x).headD .any=(aj u x).toD:=by cases u<;>first|rfl|cases h
theorem W5(ku vu:U)(l:List (El ku×El vu)):frL (l.map fun x=>((aj ku x.1).toD,Sh.fr,(aj vu x.2).toD))=true:=by
 unfold frL;rw[afM,adC];exact fun _ _=>rfl
theorem ug{g:G}{s:St}{a:Act}{w:World}{H:FH}{γ:Gam}{F:Nm->Fp}(h:RX g s.toS a w H γ F)(q:Pl):∃H' F',RX g (sH s q).toS a w H' γ F':=by
 unfold sH;split
 ·rename_i r hpath hr;split
  ·rename_i sh u l hh hc;obtain⟨H',F',h'⟩:=KJ h q;refine⟨H',F',?_⟩;have ec:r.toR.cells[q.off]? = some (.ow sh (l.map (al u))):=by
    show(holed (r.cells.map Tt.toT) r.hole)[q.off]? = _
    rw[hh];show(r.cells.map Tt.toT)[q.off]? = _
    rw[acZ,hc];rfl
   have eg:aa s.toS.m q.root=some r.toR:=aP hr
   have egp:aS s.toS.m q=some (.ow sh (l.map (al u))):=by
    unfold aS;rw[eg,hpath];exact ec
   have efrz:G9 s.toS q=⟨ri (AV.map (T.frz q (l.map (al u)))) s.toS.t,G8 s.toS.m q (l.map (al u))⟩:=by
    unfold G9;rw[egp,hpath]
   rw[efrz]at h';have key:(⟨s.nx+1,s.t.map fun x=>(x.1,stp (x.2.2.hit (MP q)) s.nx x.2.1,x.2.2.map (Tt.frz q u l)),
     setCell (bH (thr q) s.nx (setCell s.m q.root s.nx q.off .any)) q.root s.nx q.off (.d (.li u l))⟩:St).toS=⟨ri (AV.map (T.frz q (l.map (al u)))) s.toS.t,G8 s.toS.m q (l.map (al u))⟩:=by
    refine aY.S_ext ?_ ?_
    ·simp only[St.toS,ri,adD];exact adG fun x _=>by simp only[Function.comp,qy (KX q u l)]
    ·have g1:=DG (i:=s.nx) (off:=q.off) (t:=.any) hr
     have g2:be (bH (thr q) s.nx (setCell s.m q.root s.nx q.off .any)) q.root=some (({ r with cells:=r.cells.set q.off .any }:Rt).kill (thr q)):=by rw[B9,g1];rfl
     show toM (setCell _ q.root s.nx q.off (.d (.li u l)))=_
     rw[oW g2 hh,cN,oW hr hh];unfold G8;have p1:bg s.toS.m q .any=bA (toM s.m) q.root ⟨r.blk,r.toR.cells.set q.off Tt.any.toT⟩:=by
      unfold bg;rw[eg,hpath];rfl
     rw[p1];have g3:aa (ax (thr q) (bA (toM s.m) q.root ⟨r.blk,r.toR.cells.set q.off Tt.any.toT⟩)) q.root=some ⟨r.blk,(r.toR.cells.set q.off Tt.any.toT).map (·.kill (thr q))⟩:=by
      have:=aP g2
      rw[cN,oW hr hh]at this;rw[this,vw];simp only[Rt.toR,hh,holed,ad0,Tt.toT]
     unfold bg;rw[g3,hpath];dsimp only
     congr 1
     simp only[Rt.toR,Rt.kill,hh,holed,ad0,xQ,aeW,Tt.toT,C.toD]
   rw[key];exact h'
  ·rename_i ku vu l hh hc;split
   ·rename_i x hb hcs hlf;simp only[acX]at hlf;have hoff:q.off=0:=by
     have:=ah hc
     rw[hcs]at this;simpa using this
    have hx:x=.mp ku vu l:=by rw[hcs,hoff]at hc;simpa using hc
    have hr2:aa s.toS.m q.root=some ⟨false,[.mp (l.map fun x=>((aj ku x.1).toD,Sh.fr,(aj vu x.2).toD))]⟩:=by
     have:=aP hr
     unfold Rt.toR at this;rw[hb,hcs,hh,hx]at this;exact this
    obtain⟨H',F',h'⟩:=V7 h hr2 (W5 ku vu l);refine⟨H',F',?_⟩;have e1:mpD (l.map fun x=>((aj ku x.1).toD,Sh.fr,(aj vu x.2).toD))=(C.mp ku vu (some l)).toD:=by
     show D.mp (some ((l.map _).map _))=D.mp (some (l.map _))
     rw[adD]
     congr 2
     refine adG fun x _=>?_
     show((aj ku x.1).toD,(aj vu x.2).toD)=((al ku x.1).headD .any,(al vu x.2).headD .any)
     rw[im hlf.1,im hlf.2]
    rw[e1]at h';have key:(T9 s q.root (.mp ku vu (some l))).toS=frzm s.toS q.root (C.mp ku vu (some l)).toD:=by
     refine aY.S_ext ?_ ?_
     ·simp only[St.toS,T9,ri,adD];exact adG fun x _=>by simp only[Function.comp,qy (KW q.root _)]
     ·have h2:=cN (aM q.root) s.nx (dq s.m q.root)
      rw[jV q.root s.m (d9 h)]at h2;exact h2
    rw[key];exact h'
   ·exact⟨H,F,h⟩
  ·exact⟨H,F,h⟩
 ·exact⟨H,F,h⟩
section
variable {g:G} {a:Act} {w:World} {γ:Gam}
theorem Bx{s:St}{H:FH}{F:Nm->Fp}(h:RX g s.toS a w H γ F)(t:Tt):∃H' F',RX g (Ow s t).toS a w H' γ F':=by
 cases t with
 |rf p=>exact ug h p
 |_=>exact⟨H,F,h⟩
theorem xM:∀(ts:List Tt)(s:St)(H:FH)(F:Nm->Fp),RX g s.toS a w H γ F->∃H' F',RX g (DD s ts).toS a w H' γ F'
 |[],_,H,F,h=>⟨H,F,h⟩
 |t::ts,s,H,F,h=>by
  obtain⟨H1,F1,h1⟩:=Bx h t;exact xM ts _ H1 F1 h1
theorem fw{s:St}{H:FH}{F:Nm->Fp}(h:RX g s.toS a w H γ F)(v:At):∃H' F',RX g (ef s v).toS a w H' γ F':=by
 cases v with
 |one x=>cases x with
  |c t=>exact Bx h t
  |agg ts=>exact xM ts s H F h
 |_=>exact⟨H,F,h⟩
theorem cj:∀(vs:List At)(s:St)(H:FH)(F:Nm->Fp),RX g s.toS a w H γ F->∃H' F',RX g (bt s vs).toS a w H' γ F'
 |[],_,H,F,h=>⟨H,F,h⟩
 |v::vs,s,H,F,h=>by
  obtain⟨H1,F1,h1⟩:=fw h v;exact cj vs _ H1 F1 h1
theorem FL{s s':St}{H:FH}{F:Nm->Fp}(hX:RX g s.toS a w H γ F)(hf:∀(g':G) (H:FH) (F:Nm->Fp),RX g' s.toS a w H γ F->∃H' F',RX g' s'.toS a w H' γ F') :
  ∃H' F',RX g s'.toS a w H' γ F'/\∀b o y,H b o=some y->H' b o=some y:=by
 let g':G:=⟨g.nt,w,H,tot F s.toS.m,g.out,g.ex,g.dfs⟩
 have hX2:RX g' s.toS a w H γ F:=⟨hX.mem,Fr.refl' rfl rfl rfl rfl (fun _ h=>h),hX.nt,⟨hX.df.1,hX.df.2.1,dE hX⟩,hX.t⟩
 obtain⟨H',F',h⟩:=hf g' H F hX2;exact⟨H',F',⟨h.mem,hX.fr.trans h.fr,h.nt,⟨h.df.1,h.df.2.1,hX.df.2.2⟩,h.t⟩,h.fr.hold⟩
theorem pu:∀(ts:List Tt)(s:St)(p:Pl)(H:FH)(F:Nm->Fp),RX g s.toS a w H γ F->∃H' F',RX g (vL s p ts).toS a w H' γ F'
 |[],s,_,H,F,h=>⟨H,F,h⟩
 |t::ts,s,p,H,F,h=>by
  cases t with
  |rf q=>
   simp only[vL];split
   ·obtain⟨H1,F1,h1⟩:=ug h q;exact pu ts _ _ H1 F1 h1
   ·exact pu ts _ _ H F h
  |_=>exact pu ts s (p.add 1) H F h
theorem Ps{s:St}{H:FH}{F:Nm->Fp}(h:RX g s.toS a w H γ F)(x v:At):∃H' F',RX g (B6 s x v).toS a w H' γ F':=by
 unfold B6;split
 ·exact pu _ _ _ H F h
 ·exact⟨H,F,h⟩
theorem Bt(s:St)(t:Tt):Ext s (Ow s t):=by
 cases t with
 |rf p=>exact tP s p
 |_=>exact Ext.refl s
theorem xk:∀(ts:List Tt)(s:St),Ext s (DD s ts)
 |[],s=>Ext.refl s
 |t::ts,s=>(Bt s t).trans (xk ts _)
theorem fu(s:St)(v:At):Ext s (ef s v):=by
 cases v with
 |one x=>cases x with
  |c t=>exact Bt s t
  |agg ts=>exact xk ts s
 |_=>exact Ext.refl s
theorem ph:∀(ts:List Tt)(s:St)(p:Pl),Ext s (vL s p ts)
 |[],s,_=>Ext.refl s
 |t::ts,s,p=>by
  cases t with
  |rf q=>
   simp only[vL];split
   ·exact(tP s q).trans (ph ts _ _)
   ·exact ph ts _ _
  |_=>exact ph ts s (p.add 1)
theorem Pd(s:St)(x v:At):Ext s (B6 s x v):=by
 unfold B6;split
 ·exact ph _ _ _
 ·exact Ext.refl s
theorem bE:∀(vs:List At)(s:St),Ext s (bt s vs)
 |[],s=>Ext.refl s
 |v::vs,s=>(fu s v).trans (bE vs _)
theorem xN{s:St}{H:FH}{F:Nm->Fp}(h:RX g s.toS a w H γ F)(o:Oper):∃H' F',RX g (AP s o).toS a w H' γ F':=by
 unfold AP;split
 ·exact fw h _
 ·exact fw h _
 ·exact⟨H,F,h⟩
theorem Fx(s:St)(o:Oper):Ext s (AP s o):=by
 unfold AP;split
 ·exact fu s _
 ·exact fu s _
 ·exact Ext.refl s
theorem B5{s:S}{t:Tt}(h:t.noRf=true):Ua s t.toT=s:=by
 cases t with
 |rf p=>cases h
 |_=>rfl
theorem yJ{s:S}:∀{ts:List Tt},ts.all Tt.noRf=true->B7 s (ts.map Tt.toT)=s
 |[],_=>rfl
 |t::ts,h=>by
  simp only[adE,acX]at h;simp only[List.map_cons,B7];rw[B5 h.1,yJ h.2]
theorem uG{s:S}{v:At}(h:v.noRf=true):Ia s v.toV=s:=by
 cases v with
 |one x=>cases x with
  |c t=>exact B5 h
  |agg ts=>exact yJ h
 |_=>rfl
theorem dj{s:S}:∀{vs:List At},vs.all At.noRf=true->iV s (vs.map At.toV)=s
 |[],_=>rfl
 |v::vs,h=>by
  simp only[adE,acX]at h;simp only[List.map_cons,iV];rw[uG h.1,dj h.2]
theorem Mf{s:St}{H:FH}{F:Nm->Fp}(hX:RX g s.toS a w H γ F){x:Operand}(hc:aw x=true) :
  (∀p,evA s x=.one (.c (.rf p))->okP (toM s.m) p)/\(∀p,evA s x=.one (.c (.pl p))->okP (toM s.m) p):=by
 have h:=aA hX hc
 rw[ae hc]at h;refine⟨fun p e=>?_,fun p e=>?_⟩
 ·rw[e]at h;obtain⟨_,h1,_⟩:=h;exact oK h1
 ·rw[e]at h;obtain⟨_,h1,_⟩:=h;exact Mg h1
theorem uH{gd:Option (Nat×Bool)}{n:Nat}{q q':Prop}(hq:q->q')(h:gift gd n q):gift gd n q':=by
 cases gd with
 |none=>exact fun hh=>hq (h hh)
 |some _=>exact hq h
theorem Ch{gd:Option (Nat×Bool)}{m:List (Nm×Nat×Rt)}{x:At}{k k':Nat->Prop}(hk:∀n,k n->k' n)(h:IH gd m x k):IH gd m x k':=by
 unfold IH at h⊢;split at h
 ·exact uH (hk _) h
 ·exact uH (hk _) h
 ·exact hk _ h
 ·split at h
  ·exact uH (hk _) h
  ·exact h.elim
 ·exact h.elim
theorem Qz(x:At):pF x.toV=LA x:=by
 cases x with
 |one x=>cases x with
  |c t=>cases t with
   |d c=>cases c<;>rfl
   |_=>rfl
  |agg ts=>rfl
 |_=>rfl
theorem Vg{e:En}{o:Oper}{s:St}{k:At->Prop}{H:FH}{F:Nm->Fp}(hX:RX g s.toS a w H γ F)(hc:opC g.nt o=true)(h:qT e o s k):qK e.P o s.toS (up k):=by
 unfold opC at hc;rw[acX]at hc;obtain⟨_,hc⟩:=hc;unfold qT at h;unfold qK;cases ho:o.op with
 |move x=>rw[ho]at h hc;exact⟨_,ae hc,h⟩
 |assign x=>rw[ho]at h hc;exact⟨_,ae hc,h⟩
 |pick c x y=>
  rw[ho]at h hc;simp only[acX]at hc;dsimp only;rw[ae hc.1.1,ae hc.1.2,ae hc.2];exact U3 h
 |binOp op t x y z=>
  rw[ho]at h hc;simp only[acX]at hc;dsimp only;rw[ae hc.1,ae hc.2];exact Wn h
 |unOp op t x=>rw[ho]at h hc;dsimp only at hc⊢;rw[ae hc];exact Z3 h
 |load t x=>rw[ho]at h hc;dsimp only at hc⊢;rw[ae hc];exact yW (Mf hX hc).2 h
 |field t x i=>rw[ho]at h hc;dsimp only at hc⊢;rw[ae hc];exact Qs h
 |fieldAddr t x i=>rw[ho]at h hc;dsimp only at hc⊢;rw[ae hc];exact Av h
 |indexAddr t x i=>
  rw[ho]at h hc;simp only[acX]at hc;dsimp only;rw[ae hc.1,ae hc.2];exact qj (Mf hX hc.1).1 h
 |index t x i=>
  rw[ho]at h hc;simp only[acX]at hc;dsimp only at h⊢;split at h
  ·rename_i ht;rw[ae hc.1,ae hc.2];exact⟨ht,Rs h⟩
  ·exact h.elim
 |extract x i=>rw[ho]at h hc;dsimp only at hc⊢;rw[ae hc];exact GV h
 |convert su du x=>rw[ho]at h hc;dsimp only at hc⊢;rw[ae hc];exact T1 h
 |slice t x lo hi mx=>
  rw[ho]at h hc;cases mx with
  |some _=>exact h.elim
  |none=>
   dsimp only at h hc⊢;simp only[acX]at hc;have opt:∀(y:Option Operand),y.all aw=true->y.map (ev s.toS)=(y.map (evA s)).map At.toV:=by
    intro y hy;cases y with
    |none=>rfl
    |some y=>simp only[Option.map_some];rw[ae (by simpa using hy)]
   rw[ae hc.1.1,opt lo hc.1.2,opt hi hc.2];exact Rl h
 |nilCheck x=>rw[ho]at h hc;dsimp only at hc⊢;rw[ae hc];exact D7 h
 |build t ps=>rw[ho]at h hc;dsimp only at hc⊢;rw[uV hc];exact PU h
 |call c=>
  rw[ho]at h hc;obtain⟨callee,args,argTypes⟩:=c;obtain⟨args⟩:=args;obtain⟨argTypes⟩:=argTypes;dsimp only at h hc⊢;cases callee with
  |builtin b=>
   cases b with
   |len=>
    match args,argTypes,h with
    |[x],[t],h=>
     have h1:aw x=true:=by simpa using hc
     dsimp only at h⊢;split at h
     ·rename_i hl;rw[ae h1,Qz];refine⟨hl,?_⟩;exact Xp (Mf hX h1).1 (Ch (fun n hn=>⟨_,rfl,hn⟩) h)
     ·exact h.elim
   |_=>exact h.elim
  |_=>exact h.elim
 |_=>rw[ho]at h;exact h.elim
end
theorem pT{u:U}{x x':El u}{off:Nat}{c:C}(h:Jk u x off c=some x'):(∃d,(al u x)[off]? = some d)/\al u x'=(al u x).set off c.toD:=by
 unfold Jk at h;split at h
 ·rename_i c0 hc;have e:=vg h
  refine⟨⟨c0.toD,by rw[<- bm,acZ,hc];rfl⟩,?_⟩;rw[<- bm,<- e,<- bm,ad0]
 ·cases h
theorem Jo:∀{path:List Step}{sub:List Sh}{u:U}{l l':List (El u)}{t:Tt}{k:Prop}{K:List (List D)->Prop},oL sub u l path k->Cy sub u l t path=some l'->K (l'.map (al u))->fX sub (l.map (al u)) t.toT path K
 |[],_,_,_,_,_,_,_,h,_,_=>h.elim
 |[st],sub,u,l,l',t,k,K,h,ht,hK=>by
  obtain⟨h1,_⟩:=h;simp only[Cy]at ht;simp only[fX];rw[jh l h1];dsimp only;split at ht
  ·rename_i c hs;split at ht
   ·rename_i x hx;simp only[acV]at ht;subst ht;obtain⟨⟨d,hd⟩,e⟩:=pT hx;rw[hs,hd];dsimp only;refine⟨trivial,?_⟩;rw[ad0,e]at hK;exact hK
   ·cases ht
  ·rename_i hs;split at ht
   ·rename_i u' l0 hf;split at ht
    ·rename_i x hx;simp only[acV]at ht;subst ht;obtain⟨⟨d,hd⟩,e⟩:=pT hx;rw[hs,hd];dsimp only;refine⟨trivial,?_⟩;rw[ad0,e]at hK;exact hK
    ·cases ht
   ·cases ht
  ·cases ht
 |st::st'::r,sub,u,l,l',t,k,K,h,ht,hK=>by
  simp only[Cy]at ht;simp only[fX];simp only[oL]at h;split at ht
  ·rename_i s u' l0 e1 e2;rw[e1,e2]at h;obtain⟨h1,h4⟩:=h;rw[jh l h1];dsimp only;split at ht
   ·rename_i l2 hl2;split at ht
    ·rename_i x hx;simp only[acV]at ht;subst ht;obtain⟨_,e⟩:=pT hx;have e3:(al u (l.getD st.idx (dflt u)))[st.off]? = some (.li (l0.map (al u'))):=by
      rw[<- bm,acZ,e2];rfl
     rw[e1,e3];dsimp only;refine Jo h4 hl2 ?_;rw[ad0,e]at hK;exact hK
    ·cases ht
   ·cases ht
  ·cases ht
mutual
theorem Vt:∀{a b:Sh},Jr a b=true->a=b
 |.fr,.fr,_=>rfl
 |.ow a,.ow b,h=>by simp only[Jr]at h;rw[jB h]
 |.fr,.ow _,h=>by simp[Jr]at h
 |.ow _,.fr,h=>by simp[Jr]at h
theorem jB:∀{a b:List Sh},iR a b=true->a=b
 |[],[],_=>rfl
 |a::r,b::q,h=>by
  simp only[iR,acX]at h;rw[Vt h.1,jB h.2]
 |[],_::_,h=>by simp[iR]at h
 |_::_,[],h=>by simp[iR]at h
end
theorem GX:∀{path:List Step}{sub:List Sh}{u:U}{l l':List (El u)}{sh:List Sh}{v:U}{lv:List (El v)}{k:Prop}{K:List (List D)->Prop},oL sub u l path k->B0 sub u l sh v lv path=some l'->K (l'.map (al u)) ->
  fX sub (bD sub (l.map (al u)) .any path) (.ow sh (lv.map (al v))) path K
 |[],_,_,_,_,_,_,_,_,_,h,_,_=>h.elim
 |[st],sub,u,l,l',sh,v,lv,k,K,h,ht,hK=>by
  obtain⟨h1,_⟩:=h;have h1':st.idx < (l.map (al u)).length:=by rw[acY];exact h1
  simp only[B0]at ht;split at ht
  ·rename_i s c hs hc;split at ht
   ·rename_i x hsh hx;simp only[acV]at ht;subst ht;obtain⟨⟨d,hd⟩,e⟩:=pT hx;have hlt:st.off < (al u (l.getD st.idx (dflt u))).length:=ah hd
    have hset:bD sub (l.map (al u)) .any [st]=(l.map (al u)).set st.idx ((al u (l.getD st.idx (dflt u))).set st.off .any):=by
     simp only[bD];rw[iv l h1]
    rw[hset];simp only[fX];rw[adL h1'];dsimp only;rw[hs,adL hlt];dsimp only;refine⟨jB hsh,?_⟩;rw[aeW,aeW];rw[ad0,e]at hK;exact hK
   ·cases ht
  ·cases ht
 |st::st'::r,sub,u,l,l',sh,v,lv,k,K,h,ht,hK=>by
  simp only[B0]at ht;simp only[oL]at h;split at ht
  ·rename_i s u' l0 e1 e2;rw[e1,e2]at h;obtain⟨h1,h4⟩:=h;have h1':st.idx < (l.map (al u)).length:=by rw[acY];exact h1
   split at ht
   ·rename_i l2 hl2;split at ht
    ·rename_i x hx;simp only[acV]at ht;subst ht;obtain⟨_,e⟩:=pT hx;have e3:(al u (l.getD st.idx (dflt u)))[st.off]? = some (.li (l0.map (al u'))):=by
      rw[<- bm,acZ,e2];rfl
     have hlt:st.off < (al u (l.getD st.idx (dflt u))).length:=ah e3
     have e4:(al u (l.getD st.idx (dflt u))).getD st.off default=.li (l0.map (al u')):=by rw[List.getD,e3];rfl
     have hset:bD sub (l.map (al u)) .any (st::st'::r)=(l.map (al u)).set st.idx ((al u (l.getD st.idx (dflt u))).set st.off (.li (bD s (l0.map (al u')) .any (st'::r)))):=by
      simp only[bD];rw[iv l h1,e1,e4]
     rw[hset];simp only[fX];rw[adL h1'];dsimp only;rw[e1,adL hlt];dsimp only;refine GX h4 hl2 ?_;rw[aeW,aeW];rw[ad0,e]at hK;exact hK
    ·cases ht
   ·cases ht
  ·cases ht
theorem Ee:∀{path:List Step}{sub:List Sh}{u:U}{l:List (El u)}{k:Prop},oL sub u l path k->k
 |[],_,_,_,_,h=>h.elim
 |[st],_,_,_,_,h=>h.2
 |st::st'::r,sub,u,l,k,h=>by
  simp only[oL]at h;split at h
  ·exact Ee h.2
  ·exact h.elim
theorem pO:∀{path:List Step}{sub:List Sh}{u:U}{l:List (El u)}{k k':Prop},(k->k')->oL sub u l path k->oL sub u l path k'
 |[],_,_,_,_,_,_,h=>h.elim
 |[st],_,_,_,_,_,hk,h=>⟨h.1,hk h.2⟩
 |st::st'::r,sub,u,l,k,k',hk,h=>by
  simp only[oL]at h⊢;split at h
  ·exact⟨h.1,pO hk h.2⟩
  ·exact h.elim
theorem BZ:∀{a b:List Step}{k:Prop},m0 a b k->a=b/\k
 |[],[],_,h=>⟨rfl,h⟩
 |x::r,y::q,k,h=>by
  simp only[m0]at h;split at h
  ·rename_i hb;rw[acX]at hb;obtain⟨e,hk⟩:=BZ h.2;obtain⟨a1,a2,a3⟩:=x;obtain⟨b1,b2,b3⟩:=y;have h1:a1=b1:=h.1
   have h2:a2=b2:=ac7 hb.1
   have h3:a3=b3:=ac7 hb.2
   subst h1;subst h2;subst h3;subst e;exact⟨rfl,hk⟩
  ·exact h.elim
 |[],_::_,_,h=>h.elim
 |_::_,[],_,h=>h.elim
theorem vJ:∀{a b:List Step}{k k':Prop},(k->k')->m0 a b k->m0 a b k'
 |[],[],_,_,hk,h=>hk h
 |x::r,y::q,k,k',hk,h=>by
  simp only[m0]at h⊢;split at h
  ·exact⟨h.1,vJ hk h.2⟩
  ·exact h.elim
 |[],_::_,_,_,_,h=>h.elim
 |_::_,[],_,_,_,h=>h.elim
theorem yN:∀{path:List Step}{sub:List Sh}{u:U}{l:List (El u)}{sh:List Sh}{v:U}{lv:List (El v)},okO sub (l.map (al u)) path->inT sub u l 1 path=some [.ow sh v lv]->bf sub (l.map (al u)) path=some (.ow sh,.li (lv.map (al v)))
 |[],_,_,_,_,_,_,h,_=>h.elim
 |[st],sub,u,l,sh,v,lv,h,ht=>by
  obtain⟨h1,h2,h3⟩:=h;rw[acY]at h1;simp only[inT]at ht;split at ht
  ·simp only[acV]at ht;have e1:sub[st.off]? = some sub[st.off]:=acW h3
   cases hc:(flat u (l.getD st.idx (dflt u)))[st.off]? with
   |none=>
    have:((flat u (l.getD st.idx (dflt u))).drop st.off).take 1=[]:=by
     rw[List.drop_eq_nil_of_le (List.getElem?_eq_none_iff.1 hc)];rfl
    rw[this]at ht;simp at ht
   |some c=>
    have hlt:=ah hc
    have ec:(flat u (l.getD st.idx (dflt u)))[st.off]=c:=by
     rw[acW hlt]at hc;exact Option.some.inj hc
    have d1:(sub.drop st.off).take 1=[sub[st.off]]:=by rw[aeP h3];rfl
    have d2:((flat u (l.getD st.idx (dflt u))).drop st.off).take 1=[c]:=by rw[aeP hlt,ec];rfl
    rw[d1,d2]at ht;simp only[List.zipWith_cons_cons,List.zipWith_nil_left,List.cons.injEq,and_true]at ht;simp only[bf,e1,Option.map_some,iv l h1];have e3:(al u (l.getD st.idx (dflt u))).getD st.off default=c.toD:=by
     rw[List.getD,<- bm,acZ,hc];rfl
    rw[e3];generalize sub[st.off]=s0 at ht;cases s0 with
    |fr=>cases ht
    |ow s1=>
     cases c with
     |li u1 l1=>
      simp only[Tt.ow.injEq]at ht;obtain⟨rfl,rfl,e⟩:=ht;rw[eq_of_heq e];rfl
     |_=>cases ht
  ·cases ht
 |st::st'::r,sub,u,l,sh,v,lv,h,ht=>by
  obtain⟨⟨h1,h2,h3⟩,h4⟩:=h;rw[acY]at h1;simp only[inT]at ht;split at ht
  ·rename_i s u' l0 e1 e2;have e3:(al u (l.getD st.idx (dflt u))).getD st.off default=.li (l0.map (al u')):=by
    rw[List.getD,<- bm,acZ,e2];rfl
   rw[e1,iv l h1,e3]at h4;simp only[bf];rw[e1,iv l h1,e3];exact yN h4 ht
  ·cases ht
theorem Ih{cells:List Tt}{off:Nat}{sub:List Sh}{u:U}{l:List (El u)}(st:Step)(q:List Step)(h:cells[off]? = some (.ow sub u l)) :
  holed (cells.map Tt.toT) (some (off,st,q))=(cells.map Tt.toT).set off (.ow sub (bD sub (l.map (al u)) .any (st::q))):=by
 unfold holed;dsimp only;rw[acZ,h];rfl
def zn(row:List D)(off:Nat):List D->List D
 |[]=>row
 |d::r=>zn (row.set off d) (off+1) r
def fY(sub:List Sh)(l:List (List D)):List T->List Step->(List (List D)->Prop)->Prop
 |[],_,K=>K l
 |t::ts,path,K=>fX sub l t path fun l1=>fY sub l1 ts (aG path 1) K
theorem lk:∀{path:List Step}{sub:List Sh}{l:List (List D)}{t:T}{K K':List (List D)->Prop},(∀x,K x->K' x)->fX sub l t path K->fX sub l t path K'
 |[],_,_,_,_,_,_,h=>h.elim
 |[st],sub,l,t,K,K',hk,h=>by
  simp only[fX]at h⊢;split at h
  ·split at h
   ·exact⟨h.1,hk _ h.2⟩
   ·exact⟨h.1,hk _ h.2⟩
   ·exact h.elim
  ·exact h.elim
 |st::st'::r,sub,l,t,K,K',hk,h=>by
  simp only[fX]at h⊢;split at h
  ·split at h
   ·exact lk (fun x hx=>hk _ hx) h
   ·exact h.elim
  ·exact h.elim
theorem oX:∀{ts:List T}{path:List Step}{sub:List Sh}{l:List (List D)}{K K':List (List D)->Prop},(∀x,K x->K' x)->fY sub l ts path K->fY sub l ts path K'
 |[],_,_,_,_,_,hk,h=>hk _ h
 |t::ts,path,sub,l,K,K',hk,h=>lk (fun x hx=>oX hk hx) h
def Il:T->Bool
 |.d _=>true
 |.nil=>true
 |_=>false
theorem zS{sub:List Sh}{idx esz:Nat}:∀{ts:List T}{l:List (List D)}{off:Nat}{row:List D}{K:List (List D)->Prop},l[idx]? = some row->ts.all Il=true->frs sub off ts.length=true->off+ts.length<=row.length ->
  K (l.set idx (zn row off (ts.map T.toD)))->fY sub l ts [⟨idx,esz,off⟩] K
 |[],l,off,row,K,hl,_,_,_,hK=>by
  have:l.set idx row=l:=by
   apply aeJ
   intro n;rw[aeB];split
   ·rename_i e;subst e;have hlt:=ah hl
    rw[if_pos hlt];exact hl.symm
   ·rfl
  simp only[List.map_nil,zn,this]at hK;exact hK
 |t::ts,l,off,row,K,hl,hd,hf,hlen,hK=>by
  simp only[adE,acX]at hd;simp only[ac0]at hlen hf;simp only[frs]at hf;cases hs:sub[off]? with
  |none=>rw[hs]at hf;cases hf
  |some s=>
   rw[hs]at hf;cases s with
   |ow _=>cases hf
   |fr=>
    dsimp only at hf;have hoff:off<row.length:=by omega
    simp only[fY,fX];rw[hl];dsimp only;rw[hs,acW hoff];dsimp only;refine⟨by have h0:=hd.1;cases t<;>first|trivial|(simp[Il]at h0),?_⟩;have hlt:=ah hl
    show fY sub _ ts [⟨idx,esz,off+1⟩] K
    refine zS (row:=row.set off t.toD) (adL hlt) hd.2 hf (by rw[List.length_set];omega) ?_;rw[aeW];exact hK
theorem Di(st st':Step)(r:List Step)(n:Nat):aG (st::st'::r) n=st::aG (st'::r) n:=rfl
theorem vU{sub s:List Sh}{st st':Step}:∀{ts:List T}{r:List Step}{l l':List (List D)}{row:List D}{K:List (List D)->Prop},l[st.idx]? = some row->sub[st.off]? = some (.ow s)->row[st.off]? = some (.li l') ->
  fY s l' ts (st'::r) (fun l''=>K (l.set st.idx (row.set st.off (.li l''))))->fY sub l ts (st::st'::r) K
 |[],r,l,l',row,K,hl,hs,hc,h=>by
  have e1:row.set st.off (.li l')=row:=by
   apply aeJ
   intro n;rw[aeB];split
   ·rename_i e;subst e;rw[if_pos (ah hc)];exact hc.symm
   ·rfl
  have e2:l.set st.idx row=l:=by
   apply aeJ
   intro n;rw[aeB];split
   ·rename_i e;subst e;rw[if_pos (ah hl)];exact hl.symm
   ·rfl
  simp only[fY,e1,e2]at h;exact h
 |t::ts,r,l,l',row,K,hl,hs,hc,h=>by
  simp only[fY,fX]at h⊢;rw[hl];dsimp only;rw[hs,hc];dsimp only;refine lk (fun l1 h1=>?_) h;rw[Di];have hlt:=ah hl
  have hlt2:=ah hc
  obtain⟨st2,r2,e⟩:∃st2 r2,aG (st'::r) 1=st2::r2:=by
   cases r with
   |nil=>exact⟨_,_,rfl⟩
   |cons a b=>exact⟨_,_,rfl⟩
  rw[e]at h1⊢;refine vU (row:=row.set st.off (.li l1)) (l':=l1) (adL hlt) hs (adL hlt2) ?_;refine oX (fun l2 h2=>?_) h1;rw[aeW,aeW];exact h2
theorem zm:∀{ts:List Tt}{cs cs':List C}{off:Nat},ka cs off ts=some cs'->cs'.map C.toD=zn (cs.map C.toD) off ((ts.map Tt.toT).map T.toD)/\(ts.map Tt.toT).all Il=true/\(ts≠[]->off+ts.length<=cs.length)/\cs'.length=cs.length
 |[],cs,cs',off,h=>by
  simp only[ka,acV]at h;subst h;exact⟨rfl,rfl,fun h=>(h rfl).elim,rfl⟩
 |t::r,cs,cs',off,h=>by
  have step:∀{c:C},(∃c0,cs[off]? = some c0)->ka (cs.set off c) (off+1) r=some cs'->t.toT.toD=c.toD->Il t.toT=true ->
    cs'.map C.toD=zn (cs.map C.toD) off (((t::r).map Tt.toT).map T.toD)/\((t::r).map Tt.toT).all Il=true/\((t::r)≠[]->off+(t::r).length<=cs.length)/\cs'.length=cs.length:=by
   rintro c ⟨c0,hc0⟩ h2 h3 h4
   obtain⟨k1,k2,k3,k4⟩:=zm h2;have hlt:=ah hc0
   refine⟨?_,by simp only[List.map_cons,adE,h4,k2,afJ],fun _=>?_,by rw[k4,List.length_set]⟩
   ·rw[k1];simp only[List.map_cons,zn,h3,ad0]
   ·simp only[ac0];by_cases hr:r=[]
    ·subst hr;simp only[ac6];omega
    ·have:=k3 hr;rw[List.length_set]at this;omega
  cases t with
  |d c=>
   simp only[ka]at h;split at h
   ·cases h
   ·rename_i hc;exact step ⟨_,hc⟩ h rfl rfl
   ·cases h
  |nil=>
   simp only[ka]at h;split at h
   ·rename_i u' l0 hc;exact step ⟨_,hc⟩ h rfl rfl
   ·cases h
  |_=>simp[ka]at h
theorem Jp:∀{path:List Step}{sub:List Sh}{u:U}{l l':List (El u)}{ts:List Tt}{k:Prop}{K:List (List D)->Prop},ts≠[]->oL sub u l path k->qw sub u l ts path=some l'->K (l'.map (al u))->fY sub (l.map (al u)) (ts.map Tt.toT) path K
 |[],_,_,_,_,_,_,_,_,h,_,_=>h.elim
 |[st],sub,u,l,l',ts,k,K,hne,h,ht,hK=>by
  obtain⟨h1,_⟩:=h;simp only[qw]at ht;split at ht
  ·rename_i cs hf ho;split at ht
   ·rename_i x hx;simp only[acV]at ht;subst ht;obtain⟨k1,k2,k3,k4⟩:=zm ho;have e:=vg hx
    obtain⟨idx,esz,off⟩:=st;refine zS (jh l h1) k2 (by rw[acY];exact hf) ?_ ?_
    ·rw[acY,<- bm,acY];exact k3 hne
    ·rw[ad0]at hK;have e2:al u x=zn (al u (l.getD idx (dflt u))) off ((ts.map Tt.toT).map T.toD):=by
      rw[<- bm,<- e,k1,bm]
     rw[e2]at hK;exact hK
   ·cases ht
  ·cases ht
 |st::st'::r,sub,u,l,l',ts,k,K,hne,h,ht,hK=>by
  simp only[qw]at ht;simp only[oL]at h;split at ht
  ·rename_i s u' l0 e1 e2;rw[e1,e2]at h;obtain⟨h1,h4⟩:=h;split at ht
   ·rename_i l2 hl2;split at ht
    ·rename_i x hx;simp only[acV]at ht;subst ht;obtain⟨_,e⟩:=pT hx;have e3:(al u (l.getD st.idx (dflt u)))[st.off]? = some (.li (l0.map (al u'))):=by
      rw[<- bm,acZ,e2];rfl
     refine vU (jh l h1) e1 e3 (Jp hne h4 hl2 ?_);rw[ad0,e]at hK;exact hK
    ·cases ht
   ·cases ht
  ·cases ht
theorem Cx:∀{m:Mm}{n:Nm}{r r':Root},bA (bA m n r) n r'=bA m n r'
 |[],_,_,_=>rfl
 |(k,x)::m,n,r,r'=>by
  simp only[bA];by_cases h:k=n
  ·rw[if_pos h,if_pos h];simp only[bA,if_pos h]
  ·rw[if_neg h,if_neg h];simp only[bA,if_neg h,Cx]
theorem Cw:∀{m:Mm}{n:Nm}{r:Root},aa m n=some r->bA m n r=m
 |[],_,_,h=>by simp[aa]at h
 |(k,x)::m,n,r,h=>by
  simp only[aa]at h;simp only[bA];by_cases hk:k=n
  ·rw[if_pos hk]at h⊢;rw[Option.some.inj h]
  ·rw[if_neg hk]at h⊢;rw[Cw h]
theorem vW{K:S->Prop}:∀{ts:List T}{s:S}{p:Pl}{r:Root}{sub:List Sh}{l:List (List D)}{st:Step}{q:List Step},aa s.m p.root=some r->p.path=st::q->r.cells[p.off]? = some (.ow sub l)->ts.all Il=true->(∀t∈ts,t≠.d .any) ->
  fY sub l ts (st::q) (fun l'=>K ⟨s.t,bA s.m p.root { r with cells:=r.cells.set p.off (.ow sub l') }⟩)->cH s p ts K
 |[],s,p,r,sub,l,st,q,hr,hp,hc,_,_,h=>by
  have e1:r.cells.set p.off (.ow sub l)=r.cells:=by
   apply aeJ
   intro n;rw[aeB];split
   ·rename_i e;subst e;rw[if_pos (ah hc)];exact hc.symm
   ·rfl
  simp only[fY,e1]at h;have:bA s.m p.root r=s.m:=Cw hr
  rw[show({ blk:=r.blk,cells:=r.cells }:Root)=r from rfl,this]at h;exact h
 |t::ts,s,p,r,sub,l,st,q,hr,hp,hc,hd,hn,h=>by
  simp only[adE,acX]at hd;have key:cH s p (t::ts) K=rv s.m p t fun m'=>cH ⟨s.t,m'⟩ (p.add 1) ts K:=by
   cases t with
   |d c=>cases c with
    |any=>exact((hn _ (by simp)) rfl).elim
    |_=>rfl
   |nil=>rfl
   |_=>have:=hd.1;simp[Il]at this
  rw[key];unfold rv;rw[hr];dsimp only;rw[hp,hc];dsimp only;simp only[fY]at h;refine lk (fun l1 h1=>?_) h;have hlt:=ah hc
  have ep:(p.add 1).root=p.root/\(p.add 1).off=p.off/\(p.add 1).path=aG (st::q) 1:=by
   obtain⟨pr,po,pp⟩:=p;dsimp only at hp;subst hp;exact⟨rfl,rfl,rfl⟩
  obtain⟨st2,q2,e⟩:∃st2 r2,aG (st::q) 1=st2::r2:=by
   cases q with
   |nil=>exact⟨_,_,rfl⟩
   |cons a b=>exact⟨_,_,rfl⟩
  rw[e]at h1;refine vW (s:=⟨s.t,bA s.m p.root { r with cells:=r.cells.set p.off (.ow sub l1) }⟩) (p:=p.add 1) (r:={ r with cells:=r.cells.set p.off (.ow sub l1) }) (sub:=sub) (l:=l1) (st:=st2) (q:=q2) ?_ (ep.2.2.trans e) ?_ hd.2 (fun t ht=>hn t (by simp[ht])) ?_
  ·rw[ep.1];show aa (bA s.m p.root _) p.root=_
   rw[dV hr,if_pos rfl]
  ·rw[ep.2.1];exact adL hlt
  ·refine oX (fun l2 h2=>?_) h1;rw[ep.1,ep.2.1];dsimp only;rw[Cx,aeW];exact h2
theorem uT:∀{ts:List Tt}{cs cs':List C}{off:Nat},ka cs off ts=some cs'->∀t∈ts.map Tt.toT,t≠.d .any
 |[],_,_,_,_,t,ht=>by simp at ht
 |t::r,cs,cs',off,h,x,hx=>by
  cases t with
  |d c=>
   have hne:c≠.any:=by rintro rfl;simp[ka]at h
   have h':∃cs0 o,ka cs0 o r=some cs':=by
    simp only[ka]at h;split at h
    ·cases h
    ·exact⟨_,_,h⟩
    ·cases h
   obtain⟨cs0,o,h'⟩:=h';rcases ac8.1 hx with rfl|hx
   ·intro e;simp only[Tt.toT,T.d.injEq]at e;cases c<;>first|exact hne rfl|(simp[C.toD]at e)
   ·exact uT h' x hx
  |nil=>
   simp only[ka]at h;split at h
   ·rcases ac8.1 hx with rfl|hx
    ·intro e;cases e
    ·exact uT h x hx
   ·cases h
  |_=>simp[ka]at h
theorem Cz:∀{path:List Step}{sub:List Sh}{u:U}{l l':List (El u)}{ts:List Tt},qw sub u l ts path=some l'->(∀t∈ts.map Tt.toT,t≠.d .any)/\(ts.map Tt.toT).all Il=true
 |[],_,_,_,_,_,h=>by simp[qw]at h
 |[st],_,_,_,_,_,h=>by
  simp only[qw]at h;split at h
  ·rename_i ho;exact⟨uT ho,(zm ho).2.1⟩
  ·cases h
 |st::st'::r,_,_,_,_,_,h=>by
  simp only[qw]at h;split at h
  ·split at h
   ·rename_i hl;exact Cz hl
   ·cases h
  ·cases h
def sA(P:Program)(s:S)(t u:TypeId)(x y:Operand)(d:Tmp)(k:S->Prop):Prop:=
 match(ty P t).k with
 |.sl e=>(ty P e).ok=true/\(ty P u).k.isSS=true/\((zcells P e).map (·.length))=some (ty P e).size /\
  match ig s (ty P e).size (ev s y)with
  |some (s1,sub1,ys)=>match ig s1 (ty P e).size (ev s1 x)with
   |some (s2,sub,l)=>sub1=sub/\Ed sub1.length ys/\l.length+ys.length<=4611686018427387904/\(l.length+ys.length)*(ty P e).bytes<=140737488355328 /\
    k (((s2.fresh (.gh d)).root (.gh d) ⟨false,[.ow sub (l++ys)]⟩).put (some d) (.one (.c (.rf ⟨.gh d,0,[]⟩))))
   |none=>False
  |none=>False
 |_=>False
section
variable {P:Program} {g:G} {s:S} {a:Act} {w:World} {H:FH} {γ:Gam} {F:Nm->Fp}
theorem YX{k:Nat}{sh:Sh}{x:D}{f:Fp}{y:Value}(hs:x.sure=true)(h:OD w H k sh x f y):nL y=true:=by
 cases sh with
 |fr=>exact NJ hs (ea.1 h).2
 |ow sub=>
  cases k with
  |zero=>cases x<;>first|(simp[OD]at h;done)|(simp[D.sure]at hs)
  |succ k=>
   cases x with
   |li l=>
    obtain⟨a,c,_,_,rfl,_⟩:=lR h;rfl
   |any=>simp[D.sure]at hs
   |_=>simp[OD]at h
theorem Sr{k:Nat}:∀{ss:List Sh}{xs:List D}{f:Fp}{vs:List Value},vs.length=xs.length->(∀x∈xs,x.sure=true)->Cs (OD w H k) ss xs f vs->∀u∈vs,nL u=true
 |[],[],_,vs,hl,_,_=>by
  have:vs=[]:=by simpa using hl
  subst this;simp
 |s::ss,x::xs,f,vs,hl,hx,h=>by
  obtain⟨v,r,f1,f2,rfl,_,h1,h2⟩:=h;intro u hu;rcases ac8.1 hu with rfl|hu
  ·exact YX (hx x (by simp)) h1
  ·exact Sr (by simpa using hl) (fun y hy=>hx y (by simp[hy])) h2 u hu
 |[],_::_,_,_,_,_,h=>h.elim
 |_::_,[],_,_,_,_,h=>h.elim
theorem X2{k:Nat}{sub:List Sh}{ys:List (List D)}{f:Fp}{v:Value}(h:OD w H k (.ow sub) (.li ys) f v)(hok:Ed sub.length ys) :
  ∃(kx:Nat)(gx:Fp)(ws:List Value),Src P w sub.length v ys.length ws/\Cs (OD w H kx) (List.replicate ys.length sub).flatten ys.flatten gx ws/\(∀u∈ws,nL u=true)/\∀b,gx b<=f b:=by
 cases k with
 |zero=>simp[OD]at h
 |succ k=>
  obtain⟨ad,c,gg,vs,rfl,hlc,hlb,hlen,hvs,hcs,hwhere⟩:=lR h;refine⟨k,gg,vs,?_,hcs,?_,?_⟩
  ·rcases hwhere with⟨rfl,rfl,rfl,_⟩|⟨b,cs,ty,fz,rfl,hb,hfz,hcsz,rfl,hf⟩
   ·have:vs=[]:=by simpa using hvs
    subst this;exact oa
   ·refine uh hvs (fun j u hj=>?_);have hjl:=ah hj
    rw[ad8]at hjl;rw[adI kQ1]at hj;simp only[World.cell?,hb,aeL,ac4,if_false,aeA];simpa using hj
  ·refine Sr (by rw[hvs,bO _ _ hlen]) (fun x hx=>?_) hcs;rw[List.mem_flatten]at hx;obtain⟨y,hy,hxy⟩:=hx;exact(hok y hy).2 x hxy
  ·intro b;rcases hwhere with⟨rfl,rfl,rfl,hf0⟩|⟨b',cs,ty,fz,rfl,hb,hfz,hcsz,rfl,hf⟩
   ·have hv0:vs=[]:=by simpa using hvs
    have:∀b,gg b=0:=by simpa[Cs]using hcs
    rw[this b];exact ad1 _
   ·rw[hf];omega
theorem l5(h:RX g s a w H γ F){size:Nat}{x:AV}{v:Value}{s1:S}{sub:List Sh}{l:List (List D)}(hx:AR w H γ s.m x v)(hb:ig s size x=some (s1,sub,l)) :
  ∃k f F1,OD w H k (.ow sub) (.li l) f v/\RX g s1 a w H γ F1/\sub.length=size/\(∀b,tot F1 s1.m b+f b=tot F s.m b)/\(∀b,f b≠0->b<w.heap.size/\(∀o,H b o=none)/\(g.own0 b≠0\/g.w0.heap.size<=b)):=by
 match x,hb with
 |.one (.c .nil),hb=>
  simp only[ig,acV,Prod.mk.injEq]at hb;obtain⟨rfl,rfl,rfl⟩:=hb;obtain⟨_,rfl⟩:=hx;refine⟨1,fun _=>0,F,?_,h,by simp,fun b=>rfl,fun b hb=>absurd rfl hb⟩;rw[dD];exact .inl ⟨rfl,rfl,fun _=>rfl⟩
 |.one (.c (.rf q)),hb=>
  simp only[ig]at hb;cases hg:aS s.m q with
  |none=>rw[hg]at hb;simp at hb
  |some t=>
   rw[hg]at hb;cases t with
   |ow sub' l'=>
    dsimp only at hb;split at hb
    ·rename_i hsz;simp only[acV,Prod.mk.injEq]at hb;obtain⟨rfl,rfl,rfl⟩:=hb;obtain⟨_,hok,hv⟩:=hx;obtain⟨v',f,F',e1,⟨k,e2⟩,e3,e4⟩:=FK h (dM hok) hg;rw[hv]at e1;obtain rfl:v=v':=by simpa using e1
     exact⟨k,f,F',e2,e3,hsz,e4,fun b hb=>by
      have hne:tot F s.m b≠0:=by have:=e4 b;omega
      exact⟨h.mem.lt b hne,h.mem.nofz b hne,h.fr.tt b hne⟩⟩
    ·simp at hb
   |_=>simp at hb
theorem Gl(h:RX g s a w H γ F){t u tt:TypeId}{x y:Operand}{d:Tmp}{k:S->Prop}(hd:okD g.nt (some d)=true)(hx:aw x=true)(hy:aw y=true)(hK:sA P s t u x y d k) :
  ∃s' z w' H' γ' F',(Builtin.append_ #[t,u] tt #[a.eval x,a.eval y]).run P w=.ok z w'/\k s'/\RX g s' (a.put (some d) z) w' H' γ' F':=by
 unfold sA at hK;cases hk:(ty P t).k with
 |sl e=>
  rw[hk]at hK;obtain⟨hok,hss,hzl,hK⟩:=hK;obtain⟨_,td,hit,hud,htk,_⟩:=aR hk (by simp);have:=nG htk
  subst this;obtain⟨ie,de,hie,_,_,hsize,hbytes,_⟩:=eL hok;rw[hsize,hbytes]at hK;rw[hsize]at hzl;obtain⟨zs,hzs,hzl⟩:=adA.1 hzl;obtain⟨it',z,hi',hz,hzc,_⟩:=jC hzs;rw[hie]at hi';obtain rfl:ie=it':=by simpa using hi'
  have hzsz:z.cells.size=ie.size:=by rw[<- hzl,<- hzc];simp
  obtain⟨ud,huu,hudd⟩:∃ud,P.underlying u=some ud/\isSS ud=true:=by
   have hne:(ty P u).k≠.ot:=fun e=>by rw[e]at hss;simp[TK.isSS]at hss
   obtain⟨_,ud,_,h2,h3,_⟩:=aR rfl hne;refine⟨ud,h2,?_⟩;rw[<- h3]at hss;cases ud<;>first|rfl|(simp[eJ,TK.isSS]at hss)
  cases hsr:ig s ie.size (ev s y)with
  |none=>rw[hsr]at hK;exact hK.elim
  |some q1=>
   obtain⟨s1,sub1,ys⟩:=q1;rw[hsr]at hK;dsimp only at hK;obtain⟨k1,f1,F1,d1,h1,d3,d4,d5⟩:=l5 h (aA h hy) hsr;cases hbs:ig s1 ie.size (ev s1 x)with
   |none=>rw[hbs]at hK;exact hK.elim
   |some q=>
    obtain⟨s2,sub,l⟩:=q;rw[hbs]at hK;obtain⟨hsub,hrows,hb62,hby,hK⟩:=hK;subst hsub;obtain⟨kb,f,F2,b1,b2,b3,b4',b5⟩:=l5 h1 (aA h1 hx) hbs;have b4:∀b,tot F2 s2.m b+f b+f1 b<=1:=fun b=>by have:=b4' b;have:=d4 b;have:=h.mem.le1 b;omega
    obtain⟨kx,gx,ws,r1,r2,r3,r4⟩:=X2 (P:=P) d1 hrows;rw[d3]at r1;obtain⟨z',w',f',c1,⟨k',c2⟩,c3,c4,c5,c6,c7,c8,c9⟩:=zJ (tt:=tt) hud huu hudd hie hz hzsz (gx:=gx) (kx:=kx) b3 b1 r1 (fun y hy=>(hrows y hy).1)
     r2 r3 (fun b=>by have:=b4 b;have:=r4 b;omega) (fun b hb=>by rcases hb with hb|hb;exact(b5 b hb).1;exact(d5 b (by have:=r4 b;omega)).1) hb62 hby
    have hX:=n9 b2 c3 c4 c5 c6 (fun b hb=>by
     rcases c7 b hb with h3|h3
     ·exact .inl h3
     ·exact .inr ⟨by have:=b4 b;omega,(b5 b h3.1).2.1,(b5 b h3.1).2.2,h3.2⟩)
    have hX2:=bV hX (.gh d)
    have hn:=bG hX (.gh d)
    have hHnew:∀b,w.heap.size<=b->∀o,H b o=none:=by
     intro b hb o;cases hc:H b o with
     |none=>rfl
     |some y=>have:=(h1.mem.agree _ _ _ hc).lt;(try simp at this);omega
    have hts:∀b,tot F2 (s2.fresh (.gh d)).m b<=tot F2 s2.m b:=by
     intro b;unfold S.fresh;split
     ·exact ac1 _
     ·show tot F2 (ax _ _) b<=_
      rw[aT];exact eK
    have htz:tot F2 s2.m w.heap.size=0:=by
     rcases adM (tot F2 s2.m w.heap.size)with h'|h'
     ·exact h'
     ·have:=b2.mem.lt w.heap.size kQ1;omega
    have own:∀b,f' b≠0->b≠w.heap.size->b<w.heap.size/\(∀o,H b o=none)/\(g.own0 b≠0\/g.w0.heap.size<=b):=by
     intro b hb hb2;have h5:=c8 b
     have h6:=r4 b
     rw[if_neg hb2]at h5;by_cases hf:f b=0
     ·exact d5 b kQ1
     ·exact b5 b hf
    obtain⟨γ',F',hX3,hγ⟩:=cR hX2 (n:=.gh d) rfl hn (v:=z') (t:=.ow sub1 (l++ys)) (f:=f') ⟨k',c2⟩ (fun b=>by
      have h3:=hts b;have h4:=b4 b;have h5:=c8 b;have h6:=r4 b
      by_cases hb:b=w.heap.size
      ·subst hb;have e1:f w.heap.size=0:=by
        rcases adM (f w.heap.size)with h'|h'
        ·exact h'
        ·have:=(b5 w.heap.size kQ1).1;omega
       have e2:f1 w.heap.size=0:=by
        rcases adM (f1 w.heap.size)with h'|h'
        ·exact h'
        ·have:=(d5 w.heap.size kQ1).1;omega
       rw[if_pos rfl]at h5;omega
      ·rw[if_neg hb]at h5;omega)
     (fun b hb=>⟨c9 b hb,by
      by_cases hb2:b=w.heap.size
      ·subst hb2;exact hHnew _ (ac1 _)
      ·exact(own b hb hb2).2.1⟩)
     (fun b hb=>by
      by_cases hb2:b=w.heap.size
      ·right;have:=b2.fr.size;omega
      ·exact(own b hb hb2).2.2)
    refine⟨_,z',w',H,γ',F',c1,hK,RX.put hX3 hd (fJ (sub:=sub1) (l:=l++ys) ?_ hγ)⟩;simp[aa]
 |_=>rw[hk]at hK;exact hK.elim
end
def fzS:List Sh->List T->Option (List D)
 |[],[]=>some []
 |.fr::ss,t::ts=>match fzS ss ts with
  |some r=>some (t.fz::r)
  |none=>none
 |.ow _::ss,.nil::ts=>match fzS ss ts with
  |some r=>some (.li []::r)
  |none=>none
 |_,_=>none
section
variable {P:Program} {g:G} {s:S} {a:Act} {w:World} {H:FH} {γ:Gam} {F:Nm->Fp}
theorem CO{k:Nat}{m:Mm}:∀{ss:List Sh}{ts:List T}{xs:List D}{f:Fp}{vs:List Value},(∀b,f b=0)->fzS ss ts=some xs->Ts (TR w H γ m) ts f vs ->
  Cs (OD w H (k+1)) ss xs f vs
 |[],[],xs,_,_,hf,hz,_=>by
  simp only[fzS,acV]at hz;subst hz;exact hf
 |.fr::ss,t::ts,xs,f,vs,hf,hz,h=>by
  simp only[fzS]at hz;cases h5:fzS ss ts with
  |none=>rw[h5]at hz;cases hz
  |some r0=>
   rw[h5]at hz;simp only[acV]at hz;subst hz;obtain⟨v,r,f1,f2,h1,h2,h3,h4⟩:=h;refine⟨v,r,f1,f2,h1,h2,?_,CO (fun b=>by have:=hf b;have:=h2 b;omega) h5 h4⟩;rw[ea];refine⟨fun b=>by have:=hf b;have:=h2 b;omega,?_⟩;cases t with
   |d x=>exact h3.2
   |nil=>obtain⟨_,rfl⟩:=h3;exact kE
   |_=>exact⟨0,trivial⟩
 |.ow sub::ss,.nil::ts,xs,f,vs,hf,hz,h=>by
  simp only[fzS]at hz;cases h5:fzS ss ts with
  |none=>rw[h5]at hz;cases hz
  |some r0=>
   rw[h5]at hz;simp only[acV]at hz;subst hz;obtain⟨v,r,f1,f2,h1,h2,h3,h4⟩:=h;refine⟨v,r,f1,f2,h1,h2,?_,CO (fun b=>by have:=hf b;have:=h2 b;omega) h5 h4⟩;obtain⟨_,rfl⟩:=h3;rw[dD];exact .inl ⟨rfl,rfl,fun b=>by have:=hf b;have:=h2 b;omega⟩
 |[],_::_,_,_,_,_,hz,_=>by simp[fzS]at hz
 |.fr::_,[],_,_,_,_,hz,_=>by simp[fzS]at hz
 |.ow _::_,[],_,_,_,_,hz,_=>by simp[fzS]at hz
 |.ow _::_,.d _::_,_,_,_,_,hz,_=>by simp[fzS]at hz
 |.ow _::_,.ow _ _::_,_,_,_,_,hz,_=>by simp[fzS]at hz
 |.ow _::_,.el _ _::_,_,_,_,_,hz,_=>by simp[fzS]at hz
 |.ow _::_,.pl _::_,_,_,_,_,hz,_=>by simp[fzS]at hz
 |.ow _::_,.rf _::_,_,_,_,_,hz,_=>by simp[fzS]at hz
 |.ow _::_,.any::_,_,_,_,_,hz,_=>by simp[fzS]at hz
theorem xL(h:RX g s a w H γ F){n:Nm}(hno:n.isOut=false)(hn:aa s.m n=none){cs:Array Value}{ty':TypeId}{len cap:Nat}{sub:List Sh}{l:List (List D)}(hl:l.length=len)(hle:len<=cap)(hbig:len<=BIG)
  (hx:∀x∈l,x.length=sub.length) (hsz:cs.size=cap*sub.length) (hcs:∀k,Cs (OD w H (k+1)) (List.replicate len sub).flatten l.flatten (fun _=>0) cs.toList) :
  ∃γ' F',RX g (s.root n ⟨false,[.ow sub l]⟩) a (w.alloc (.cells cs ty')) H γ' F'/\γ' n=.gh (.slice (some ⟨w.heap.size,0,none⟩) len cap):=by
 obtain⟨hm,hf,hK,hH⟩:=pi h.mem cs ty' false;simp only[ac4,false_and,if_false]at hm hf hK hH;have hX:RX g s a (w.alloc (.cells cs ty')) H γ F:=eN h hm hf (fun i=>bT hK (fun _ _ _ h=>h) (h.t i)) (fun _=>rfl)
 have hz:tot F s.m w.heap.size=0:=by
  rcases adM (tot F s.m w.heap.size)with h'|h'
  ·exact h'
  ·have:=h.mem.lt w.heap.size kQ1;omega
 have hHz:∀o,H w.heap.size o=none:=by
  intro o;cases hc:H w.heap.size o with
  |none=>rfl
  |some y=>have:=(h.mem.agree _ _ _ hc).lt;simp at this
 have hcs':∀k,Cs (OD (w.alloc (.cells cs ty')) H (k+1)) (List.replicate len sub).flatten l.flatten (fun _=>0) cs.toList:=by
  intro k;refine kD _ _ _ _ (fun s x g v hg hod=>?_) (hcs k);exact bM (fun _ _ _ h=>h) (k+1) (k+1) _ _ _ _ (ac1 _) (fun b hb=>absurd (Nat.le_zero.1 (hg b)) hb) hod
 subst hl;have hod:TR (w.alloc (.cells cs ty')) H γ s.m (.ow sub l) (fun b=>0+if b=w.heap.size then 1 else 0) (.slice (some ⟨w.heap.size,0,none⟩) l.length cap):=
  ⟨2,xJ (bq) rfl hsz hle hbig hx (hcs' 0)⟩
 exact cR hX hno hn hod (fun b=>by
   by_cases hb:b=w.heap.size
   ·subst hb;rw[hz];simp
   ·rw[if_neg hb];have:=h.mem.le1 b;omega)
  (fun b hb=>by
   have hb':b=w.heap.size:=by
    by_cases hb':b=w.heap.size
    ·exact hb'
    ·rw[if_neg hb']at hb;simp at hb
   subst hb';exact⟨by simp,hHz⟩)
  (fun b hb=>by
   have hb':b=w.heap.size:=by
    by_cases hb':b=w.heap.size
    ·exact hb'
    ·rw[if_neg hb']at hb;simp at hb
   right;have:=h.fr.size;omega)
def jf(P:Program)(s0:S)(t:TypeId)(len:Nat)(sub:List Sh)(ps:Array (Nat×Operand))(d:Tmp)(k:S->Prop):Prop:=
 match(ty P t).k with
 |.sl e=>(ty P e).ok=true/\(zcells P e).isSome=true/\len*(ty P e).size<=16777216/\len<=16777216/\sub.length=(ty P e).size /\
  let s:=(iV s0 (ps.toList.map fun x=>ev s0 x.2)).fresh (.gh d)
  match iU (fun i=>some (i*(ty P e).size,(ty P e).size)) (List.replicate (len*(ty P e).size) .any) (kc s ps)with
  |some ts=>match fzS (List.replicate len sub).flatten ts with
   |some xs=>k ((s.root (.gh d) ⟨false,[.ow sub (chunk (ty P e).size len xs)]⟩).put (some d) (.one (.c (.rf ⟨.gh d,0,[]⟩))))
   |none=>False
  |none=>False
 |_=>False
theorem wj(h:RX g s a w H γ F){t:TypeId}{len:Nat}{ps:Array (Nat×Operand)}{d:Tmp}{sub:List Sh}{k:S->Prop}(hd:okD g.nt (some d)=true)(hp:(ps.toList.all fun x=>aw x.2)=true)(hK:jf P s t len sub ps d k) :
  ∃s' y w' H' γ' F',(Instr.buildSlice t len (ps.map fun(i,x)=>(i,a.eval x))).run P w=.ok y w'/\k s'/\RX g s' (a.put (some d) y) w' H' γ' F':=by
 unfold jf at hK;cases hk:(ty P t).k with
 |sl e=>
  rw[hk]at hK;obtain⟨hok,hzc,hsmall,hlb,hsl,hK⟩:=hK;obtain⟨_,td,hit,hud,htk,_⟩:=aR hk (by simp);have:=nG htk
  subst this;obtain⟨ie,de,hie,_⟩:=eL hok;have hsize:(ty P e).size=ie.size:=by
   obtain⟨ie',_,hie',_,_,hs,_⟩:=eL hok;rw[hie]at hie';obtain rfl:ie=ie':=by simpa using hie'
   exact hs
  obtain⟨zs,hzs⟩:=Option.isSome_iff_exists.1 hzc;obtain⟨it',z,hi',hz,_⟩:=jC hzs;rw[hie]at hi';obtain rfl:ie=it':=by simpa using hi'
  obtain⟨H1,F1,h1⟩:=jN (ps.toList.map fun x=>ev s x.2) s H F h;have h2:=bV h1 (.gh d)
  have hn:=bG h1 (.gh d)
  dsimp only at hK;generalize(iV s (ps.toList.map fun x=>ev s x.2)).fresh (.gh d)=s2 at hK h2 hn;cases hf:iU (fun i=>some (i*(ty P e).size,(ty P e).size)) (List.replicate (len*(ty P e).size) .any) (kc s2 ps)with
  |none=>rw[hf]at hK;exact hK.elim
  |some ts=>
   rw[hf]at hK;dsimp only at hK;rw[hsize]at hf hK hsmall hsl;have hpr:PR w H1 γ s2.m (kc s2 ps) (ps.map fun(i,x)=>(i,a.eval x)).toList:=by
    rw[Array.toList_map];exact rZ (m:=s2.m) h2 hp
   have hfill:∀us:Array Value,us.size=len*ie.size->∃cs,Instr.fill (fun i=>some (i*ie.size,ie.size)) us (ps.map fun(i,x)=>(i,a.eval x)).toList=some cs/\cs.size=ts.length/\Ts (TR w H1 γ s2.m) ts (fun _=>0) cs.toList:=by
    intro us hus;refine wF h2.mem _ _ _ us ts hpr (by simpa using hus) ?_ hf;have:=KU (w:=w) (H:=H1) (γ:=γ) (m:=s2.m) (vs:=us.toList)
    rw[show us.toList.length=len*ie.size from by simpa using hus]at this;exact this
   have hlen:ts.length=len*ie.size:=by rw[m5 hf];simp
   obtain⟨us,cs,u1,u2,u3⟩:=iP (P:=P) (w:=w) (t:=t) (e:=e) (len:=len) (vs:=ps.map fun(i,x)=>(i,a.eval x)) (cells:=#[]) hud hie hz kQ1 (fun us hus=>by
    obtain⟨cs,c1,c2,_⟩:=hfill us hus;exact⟨cs,c1,by rw[c2,hlen],.inr trivial⟩)
   obtain⟨cs',c1,c2,c3⟩:=hfill us u1;rw[u2]at c1;obtain rfl:cs=cs':=by simpa using c1
   cases hz2:fzS (List.replicate len sub).flatten ts with
   |none=>rw[hz2]at hK;exact hK.elim
   |some xs=>
    rw[hz2]at hK;dsimp only at hK;have hcs:∀k,Cs (OD w H1 (k+1)) (List.replicate len sub).flatten xs (fun _=>0) cs.toList:=fun k=>CO (fun _=>rfl) hz2 c3
    have hmap:xs.length=len*ie.size:=by
     have h5:=(Bq _ _ _ _ (hcs 0)).1
     rw[<- h5,bO sub.length _ (fun x hx=>by rw[(List.mem_replicate.1 hx).2]),aeQ,hsl]
    obtain⟨γ',F',hX,hγ⟩:=xL h2 (n:=.gh d) rfl hn (cs:=cs) (ty':=e) (len:=len) (cap:=len) (sub:=sub) (l:=chunk ie.size len xs) mY (ac1 _) (by
      show len<=2 ^ 62
      omega) (by rw[hsl];exact uB hmap) (by rw[c2,hlen,hsl]) (fun k=>by
       rw[qW hmap];exact hcs k)
    refine⟨_,_,_,H1,γ',F',u3,hK,RX.put hX hd (fJ (sub:=sub) (l:=chunk ie.size len xs) ?_ hγ)⟩;simp[S.root,aa]
 |_=>rw[hk]at hK;exact hK.elim
end
abbrev upS(k:St->Prop):S->Prop:=fun s'=>∃t:St,SEq s' t.toS/\k t
theorem Nd{P:Program}{t:TypeId}{zs:List Value}(h:zcells P t=some zs):zs.all okT=true:=by
 unfold zcells at h;split at h
 ·split at h
  ·split at h
   ·rename_i hz;simp only[acV]at h;subst h;simpa using hz
   ·cases h
  ·cases h
 ·cases h
section
variable {P:Program} {s:St} {k:St->Prop}
theorem PD{t:TypeId}{d:Tmp}(hn:ND s.m)(h:og P s t d k):ui P s.toS t d (upS k):=by
 unfold og at h;split at h
 ·rename_i z zs hz;split at h
  ·rename_i hd;unfold ui;rw[hz];refine⟨by simp,ac5 hd,_,?_,h⟩;have e:((s.fresh (kw t d)).root (kw t d) ⟨true,(z::zs).map oz,none⟩).toS=(s.toS.fresh (kw t d)).root (kw t d) ⟨true,(z::zs).map p7⟩:=by
    rw[<- br hn,<- On (Nd hz)];rfl
   rw[<- e];exact aD ((s.fresh (kw t d)).root (kw t d) ⟨true,(z::zs).map oz,none⟩) (some d) (.one (.c (.pl ⟨kw t d,0,[]⟩)))
  ·exact h.elim
 ·exact h.elim
theorem Wq{x:Operand}{d:Tmp}(hn:ND s.m)(hx:aw x=true)(h:Gw s x d k):PP s.toS x d (upS k):=by
 unfold Gw at h;split at h
 ·rename_i t ts hc;split at h
  ·rename_i hd;simp only[acX]at hd;unfold PP;rw[<- br hn,ae hx,qV,hc];dsimp only[Option.map_some];refine⟨by simp,?_,ac5 hd.2,_,?_,h⟩
   ·rw[afM,<- hd.1];congr 1;funext t;exact Jw t
   ·exact aD ((s.fresh (.loc d)).root (.loc d) ⟨true,t::ts,none⟩) (some d) (.one (.c (.pl ⟨.loc d,0,[]⟩)))
  ·exact h.elim
 ·exact h.elim
theorem Ox{u:U}{t:Tt}{x:El u}(h:Ao u t=some x):t.toT.fz=(aj u x).toD:=by
 unfold Ao at h;split at h
 ·split at h
  ·simp only[acV]at h;subst h;rfl
  ·cases h
 ·rename_i c _;rw[cv h];rfl
 ·split at h
  ·simp only[acV]at h;subst h;rfl
  ·cases h
 ·cases h
theorem Ib:∀{us:List U}{ts:List Tt}{x:Fl us},kN us ts=some x->ts.map (fun t=>t.toT.fz)=(dG us x).map C.toD
 |[],[],_,_=>rfl
 |u::r,c::cs,x,h=>by
  simp only[kN]at h;cases h1:Ao u c with
  |none=>rw[h1]at h;cases h
  |some y=>
   cases h2:kN r cs with
   |none=>rw[h1,h2]at h;cases h
   |some z=>
    rw[h1,h2]at h;simp only[acV]at h;subst h;rw[dG,sK,tw,List.map_cons,List.map_cons,Ox h1,Ib h2]
 |[],_::_,_,h=>by simp[kN]at h
 |_::_,[],_,h=>by simp[kN]at h
theorem W6{u:U}{ts:List Tt}{x:El u}(h:gz u ts=some x):ts.map (fun t=>t.toT.fz)=al u x:=by
 rw[<- bm];cases u with
 |st n=>
  simp only[gz]at h;cases h1:kN (sd n).fs ts with
  |none=>rw[h1]at h;cases h
  |some y=>
   rw[h1]at h;have:=Option.some.inj h
   subst this;show _=(dG (sd n).fs ((sd n).un ((sd n).mkF y))).map C.toD
   rw[(sd n).l2,Ib h1]
 |_=>
  cases ts with
  |nil=>cases h
  |cons t r=>cases r with
   |nil=>rw[jv rfl];simp only[List.map_cons,List.map_nil];rw[Ox h]
   |cons _ _=>cases h
theorem m8{u:U}:∀{rows:List (List Tt)}{l:List (El u)},fR u rows=some l->rows.map (fun r=>r.map fun t=>t.toT.fz)=l.map (al u)
 |[],l,h=>by simp only[fR,acV]at h;subst h;rfl
 |r::rs,l,h=>by
  simp only[fR]at h;cases h1:gz u r with
  |none=>rw[h1]at h;cases h
  |some x=>
   cases h2:fR u rs with
   |none=>rw[h1,h2]at h;cases h
   |some xs=>
    rw[h1,h2]at h;simp only[acV]at h;subst h;rw[List.map_cons,List.map_cons,W6 h1,m8 h2]
theorem uA{α β:Type}(f:α->β)(size:Nat):∀(n:Nat)(l:List α),chunk size n (l.map f)=(chunk size n l).map (·.map f)
 |0,_=>rfl
 |n+1,l=>by simp only[chunk,List.map_cons,ae8];rw[<- afK,uA f size n]
theorem FT{ps:Array (Nat×Operand)}(h:(dN s ps).all (fun x=>x.2.noRf)=true):(ps.toList.map fun x=>evA s x.2).all At.noRf=true:=by
 unfold dN at h;rw[afM]at h⊢;exact h
theorem Ot{xs:List (Nat×Operand)}(h:(xs.all fun x=>aw x.2)=true):(xs.map fun x=>ev s.toS x.2)=(xs.map fun x=>evA s x.2).map At.toV:=by
 rw[adD];exact adG fun x hx=>ae (adC.1 h x hx)
theorem yi{E:Ut}{t:TypeId}{len:Nat}{ps:Array (Nat×Operand)}{d:Tmp}(hps:(ps.toList.all fun x=>aw x.2)=true)
  (hn:ND (bt s (ps.toList.map fun x=>evA s x.2)).m) (h:db P E s t len ps d k):fA P (bt s (ps.toList.map fun x=>evA s x.2)).toS t len ps d (upS k):=by
 unfold db at h;split at h
 ·rename_i e ht;split at h
  ·rename_i u z he hz;split at h
   ·rename_i hc;simp only[acX]at hc;obtain⟨⟨⟨c1,c2⟩,c3⟩,c4⟩:=hc;have hsz:=ac7 c2
    dsimp only at h;generalize hs1:bt s (ps.toList.map fun x=>evA s x.2)=s1 at h hn;split at h
    ·rename_i ts hf hno;split at h
     ·rename_i l hl;unfold fA;rw[ht];dsimp only;refine⟨c1,by rw[hz];rfl,by rw[<- hsz];exact ac5 c3,ac5 c4,?_⟩;rw[Ot hps,dj (FT hno),<- br hn,uV hps,<- hsz];have hf':=pC hf
      rw[List.map_replicate]at hf';have e0:Tt.any.toT=T.any:=rfl
      rw[e0]at hf';rw[hf'];dsimp only;refine⟨_,?_,h⟩;have er:(⟨false,[.ow (List.replicate (nc u) .fr) u l],none⟩:Rt).toR=⟨false,[.ow (List.replicate (nc u) .fr) (chunk (nc u) len ((ts.map Tt.toT).map T.fz))]⟩:=by
       have e2:chunk (nc u) len ((ts.map Tt.toT).map T.fz)=l.map (al u):=by rw[adD,uA];exact m8 hl
       rw[e2];rfl
      rw[<- er];exact aD ((s1.fresh (.gh d)).root (.gh d) ⟨false,[.ow (List.replicate (nc u) .fr) u l],none⟩) (some d) (.one (.c (.rf ⟨.gh d,0,[]⟩)))
     ·exact h.elim
    ·exact h.elim
   ·exact h.elim
  ·exact h.elim
 ·exact h.elim
theorem th:∀{ss:List Sh}{ts:List Tt},mC ss ts=true->fzS ss (ts.map Tt.toT)=some (ts.map fun t=>t.toT.fz)
 |[],[],_=>rfl
 |.fr::r,t::ts,h=>by
  simp only[List.map_cons,fzS];rw[th (show mC r ts=true from h)]
 |.ow sub::r,t::ts,h=>by
  cases t with
  |nil=>
   simp only[List.map_cons,Tt.toT,fzS];rw[th (show mC r ts=true from h)];rfl
  |_=>simp[mC]at h
 |[],_::_,h=>by simp[mC]at h
 |.fr::_,[],h=>by simp[mC]at h
 |.ow _::_,[],h=>by simp[mC]at h
theorem wk{E:Ut}{sub:List Sh}{t:TypeId}{len:Nat}{ps:Array (Nat×Operand)}{d:Tmp}(hps:(ps.toList.all fun x=>aw x.2)=true)
  (hn:ND (bt s (ps.toList.map fun x=>evA s x.2)).m) (h:cC P E sub s t len ps d k):jf P (bt s (ps.toList.map fun x=>evA s x.2)).toS t len sub ps d (upS k):=by
 unfold cC at h;split at h
 ·rename_i e ht;split at h
  ·rename_i u z he hz;split at h
   ·rename_i hc;simp only[acX]at hc;obtain⟨⟨⟨⟨c1,c2⟩,c3⟩,c4⟩,c5⟩:=hc;have hsz:=ac7 c2
    dsimp only at h;generalize hs1:bt s (ps.toList.map fun x=>evA s x.2)=s1 at h hn;split at h
    ·rename_i ts hf hno;split at h
     ·rename_i l hl hsub;unfold jf;rw[ht];dsimp only;refine⟨c1,by rw[hz];rfl,by rw[<- hsz];exact ac5 c3,ac5 c4,by rw[<- hsz];exact ac7 c5,?_⟩;rw[Ot hps,dj (FT hno),<- br hn,uV hps,<- hsz];have hf':=pC hf
      rw[List.map_replicate]at hf';have e0:Tt.any.toT=T.any:=rfl
      rw[e0]at hf';rw[hf'];dsimp only;rw[th hsub];dsimp only;refine⟨_,?_,h⟩;have er:(⟨false,[.ow sub u l],none⟩:Rt).toR=⟨false,[.ow sub (chunk (nc u) len (ts.map fun t=>t.toT.fz))]⟩:=by
       have e2:chunk (nc u) len (ts.map fun t=>t.toT.fz)=l.map (al u):=by rw[uA];exact m8 hl
       rw[e2];rfl
      rw[<- er];exact aD ((s1.fresh (.gh d)).root (.gh d) ⟨false,[.ow sub u l],none⟩) (some d) (.one (.c (.rf ⟨.gh d,0,[]⟩)))
     ·exact h.elim
    ·exact h.elim
   ·exact h.elim
  ·exact h.elim
 ·exact h.elim
theorem xI{m:List (Nm×Nat×Rt)}{n:Nm}{i:Nat}{r:Rt}(h:ND m):ND (cu m n i r):=by
 unfold ND;rw[Cg];exact h
theorem Q7(t:Tt):t.toT.owned=t.owned:=by cases t<;>rfl
theorem OS{p:Pl}{t:Tt}(h:AQ s p t k)(hn:ND s.m):∃m',(∀K:Mm->Prop,K m'->rv s.toS.m p t.toT K)/\∃s':St,s'.toS=⟨s.toS.t,m'⟩/\ND s'.m/\k s':=by
 unfold AQ at h;split at h
 ·exact h.elim
 ·rename_i r hr;split at h
  ·rename_i t0 hpath hh hc;split at h
   ·rename_i ho;have ec:r.toR.cells=r.cells.map Tt.toT:=by show holed _ r.hole=_;rw[hh];rfl
    refine⟨bA s.toS.m p.root ⟨r.blk,(r.cells.map Tt.toT).set p.off t.toT⟩,fun K hK=>?_,_,?_,xI hn,h⟩
    ·unfold rv;rw[show aa s.toS.m p.root=some r.toR from aP hr];dsimp only;rw[hpath,ec,acZ,hc];exact⟨by rw[Q7];exact ho,hK⟩
    refine aY.S_ext rfl ?_;show toM (cu s.m p.root s.nx _)=_
    rw[dO]
    congr 1
    simp only[Rt.toR,hh,holed,ad0]
   ·exact h.elim
  ·rename_i st q sub u l hpath hh hc;split at h
   ·rename_i l' hl;have ec:r.toR.cells=r.cells.map Tt.toT:=by show holed _ r.hole=_;rw[hh];rfl
    refine⟨bA s.toS.m p.root ⟨r.blk,(r.cells.map Tt.toT).set p.off (.ow sub (l'.map (al u)))⟩,fun K hK=>?_,_,?_,xI hn,Ee h⟩
    ·unfold rv;rw[show aa s.toS.m p.root=some r.toR from aP hr];dsimp only;rw[hpath,ec,acZ,hc];exact Jo h hl hK
    refine aY.S_ext rfl ?_;show toM (cu s.m p.root s.nx _)=_
    rw[dO]
    congr 1
    simp only[Rt.toR,hh,holed,ad0,Tt.toT]
   ·exact h.elim
  ·rename_i st q off st' q' sub u l hpath hh hc;split at h
   ·rename_i sh v lv hb;split at h
    ·rename_i l' hl;have hoff:off=p.off:=ac7 hb
     subst hoff;obtain⟨epath,hk⟩:=BZ (Ee h);have hlt:p.off < (r.cells.map Tt.toT).length:=by rw[acY];exact ah hc
     simp only[List.cons.injEq]at epath;obtain⟨rfl,rfl⟩:=epath;have ec:r.toR.cells=(r.cells.map Tt.toT).set p.off (.ow sub (bD sub (l.map (al u)) .any (st'::q'))):=by
      show holed _ r.hole=_
      rw[hh];exact Ih _ _ hc
     refine⟨bA s.toS.m p.root ⟨r.blk,(r.cells.map Tt.toT).set p.off (.ow sub (l'.map (al u)))⟩,fun K hK=>?_,_,?_,xI hn,hk⟩
     ·unfold rv;rw[show aa s.toS.m p.root=some r.toR from aP hr];dsimp only;rw[hpath,ec,adL hlt];refine GX h hl ?_;rw[aeW];exact hK
     refine aY.S_ext rfl ?_;show toM (cu s.m p.root s.nx _)=_
     rw[dO]
     congr 1
     simp only[Rt.toR,holed,ad0,Tt.toT]
    ·exact h.elim
   ·exact h.elim
  ·exact h.elim
theorem UK(n:Nm)(t:Tt):t.toT.ment n=t.ment n:=by cases t<;>rfl
theorem rF{K:S->Prop}(hK:∀t:St,k t->K t.toS):∀{ts:List Tt}{s:St}{p:Pl},ND s.m->fZ s p ts k->cH s.toS p (ts.map Tt.toT) K
 |[],s,p,hn,h=>hK s h
 |t::ts,s,p,hn,h=>by
  have gen:∀t:Tt,(∀q,t≠.rf q)->t≠.any->t≠.d .any->AQ s p t (fun s'=>fZ s' (p.add 1) ts k)->cH s.toS p (t.toT::ts.map Tt.toT) K:=by
   intro t h1 h2 h3 h;obtain⟨m',hp,s',e,hn',hk⟩:=OS h hn;have key:cH s.toS p (t.toT::ts.map Tt.toT) K=rv s.toS.m p t.toT fun m'=>cH ⟨s.toS.t,m'⟩ (p.add 1) (ts.map Tt.toT) K:=by
    cases t with
    |rf q=>exact(h1 q rfl).elim
    |any=>exact(h2 rfl).elim
    |d c=>cases c with
     |any=>exact(h3 rfl).elim
     |_=>rfl
    |_=>rfl
   rw[key];refine hp _ ?_;rw[<- e];exact rF hK hn' hk
  cases t with
  |rf q=>
   simp only[fZ]at h;split at h
   ·rename_i sub u l hr;split at h
    ·rename_i hpath hroot hall;simp only[List.map_cons,Tt.toT,cH];rw[show aa s.toS.m q.root=some (⟨false,[.ow sub u l],none⟩:Rt).toR from aP hr];refine⟨hpath,by simpa using hroot,?_,?_⟩
     ·rw[afM,<- hall];congr 1;funext t;simp only[Function.comp,UK]
     ·rw[<- aY hn];obtain⟨m',hp,s',e,hn',hk⟩:=OS h (NP hn);refine hp _ ?_;rw[<- e];exact rF hK hn' hk
    ·exact h.elim
   ·exact h.elim
  |any=>exact h.elim
  |d c=>cases c with
   |any=>exact h.elim
   |_=>exact gen _ (fun _ h=>by cases h) (fun h=>by cases h) (fun h=>by cases h) h
  |_=>exact gen _ (fun _ h=>by cases h) (fun h=>by cases h) (fun h=>by cases h) h
theorem Mw{K:S->Prop}(hK:∀t:St,k t->K t.toS){p:Pl}{ts:List Tt}(hne:ts≠[])(h:lh s p ts k):cH s.toS p (ts.map Tt.toT) K:=by
 unfold lh at h;split at h
 ·exact h.elim
 ·rename_i r hr;split at h
  ·rename_i st q sub u l hpath hh hc;split at h
   ·rename_i l' hl;have ec:r.toR.cells=r.cells.map Tt.toT:=by show holed _ r.hole=_;rw[hh];rfl
    obtain⟨a1,a2⟩:=Cz hl;refine vW (aP hr) hpath (sub:=sub) (l:=l.map (al u)) (by rw[ec,acZ,hc];rfl) a2 a1 (Jp hne h hl ?_);have hk:=hK _ (Ee h)
    have e:(⟨s.nx+1,s.t,cu s.m p.root s.nx { r with cells:=r.cells.set p.off (.ow sub u l') }⟩:St).toS=⟨s.toS.t,bA s.toS.m p.root { r.toR with cells:=r.toR.cells.set p.off (.ow sub (l'.map (al u))) }⟩:=by
     refine aY.S_ext rfl ?_;show toM (cu s.m p.root s.nx _)=_
     rw[dO]
     congr 1
     simp only[Rt.toR,hh,holed,ad0,Tt.toT]
    rw[e]at hk;exact hk
   ·exact h.elim
  ·exact h.elim
theorem Rp{K:S->Prop}(hK:∀t:St,k t->K t.toS){t:TypeId}{x v:At}(hn:ND s.m)(h:oZ P s t x v k):ve P s.toS t x.toV v.toV K:=by
 unfold oZ at h;split at h
 ·rename_i p ts hv;split at h
  ·rename_i hc;simp only[acX]at hc;unfold ve;rw[qV,hv];refine⟨hc.1.1,by rw[acY];exact ac7 hc.1.2,by rw[acY];exact oF hc.2,?_⟩;split at h
   ·rename_i hrow;refine Mw hK (fun e=>?_) h;subst e;simp[Vn,Nat.blt]at hrow
   ·exact rF hK hn h
  ·exact h.elim
 ·exact h.elim
theorem X1{u:U}{v:At}{l:List (El u)}{size:Nat}(hs:nc u=size)(h:X0 u v=some l):jm size v.toV=some (l.map (al u))/\v.noRf=true:=by
 unfold X0 at h;split at h
 ·simp only[acV]at h;subst h;exact⟨rfl,rfl⟩
 ·rename_i u' l';obtain⟨e,rfl⟩:=ij h;subst e;exact⟨rfl,rfl⟩
 ·rename_i b;split at h
  ·simp only[acV]at h;subst h;have:size=1:=hs.symm
   simp only[At.toV,A1.toV,Tt.toT,C.toD,jm];rw[if_pos this];exact⟨rfl,rfl⟩
  ·cases h
 ·cases h
theorem GL{m:List (Nm×Nat×Rt)}{q:Pl}{r:Rt}{t:Tt}(hr:be m q.root=some r)(hp:q.path=[])(h:atT m q 1=some [t]):r.cells[q.off]? = some t:=by
 unfold atT at h;rw[hr]at h;dsimp only at h;rw[hp]at h;dsimp only at h;split at h
 ·rename_i hb;simp only[acV]at h;have:=congrArg (·[0]?) h
  simpa[List.getElem?_take,adS]using this
 ·cases h
theorem l4{u:U}{v:At}{s':St}{sub:List Sh}{l:List (El u)}{size:Nat}(hs:nc u=size)(hn:ND s.m)(hop:∀q,v=.one (.c (.rf q))->okP (toM s.m) q)(h:jR s u v=some (s',sub,l)) :
  ig s.toS size v.toV=some (s'.toS,sub,l.map (al u))/\ND s'.m/\Ext s s':=by
 unfold jR at h;split at h
 ·simp only[acV,Prod.mk.injEq]at h;obtain⟨rfl,rfl,rfl⟩:=h;exact⟨by rw[<- hs];rfl,hn,Ext.refl _⟩
 ·rename_i q;split at h
  ·rename_i sub' u' l' hsl;split at h
   ·rename_i l2 s2 hcast hlen htake;simp only[acV,Prod.mk.injEq]at h;obtain⟨rfl,rfl,rfl⟩:=h;obtain⟨e,rfl⟩:=ij hcast;subst e;unfold Vv at htake;split at htake
    ·cases htake
    ·rename_i r hr;split at htake
     ·rename_i hpath hh;simp only[acV]at htake;have ht:atT s.m q 1=some [.ow sub' u' l']:=by
       unfold sliceAt at hsl;split at hsl
       ·rename_i a b c hat;cases hsl;exact hat
       ·cases hsl
      have hc:=GL hr hpath ht
      have egr:aa s.toS.m q.root=some r.toR:=aP hr
      have ecs:r.toR.cells=r.cells.map Tt.toT:=by show holed _ r.hole=_;rw[hh];rfl
      have egp:aS s.toS.m q=some (.ow sub' (l'.map (al u'))):=by
       unfold aS;rw[egr,hpath];dsimp only;rw[ecs,acZ,hc];rfl
      refine⟨?_,?_,?_⟩
      ·simp only[At.toV,A1.toV,Tt.toT,ig];rw[egp];dsimp only;rw[if_pos (by rw[<- hs];exact ac7 hlen)]
       congr 2
       rw[<- htake];refine aY.S_ext (jz _ _ _).symm ?_;show _=toM (bH (thr q) s.nx (cu s.m q.root s.nx _))
       rw[cN,dO]
       congr 1
       unfold bg;rw[egr,hpath];dsimp only;show bA (toM s.m) q.root _=_
       congr 1
       simp only[Rt.toR,hh,holed,ad0,Tt.toT]
      ·rw[<- htake];exact Db.2 (xI hn)
      ·rw[<- htake];exact⟨ad3 _,fq (ac1 _),(cx _ _ (ac1 _) s.m).trans (cQ (ac1 _))⟩
     ·rename_i st pa hpath hh;simp only[acV]at htake;have ht:atT s.m q 1=some [.ow sub' u' l']:=by
       unfold sliceAt at hsl;split at hsl
       ·rename_i a b c hat;cases hsl;exact hat
       ·cases hsl
      have egr:aa s.toS.m q.root=some r.toR:=aP hr
      have ecs:r.toR.cells=r.cells.map Tt.toT:=by show holed _ r.hole=_;rw[hh];rfl
      have hq:=hop q rfl
      unfold okP at hq;rw[hpath]at hq;obtain⟨r2,sub2,l2,g1,g2,g3⟩:=hq;have er2:r2=r.toR:=Option.some.inj (g1.symm.trans egr)
      subst er2;unfold atT at ht;rw[hr]at ht;dsimp only at ht;rw[hpath]at ht;dsimp only at ht;split at ht
      ·rename_i sub0 u0 l0 _ hc;rw[ecs,acZ,hc]at g2;simp only[Option.map_some,acV,Tt.toT,T.ow.injEq]at g2;obtain⟨rfl,rfl⟩:=g2;have hlk:=yN g3 ht
       have egp:aS s.toS.m q=some (.ow sub' (l'.map (al u'))):=by
        unfold aS;rw[egr];dsimp only;rw[hpath];dsimp only;rw[ecs,acZ,hc];simp only[Option.map_some,Tt.toT];rw[hlk]
       refine⟨?_,?_,?_⟩
       ·simp only[At.toV,A1.toV,Tt.toT,ig];rw[egp];dsimp only;rw[if_pos (by rw[<- hs];exact ac7 hlen)]
        congr 2
        rw[<- htake];refine aY.S_ext (jz _ _ _).symm ?_;show _=toM (bH (thr q) s.nx (cu s.m q.root s.nx _))
        rw[cN,dO]
        congr 1
        unfold bg;rw[egr];dsimp only;rw[hpath];dsimp only;rw[ecs,acZ,hc];show bA (toM s.m) q.root _=_
        congr 1
        simp only[Rt.toR,Option.map_some,Tt.toT,T.toD];rw[Ih _ _ hc]
       ·rw[<- htake];exact Db.2 (xI hn)
       ·rw[<- htake];exact⟨ad3 _,fq (ac1 _),(cx _ _ (ac1 _) s.m).trans (cQ (ac1 _))⟩
      ·cases ht
     ·cases htake
   ·cases h
  ·cases h
 ·cases h
theorem XU:∀n:Sn,(sd n).fs.all leaf=true:=by intro n;cases n<;>rfl
theorem BU{u:U}(h:leaf u=true)(x:El u):(aj u x).toD.sure=true:=by
 cases u with
 |st n=>cases h
 |_=>rfl
theorem yv:∀{us:List U}(_:us.all leaf=true)(x:Fl us),∀d∈(dG us x).map C.toD,d.sure=true
 |[],_,_,d,hd=>by simp[dG]at hd
 |u::r,h,x,d,hd=>by
  simp only[adE,acX]at h;simp only[dG,List.map_cons,ac8]at hd;rcases hd with rfl|hd
  ·exact BU h.1 _
  ·exact yv h.2 _ d hd
theorem GO{u:U}(x:El u):∀d∈al u x,d.sure=true:=by
 rw[<- bm];cases u with
 |st n=>exact yv (XU n) _
 |_=>intro d hd;rw[jv rfl]at hd;simp only[List.map_cons,List.map_nil,ac9]at hd;subst hd;exact BU rfl _
theorem K4{E:Ut}{t u0:TypeId}{x y:Operand}{d:Tmp}(hx:aw x=true)(hy:aw y=true)(hn:ND (ef s (evA s y)).m)(hop:∀q,evA (ef s (evA s y)) x=.one (.c (.rf q))->okP (toM (ef s (evA s y)).m) q)(h:kJ P E s t u0 x y d k):px P (ef s (evA s y)).toS t u0 x y d (upS k):=by
 unfold kJ at h;dsimp only at h;generalize hs1:ef s (evA s y)=s1 at h hn hop;split at h
 ·rename_i e ht;split at h
  ·rename_i u z he hz;split at h
   ·rename_i hc;simp only[acX]at hc;obtain⟨⟨⟨c1,c2⟩,c3⟩,c4⟩:=hc;have hsz:=ac7 c4
    split at h
    ·rename_i ys s2 sub l hsrc hbase;split at h
     ·rename_i hsub;obtain⟨⟨h1,h2⟩,h3⟩:=h;obtain⟨k1,k2⟩:=X1 hsz hsrc;obtain⟨b1,b2,_⟩:=l4 hsz hn hop hbase;unfold px;dsimp only;rw[ae hy,uG k2,ht];dsimp only;refine⟨c1,c2,by rw[hz];simp only[Option.map_some];rw[ac7 c3],?_⟩;rw[ae hy,ae hx,k1,b1];dsimp only;refine⟨hsub,?_,by rw[acY,acY];exact h1,by rw[acY,acY];exact h2,_,?_,h3⟩
      ·intro r hr;obtain⟨z',_,rfl⟩:=adR.1 hr;exact⟨by rw[il];exact hsz,GO z'⟩
      ·rw[<- br b2];have er:(⟨false,[.ow sub u (l++ys)],none⟩:Rt).toR=⟨false,[.ow sub (l.map (al u)++ys.map (al u))]⟩:=by
        rw[<- aeN];rfl
       rw[<- er];exact aD ((s2.fresh (.gh d)).root (.gh d) ⟨false,[.ow sub u (l++ys)],none⟩) (some d) (.one (.c (.rf ⟨.gh d,0,[]⟩)))
     ·exact h.elim
    ·exact h.elim
   ·exact h.elim
  ·exact h.elim
 ·exact h.elim
theorem Gm{E:Ut}{t u0:TypeId}{x y:Operand}{d:Tmp}(hx:aw x=true)(hy:aw y=true)(hn:ND s.m)(hopy:∀q,evA s y=.one (.c (.rf q))->okP (toM s.m) q)
  (hopx:∀(size:Nat)(s1:St)(sub:List Sh)(l:List (List D))q,ND s1.m->ig s.toS size (evA s y).toV=some (s1.toS,sub,l)->evA s1 x=.one (.c (.rf q))->okP (toM s1.m) q) (h:ia P E s t u0 x y d k):sA P s.toS t u0 x y d (upS k):=by
 unfold ia at h;split at h
 ·rename_i e ht;split at h
  ·rename_i u z he hz;split at h
   ·rename_i hc;simp only[acX]at hc;obtain⟨⟨⟨c1,c2⟩,c3⟩,c4⟩:=hc;have hsz:=ac7 c4
    split at h
    ·rename_i s1 sub1 ys hby;split at h
     ·rename_i s2 sub l hbx;split at h
      ·rename_i hsub;obtain⟨⟨h1,h2⟩,h3⟩:=h;obtain⟨a1,a2,_⟩:=l4 hsz hn hopy hby;obtain⟨b1,b2,_⟩:=l4 hsz a2 (fun q hq=>hopx _ s1 _ _ q a2 a1 hq) hbx;unfold sA;rw[ht];dsimp only;refine⟨c1,c2,by rw[hz];simp only[Option.map_some];rw[ac7 c3],?_⟩;rw[ae hy,a1];dsimp only;rw[ae hx,b1];dsimp only;have hlen:sub1.length=nc u:=by
        unfold jR at hby;split at hby
        ·simp only[acV,Prod.mk.injEq]at hby;obtain⟨_,rfl,_⟩:=hby;simp
        ·split at hby
         ·split at hby
          ·rename_i hb _;simp only[acV,Prod.mk.injEq]at hby;obtain⟨_,rfl,_⟩:=hby;exact ac7 hb
          ·cases hby
         ·cases hby
        ·cases hby
       refine⟨jB hsub,?_,by rw[acY,acY];exact h1,by rw[acY,acY];exact h2,_,?_,h3⟩
       ·intro r hr;obtain⟨z',_,rfl⟩:=adR.1 hr;exact⟨by rw[il,hlen],GO z'⟩
       ·rw[<- br b2];have er:(⟨false,[.ow sub u (l++ys)],none⟩:Rt).toR=⟨false,[.ow sub (l.map (al u)++ys.map (al u))]⟩:=by
         rw[<- aeN];rfl
        rw[<- er];exact aD ((s2.fresh (.gh d)).root (.gh d) ⟨false,[.ow sub u (l++ys)],none⟩) (some d) (.one (.c (.rf ⟨.gh d,0,[]⟩)))
      ·exact h.elim
     ·exact h.elim
    ·exact h.elim
   ·exact h.elim
  ·exact h.elim
 ·exact h.elim
end
end Go.Am
end
