/-
  Part 13: AmIter · AmE3 · AmE3b · AmE3c · AmE3d · AmE20 · AmAppTwo · AmBuildTwo · AmE3e.
-/
import Derived.Test.YtgpedlcblhiklaaGreatDoorVo12
import Derived.Shelf.SlIter.Nil
import Derived.Shelf.SortM.Plain
import Derived.Shelf.SortM.SortNone
import Derived.Shelf.SlMaps.Clone
set_option linter.unusedSimpArgs false
set_option linter.unusedVariables false
set_option linter.unusedSectionVars false
set_option linter.unnecessarySimpa false
open Go.Proofs.Tryz
section
namespace Go.Proofs
open Go.RowKit Go.Maps Go.Sort Go.Shelf
def Tryz.keys210_ren:Go.Shelf.Ren:=⟨fun|7=>200|10=>224|n=>n,fun|23=>228|26=>9|3=>4|28=>136|0=>0|27=>135|33=>148|4=>4|n=>n,fun|n=>n⟩
theorem Tryz.keys210:Go.Proofs.SlLaysZ.n7 prog Tryz.keys210_ren:={
 mixed:=by rfl
 f7:=⟨f200.name,by decide,func200.trans (congrArg some (by rfl))⟩
 f10:=⟨f224.name,by decide,func224.trans (congrArg some (by rfl))⟩
 t0:=underlying0
 a0:=isAgg0
 z0:=sizeOf0
 v0:=zeroValue0
 t4:=underlying4
 a4:=isAgg4
 z4:=sizeOf4
 v4:=zeroValue4
 t23:=underlying228
 a23:=isAgg228
 z23:=sizeOf228
 v23:=zeroValue228
 t26:=underlying9
 a26:=isAgg9
 z26:=sizeOf9
 v26:=zeroValue9
 t27:=underlying135
 a27:=isAgg135
 z27:=sizeOf135
 v27:=zeroValue135
 t28:=underlying136
 a28:=isAgg136
 z28:=sizeOf136
 v28:=zeroValue136
 t33:=underlying148
 a33:=isAgg148
 z33:=sizeOf148
 v33:=zeroValue148 }
def Tryz.keysA_ren:Go.Shelf.Ren:=⟨fun|7=>73|10=>124|n=>n,fun|23=>119|26=>9|3=>4|28=>136|0=>0|27=>135|33=>148|4=>4|n=>n,fun|n=>n⟩
theorem Tryz.keysA:Go.Proofs.SlLaysZ.n7 prog Tryz.keysA_ren:={
 mixed:=by rfl
 f7:=⟨f73.name,by decide,func73.trans (congrArg some (by rfl))⟩
 f10:=⟨f124.name,by decide,func124.trans (congrArg some (by rfl))⟩
 t0:=underlying0
 a0:=isAgg0
 z0:=sizeOf0
 v0:=zeroValue0
 t4:=underlying4
 a4:=isAgg4
 z4:=sizeOf4
 v4:=zeroValue4
 t23:=underlying119
 a23:=isAgg119
 z23:=sizeOf119
 v23:=zeroValue119
 t26:=underlying9
 a26:=isAgg9
 z26:=sizeOf9
 v26:=zeroValue9
 t27:=underlying135
 a27:=isAgg135
 z27:=sizeOf135
 v27:=zeroValue135
 t28:=underlying136
 a28:=isAgg136
 z28:=sizeOf136
 v28:=zeroValue136
 t33:=underlying148
 a33:=isAgg148
 z33:=sizeOf148
 v33:=zeroValue148 }
def Tryz.sorted209_ren:Go.Shelf.Ren:=⟨fun|6=>72|8=>122|9=>123|11=>176|13=>178|12=>177|23=>212|24=>213|14=>203|15=>204|16=>205|17=>206|18=>207|19=>208|20=>209|21=>210|22=>211|25=>226|26=>227|27=>228|28=>229|29=>230|30=>231|31=>236|n=>n,fun|26=>9|28=>136|24=>47|0=>0|3=>3|37=>241|48=>280|50=>247|4=>4|40=>274|39=>273|45=>180|5=>5|9=>9|51=>293|55=>297|57=>301|58=>302|33=>148|n=>n,fun|n=>n⟩
theorem Tryz.sorted209:Go.Proofs.SlLaysZ.n6 prog Tryz.sorted209_ren:={
 mixed:=by rfl
 f6:=⟨f72.name,by decide,func72.trans (congrArg some (by rfl))⟩
 f8:=⟨f122.name,by decide,func122.trans (congrArg some (by rfl))⟩
 f11:=⟨f176.name,by decide,func176.trans (congrArg some (by rfl))⟩
 t0:=underlying0
 a0:=isAgg0
 z0:=sizeOf0
 v0:=zeroValue0
 t24:=underlying47
 a24:=isAgg47
 z24:=sizeOf47
 v24:=zeroValue47
 t26:=underlying9
 a26:=isAgg9
 z26:=sizeOf9
 v26:=zeroValue9
 t28:=underlying136
 a28:=isAgg136
 z28:=sizeOf136
 v28:=zeroValue136
 i26:=by kernel_rfl }
def Tryz.sort236_ren:Go.Shelf.Ren:=⟨fun|6=>123|8=>178|9=>177|19=>212|20=>213|21=>203|22=>204|23=>205|24=>206|25=>207|26=>208|27=>209|28=>210|29=>211|36=>226|31=>227|32=>228|37=>229|38=>230|39=>231|41=>236|n=>n,fun|27=>47|29=>9|3=>3|32=>241|26=>47|0=>0|44=>280|46=>247|4=>4|36=>274|35=>273|41=>180|5=>5|9=>9|53=>293|57=>297|63=>301|64=>302|n=>n,fun|n=>n⟩
theorem Tryz.sort236:Go.Proofs.SlLaysM.n6 prog Tryz.sort236_ren:={
 mixed:=by rfl
 f6:=⟨f123.name,by decide,func123.trans (congrArg some (by rfl))⟩
 f8:=func178.trans (congrArg some (by rfl))
 f9:=⟨f177.name,by decide,func177.trans (congrArg some (by rfl))⟩
 f19:=func212.trans (congrArg some (by rfl))
 f20:=func213.trans (congrArg some (by rfl))
 f21:=⟨f203.name,by decide,func203.trans (congrArg some (by rfl))⟩
 f22:=⟨f204.name,by decide,func204.trans (congrArg some (by rfl))⟩
 f23:=⟨f205.name,by decide,func205.trans (congrArg some (by rfl))⟩
 f24:=⟨f206.name,by decide,func206.trans (congrArg some (by rfl))⟩
 f25:=⟨f207.name,by decide,func207.trans (congrArg some (by rfl))⟩
 f26:=⟨f208.name,by decide,func208.trans (congrArg some (by rfl))⟩
 f27:=⟨f209.name,by decide,func209.trans (congrArg some (by rfl))⟩
 f28:=⟨f210.name,by decide,func210.trans (congrArg some (by rfl))⟩
 f29:=⟨f211.name,by decide,func211.trans (congrArg some (by rfl))⟩
 f31:=func227.trans (congrArg some (by rfl))
 f32:=func228.trans (congrArg some (by rfl))
 f36:=⟨f226.name,by decide,func226.trans (congrArg some (by rfl))⟩
 f37:=⟨f229.name,by decide,func229.trans (congrArg some (by rfl))⟩
 f38:=⟨f230.name,by decide,func230.trans (congrArg some (by rfl))⟩
 f39:=⟨f231.name,by decide,func231.trans (congrArg some (by rfl))⟩
 f41:=⟨f236.name,by decide,func236.trans (congrArg some (by rfl))⟩
 t0:=underlying0
 a0:=isAgg0
 z0:=sizeOf0
 v0:=zeroValue0
 t3:=underlying3
 a3:=isAgg3
 z3:=sizeOf3
 v3:=zeroValue3
 t4:=underlying4
 a4:=isAgg4
 z4:=sizeOf4
 v4:=zeroValue4
 t5:=underlying5
 a5:=isAgg5
 z5:=sizeOf5
 v5:=zeroValue5
 t9:=underlying9
 a9:=isAgg9
 z9:=sizeOf9
 v9:=zeroValue9
 t26:=underlying47
 a26:=isAgg47
 z26:=sizeOf47
 v26:=zeroValue47
 t27:=underlying47
 a27:=isAgg47
 z27:=sizeOf47
 v27:=zeroValue47
 t29:=underlying9
 a29:=isAgg9
 z29:=sizeOf9
 v29:=zeroValue9
 t32:=underlying241
 a32:=isAgg241
 z32:=sizeOf241
 v32:=zeroValue241
 t35:=underlying273
 a35:=isAgg273
 z35:=sizeOf273
 v35:=zeroValue273
 t36:=underlying274
 a36:=isAgg274
 z36:=sizeOf274
 v36:=zeroValue274
 t41:=underlying180
 a41:=isAgg180
 z41:=sizeOf180
 v41:=zeroValue180
 t44:=underlying280
 a44:=isAgg280
 z44:=sizeOf280
 v44:=zeroValue280
 t46:=underlying247
 a46:=isAgg247
 z46:=sizeOf247
 v46:=zeroValue247
 t53:=underlying293
 a53:=isAgg293
 z53:=sizeOf293
 v53:=zeroValue293
 t57:=underlying297
 a57:=isAgg297
 z57:=sizeOf297
 v57:=zeroValue297
 t63:=underlying301
 a63:=isAgg301
 z63:=sizeOf301
 v63:=zeroValue301
 t64:=underlying302
 a64:=isAgg302
 z64:=sizeOf302
 v64:=zeroValue302 }
def Tryz.clone106_ren:Go.Shelf.Ren:=⟨fun|5=>103|7=>164|n=>n,fun|23=>119|25=>9|3=>4|4=>4|20=>20|n=>n,fun|n=>n⟩
theorem Tryz.clone106:Go.Proofs.SlLaysW.n5 prog Tryz.clone106_ren:={
 mixed:=by rfl
 f5:=⟨f103.name,by decide,func103.trans (congrArg some (by rfl))⟩
 f7:=func164.trans (congrArg some (by rfl))
 t4:=underlying4
 a4:=isAgg4
 z4:=sizeOf4
 v4:=zeroValue4
 t20:=underlying20
 a20:=isAgg20
 z20:=sizeOf20
 v20:=zeroValue20
 t23:=underlying119
 a23:=isAgg119
 z23:=sizeOf119
 v23:=zeroValue119 }
theorem Tryz.sorts209(m:Nat):AnyZ.SortsIn prog Tryz.sorted209_ren Fence.wide m:=
 ⟨fun blk off cap ss W hH hblk hsz=>callsIn_wide.2 (AnyM.slices_Sort_string Tryz.sort236 blk off cap ss W hH hblk hsz),
  fun p cap W=>callsIn_wide.2 (AnyM.slices_Sort_string_none Tryz.sort236 p cap W)⟩
theorem Tryz.maps_Keys_210(mb:Option Nat)(W:World):CallsIn Fence.wide 5 prog 200 #[.map mb] W fun e w'=>e=.returned (.func (.func 224) #[] #[.pointer (some ⟨W.heap.size,0,none⟩)])/\w'=W.alloc (.cells #[.map mb] 228):=
 AnyZ.keys_in Tryz.keys210 Fence.wide 5 trivial rfl mb W
set_option maxHeartbeats 1000000 in
theorem Tryz.slices_Sorted_keys_209_210{H:Type}(b nn:Nat)(D0:DataW H)(R:Value->Option (DataW H×List MemPlace))(w:World)(hown:w.ownsMap prog 9 R b nn D0)(hmax:Maps.size D0<=maxLen)(hbytes:Maps.size D0*16<=140737488355328) :
  CallsIn Fence.wide 5 prog 72 #[.func (.func 224) #[] #[.pointer (some ⟨w.heap.size,0,none⟩)]] (w.alloc (.cells #[.map (some b)] 228)) fun e w'=>∃(v:Value)(ss:List (List UInt8)),e=.returned v/\ss.Perm (strKeys D0) /\
   w'.ownsRow (w.alloc (.cells #[.map (some b)] 228)).heap.size 9 1 v ss.length ((ss.mergeSort (fun x y=>decide (x<=y))).map encStr)/\(v=.slice none 0 0 ↔ ss=[])/\Below (w.alloc (.cells #[.map (some b)] 228)).heap.size (w.alloc (.cells #[.map (some b)] 228)) w':=by
 have hbl:=hown.lt
 have hseq:SeqGives Fence.wide 2 prog 224 #[.pointer (some ⟨w.heap.size,0,none⟩)] encStr (fun ss=>ss.Perm (strKeys D0)) (Maps.size D0) (w.alloc (.cells #[.map (some b)] 228)):=
  AnyZ.keys_gives (ρ:=Tryz.keys210_ren) { Tryz.keys210 with } Fence.wide _ trivial rfl kQ1 w.heap.size b nn D0 _ (by simp) (by simp) (by
   obtain⟨es,clock,hb,Ft,hs,hD⟩:=hown;exact⟨es,clock,(Below.heap_alloc _ _ b hbl).trans hb,Ft,hs,hD⟩)
 exact AnyZ.sorted_in Tryz.sorted209 Fence.wide 5 trivial trivial trivial trivial rfl kQ1 (Tryz.sorts209 _) (enters_of func123 (by rfl) rfl) 224 #[.pointer (some ⟨w.heap.size,0,none⟩)] trivial (enters_of func224 (by rfl) rfl) _ _ hmax hbytes _ hseq
theorem Tryz.maps_KeysA(mb:Option Nat)(W:World):CallsIn Fence.wide 5 prog 73 #[.map mb] W fun e w'=>e=.returned (.func (.func 124) #[] #[.pointer (some ⟨W.heap.size,0,none⟩)])/\w'=W.alloc (.cells #[.map mb] 119):=
 AnyZ.keys_in Tryz.keysA Fence.wide 5 trivial rfl mb W
set_option maxHeartbeats 1000000 in
theorem Tryz.sorted_keysA{H:Type}(p b nn:Nat)(D0:DataW H)(R:Value->Option (DataW H×List MemPlace))(w:World)(hp:p<w.heap.size)(hc:w.cell? ⟨p,0,none⟩=some (.map (some b)))(hown:w.ownsMap prog 9 R b nn D0)(hmax:Maps.size D0<=maxLen)(hbytes:Maps.size D0*16<=140737488355328) :
  CallsIn Fence.wide 5 prog 72 #[.func (.func 124) #[] #[.pointer (some ⟨p,0,none⟩)]] w fun e w'=>∃(v:Value)(ss:List (List UInt8)),e=.returned v/\ss.Perm (strKeys D0) /\
   w'.ownsRow w.heap.size 9 1 v ss.length ((ss.mergeSort (fun x y=>decide (x<=y))).map encStr)/\(v=.slice none 0 0 ↔ ss=[])/\Below w.heap.size w w':=by
 have hseq:SeqGives Fence.wide 2 prog 124 #[.pointer (some ⟨p,0,none⟩)] encStr (fun ss=>ss.Perm (strKeys D0)) (Maps.size D0) w:=
  AnyZ.keys_gives (ρ:=Tryz.keysA_ren) { Tryz.keysA with } Fence.wide _ trivial rfl kQ1 p b nn D0 _ hp hc hown
 exact AnyZ.sorted_in Tryz.sorted209 Fence.wide 5 trivial trivial trivial trivial rfl kQ1 (Tryz.sorts209 _) (enters_of func123 (by rfl) rfl) 124 #[.pointer (some ⟨p,0,none⟩)] trivial (enters_of func124 (by rfl) rfl) _ _ hmax hbytes _ hseq
end Go.Proofs
end

section
namespace Go.Am
theorem QO(c:C):(sct c).toV=sc c.toD:=rfl
theorem zB{n:Int}(h:0<=n/\n < 256):(((UInt8.ofNat n.toNat).toNat:Nat):Int)=n:=by
 grind [UInt8.toNat_ofNat']
theorem ZJ(x:UInt8):0<=((x.toNat:Nat):Int)/\((x.toNat:Nat):Int) < 256:=by
 have:=x.toNat_lt
 omega
theorem FB{k:IntKind}{n:Int}(h:k=.u8->0<=n/\n < 256):(mkC k n).toD=.int k n:=by
 cases k with
 |u8=>show D.int .u8 _=_;grind [zB]
 |_=>rfl
theorem aiE(n:Int):0<=IntKind.u8.wrap n/\IntKind.u8.wrap n < 256:=by
 have:=wf_wrap (k:=.u8) n
 simp only[Lit.wf,aiW,decide_eq_true_eq]at this;have h1:IntKind.u8.min=0:=by decide
 have h2:IntKind.u8.max=255:=by decide
 omega
theorem eM{k:IntKind}{n:Int}:(mkC k (k.wrap n)).toD=.int k (k.wrap n):=FB fun h=>by simp_all[aiE]
variable{c:C}
theorem iX{k:IntKind}{n:Int}(h:rR c=some (k,n)):c.toD=.int k n/\(k=.u8->0<=n/\n < 256):=by
 unfold rR at h;split at h
 ·rename_i k' n';cases k'<;>simp only[aiX,Prod.mk.injEq,reduceCtorEq]at h<;>(obtain⟨rfl,rfl⟩:=h;exact⟨rfl,fun h=>by cases h⟩)
 ·rename_i x;simp only[aiX,Prod.mk.injEq]at h;obtain⟨rfl,rfl⟩:=h;exact⟨rfl,fun _=>ZJ x⟩
 grind
theorem W7{k:Nat}{row:List D}(h:rO k=some row):row=gw.map D.str:=by
 grind [rO]
theorem vS{v:Value}(h:okT v=true):(ui v).toT=rG v:=by
 cases v with
 |int k n=>
  simp only[ui,rG];cases k with
  |u8=>
   simp only[okT,Lit.wf,aiW,decide_eq_true_eq]at h;have h1:IntKind.u8.min=0:=by decide
   have h2:IntKind.u8.max=255:=by decide
   grind [Tt.toT,C.toD,zB]
  |_=>rfl
 |slice a l c=>cases a with
  |none=>match l,c with
   |0,0=>rfl
   |0,_+1=>rfl
   |_+1,_=>rfl
  |some _=>rfl
 |pointer p=>cases p<;>rfl
 |map p=>cases p<;>rfl
 |_=>rfl
theorem ah{s:St}{x:Operand}(h:aH x=true):ev s.toS x=(evA s x).toV:=by
 cases x with
 |tmp t=>exact dC t s.t
 |const v=>
  simp only[aH]at h;cases v with
  |agg cs=>
   simp only[ev,evA,cst,afI,At.toV,A1.toV]
   grind [ajG,okC,vS,Array.all_eq_true_iff_forall_mem]
  |_=>
   grind [ev,evA,cst,afI,At.toV,A1.toV,vS,okC]
 |func f=>rfl
 |global g=>
  simp only[aH]at h;simp only[ev,evA,adT];cases a:rO g with
  |none=>rfl
  |some row=>
   simp only[At.toV,A1.toV,Tt.toT,W7 a];rfl
variable{i:Nat}{op:BinOp}{t:TypeId}{x:At}
section
variable {k:At->Prop}
abbrev up(k:At->Prop):AV->Prop:=fun v=>∃a,v=a.toV/\k a
theorem OI{d:D}(h:k (sct c))(e:c.toD=d):up k (sc d):=⟨sct c,by rw[QO,e],h⟩
theorem Ya{c y:At}(h:DO c x y k):KM c.toV x.toV y.toV (up k):=by
 unfold DO at h;split at h
 ·rename_i b;cases b
  ·rw[if_neg (by simp)]at h;exact⟨y,rfl,h⟩
  ·rw[if_pos rfl]at h;exact⟨x,rfl,h⟩
 grind
theorem aiA{a b:Int}(d:0<=a/\a < 256):0<=a.tmod b/\a.tmod b < 256:=by
 refine⟨Int.tmod_nonneg _ d.1,?_⟩;rcases Int.lt_or_le b 0 with h|h
 ·rw[<- Int.tmod_neg];rcases Int.lt_or_le a (-b)with h'|h'
  ·simp_all[Int.tmod_eq_of_lt]
  ·have:=Int.tmod_lt_of_pos a (show 0 < -b by omega);omega
 ·rcases Int.lt_or_le a b with h'|h'
  ·simp_all[Int.tmod_eq_of_lt]
  ·rcases Int.lt_or_eq_of_le h with c|c
   ·have:=Int.tmod_lt_of_pos a c;omega
   grind
theorem ahW{a:Int}{m:Nat}(b:0<=a/\a < 256):0<=a.fdiv (2 ^ m)/\a.fdiv (2 ^ m) < 256:=by
 have hp:(0:Int) < 2 ^ m:=Int.pow_pos (by decide)
 rw[Int.fdiv_eq_ediv_of_nonneg _ kQ1];refine⟨Int.ediv_nonneg b.1 kQ1,?_⟩;have:=Int.ediv_le_self (2 ^ m) b.1
 omega
theorem ZD{x y:C}{K:C->Prop}(h:IE op x y K):vI op x.toD y.toD (fun d=>∃c:C,c.toD=d/\K c):=by
 unfold IE at h;split at h
 ·rename_i a b;cases op<;>first|exact h.elim|exact⟨_,rfl,h⟩|exact⟨h.1,_,rfl,h.2⟩
 ·split at h
  ·rename_i k a k' b hx hy;obtain⟨ex,g⟩:=iX hx;obtain⟨e,f⟩:=iX hy;rw[ex,e];split at h
   ·rename_i hk;unfold XV at h;cases op<;>simp only[ah0,ai8,false_or,true_or]at hk<;>simp only[vI]
    case add=>grind [eM]
    case sub=>grind [eM]
    case mul=>grind [eM]
    case quo=>grind [eM]
    case rem=>grind [FB,aiA]
    case and=>grind [eM]
    case or=>grind [eM]
    case xor=>grind [eM]
    case andNot=>grind [eM]
    case shl=>grind [eM]
    case shr=>grind [FB,ahW]
    case eql=>exact⟨hk,_,rfl,h⟩
    case neq=>exact⟨hk,_,rfl,h⟩
    case lss=>exact⟨hk,_,rfl,h⟩
    case leq=>exact⟨hk,_,rfl,h⟩
    case gtr=>exact⟨hk,_,rfl,h⟩
    case geq=>exact⟨hk,_,rfl,h⟩
   grind
  grind
theorem Ms{x y:D}{K K':D->Prop}(hk:∀d,K d->K' d)(h:vI op x y K):vI op x y K':=by
 cases x<;>cases y<;>try exact h.elim
 ·cases op<;>simp only[vI]at h⊢<;>first|exact⟨h.1,h.2.1,hk _ h.2.2⟩|grind
 ·cases op<;>simp only[vI]at h⊢<;>first|exact⟨h.1,hk _ h.2⟩|grind|exact h.elim
theorem afL{ck:CK}{x y:C}{b:Bool}(h:eqC ck x y=some b):eqD ck x.toD y.toD=some b:=by
 unfold eqC at h;cases ck with
 |i=>
  dsimp only at h;split at h
  ·rename_i k a k' b' hx hy;rw[(iX hx).1,(iX hy).1];exact h
  grind
 |s=>
  dsimp only at h;split at h
  ·exact h
  grind
 |b=>
  dsimp only at h;split at h
  ·exact h
  grind
theorem E2:∀{l:List (Nat×CK)}{xs a:List C}{b:Bool},WN l xs a=some b->jU l (xs.map C.toD) (a.map C.toD)=some b
 |[],_,_,_,h=>h
 |(o,ck)::l,xs,a,b,h=>by
  unfold WN at h;unfold jU;rw[ai4,ai4];cases hx:xs[o]? with
  |none=>grind
  |some x=>
   cases hy:a[o]? with
   |none=>grind
   |some y=>
    rw[hx,hy]at h;dsimp only[Option.map_some]at h⊢;cases he:eqC ck x y with
    |none=>grind
    |some c=>
     rw[he]at h;rw[afL he];cases l with
     |nil=>exact h
     |cons z l=>
      dsimp only at h⊢;cases hr:WN (z::l) xs a with
      |none=>grind
      |some r=>rw[hr]at h;rw[E2 hr];exact h
theorem VE(t:Tt)(h:TD t.toT≠.any\/True):(TC t).toD=TD t.toT:=by
 cases t<;>rfl
theorem aeS{x y:C}{K:C->Prop}(h:IE op x y K):(∃b,y=.s b)\/∃k n,rR y=some (k,n):=by
 unfold IE at h
 grind
theorem ZG{P:Program}{y:At}(h:Rx P op t x y k):Mt P op t x.toV y.toV (up k):=by
 unfold Rx at h;split at h
 ·rename_i a b;split at h
  ·rename_i f;refine⟨f,?_⟩;cases op<;>first|exact h.elim|exact⟨_,rfl,h⟩
  grind
 ·rename_i q;split at h
  ·rename_i kt et z f hz;have e:af3 q.toD=some z:=by
    unfold ah1 at hz;split at hz
    ·rename_i ku vu p;rw[<- hz];cases p<;>rfl
    ·rw[<- hz];rfl
    grind
   have key:af4 P op t q.toD (up k):=⟨⟨_,_,f⟩,by
    rw[e];cases op<;>first|exact h.elim|exact⟨_,rfl,h⟩⟩
   cases q<;>exact key
  grind
 ·rename_i a b r g;have h':=ZD h
  have key:vI op a.toD b.toD (fun d=>up k (sc d)):=by
   refine Ms ?_ h';rintro d ⟨c,rfl,hc⟩
   exact⟨sct c,rfl,hc⟩
  rcases aeS h with⟨b',rfl⟩|⟨κ,n,hb⟩
  ·cases a with
   |mp ku vu l=>exact h.elim
   |_=>exact key
  ·cases b with
   |i k n=>cases a with
    |mp ku vu l=>exact h.elim
    |_=>exact key
   |b x=>cases a with
    |mp ku vu l=>exact h.elim
    |_=>exact key
   |_=>cases hb
 ·rename_i xs j;split at h
  ·rename_i l hl;have o:(xs.map Tt.toT).map TD=(xs.map TC).map C.toD:=by
    grind [ajG,VE]
   have m:(j.map Tt.toT).map TD=(j.map TC).map C.toD:=by
    grind [ajG,VE]
   simp only[At.toV,A1.toV,Mt];rw[hl,o,m];dsimp only;split at h
   ·rename_i b hb;rw[E2 hb];exact⟨_,rfl,h⟩
   ·rename_i b hb;rw[E2 hb];exact⟨_,rfl,h⟩
   grind
  grind
 grind
theorem agU{op:UnOp}(h:unT op x k):unK op x.toV (up k):=by
 unfold unT at h;split at h
 ·exact⟨_,rfl,h⟩
 ·rename_i c;split at h
  ·rename_i κ n hc;simp only[At.toV,A1.toV,Tt.toT,(iX hc).1];exact OI h eM
  grind
 ·rename_i c;split at h
  ·rename_i κ n hc;simp only[At.toV,A1.toV,Tt.toT,(iX hc).1];exact OI h eM
  grind
 grind
theorem Jb(h:mD x i k):kB x.toV i (up k):=by
 unfold mD at h
 grind [At.toV,kB]
theorem Up{i:At}(h:wU x i k):wT x.toV i.toV (up k):=by
 unfold wU at h
 grind [C.toD,wT,QO]
theorem FF(h:ke x k):mV x.toV (up k):=by
 unfold ke at h;split at h
 ·exact⟨_,rfl,h⟩
 ·exact⟨_,rfl,h⟩
 ·exact⟨_,rfl,h⟩
 grind
theorem SH{P:Program}(h:vX P t x i k):vW P t x.toV i (up k):=by
 unfold vX at h;split at h
 ·rename_i fs ts hk;simp only[At.toV,A1.toV,vW];rw[hk];dsimp only;cases hf:fs[i]? with
  |none=>grind
  |some f=>
   obtain⟨off,size,b⟩:=f;rw[hf]at h
   match b,h with
   |some false,h=>
    dsimp only at h⊢;rw[ai4];cases a:ts[off]? with
    |none=>grind
    |some t'=>rw[a]at h;exact⟨_,rfl,h⟩
   |some true,h=>
    dsimp only at h⊢;split at h
    ·rename_i hb;refine⟨by simp_all,.one (.agg ((ts.drop off).take size)),?_,h⟩;simp only[At.toV,A1.toV,ak5,alG]
    grind
   |none,h=>omega
 grind
theorem WH{P:Program}{d b:TypeId}(h:Dc P d b x k):uh P d b x.toV (up k):=by
 unfold Dc at h;split at h
 ·rename_i f κ h1 h2;split at h
  ·rename_i c;split at h
   ·rename_i g n hc;simp only[At.toV,A1.toV,Tt.toT,(iX hc).1,uh,h1,h2];exact OI h eM
   grind
  grind
 ·rename_i e h1 h2;split at h
  ·rename_i h3;split at h
   ·rename_i l;simp only[At.toV,A1.toV,Tt.toT,C.toD,uh,h1,h2];refine⟨h3,?_⟩;have:∀l:List UInt8,uj (l.map (ap .b8))=some l:=by
     intro l;induction l with
     |nil=>rfl
     |cons a l ih=>
      simp_all[ap,uj]
    rw[this l];exact⟨_,rfl,h⟩
   ·simp only[At.toV,A1.toV,Tt.toT,uh,h1,h2];exact⟨h3,_,rfl,h⟩
   grind
  grind
 grind
end
theorem Lu(t:Tt):t.toT.sure=t.sure:=by
 cases t with
 |d c=>cases c<;>rfl
 |_=>rfl
def RH(t:Tt)(t':T):Prop:=t'=t.toT\/∃sh u l,∃l':List (List D),t=.ow sh u l/\t'=.ow sh l'/\l'.length=l.length
structure HL (ts:List Tt) (ts':List T):Prop where
 len:ts'.length=ts.length
 nth:∀(i:Nat)(t:Tt)(t':T),ts[i]? = some t->ts'[i]? = some t'->RH t t'
theorem vz(ts:List Tt):HL ts (ts.map Tt.toT):=by
 refine⟨by simp,fun i t t' h h'=>?_⟩;rw[ai4,h]at h';exact .inl (Option.some.inj h').symm
variable{ts:List Tt}{ts':List T}
theorem HL.drop(h:HL ts ts')(n:Nat):HL (ts.drop n) (ts'.drop n):=
 ⟨by simp[h.len],fun i t t' h1 h2=>by grind [nth]⟩
theorem HL.take(h:HL ts ts')(n:Nat):HL (ts.take n) (ts'.take n):=
 ⟨by simp[h.len],fun i t t' h1 h2=>by
  grind [nth]⟩
theorem lG:∀(q:List Step)(sub:List Sh)(l:List (List D))(x:D),(cx sub l x q).length=l.length
 |[],_,_,_=>rfl
 |[st],_,_,_=>by simp[cx]
 |st::a::r,sub,l,x=>by
  grind [cx]
theorem za(cells:List Tt)(hole:Option (Nat×Step×List Step)):HL cells (holed (cells.map Tt.toT) hole):=by
 cases hole with
 |none=>exact vz cells
 |some h=>
  obtain⟨off,st,q⟩:=h;simp only[holed];split
  ·rename_i sub l hc;refine⟨by simp,fun i t t' h1 h2=>?_⟩;by_cases hi:off=i
   ·subst hi;rw[ai4,h1]at hc;have a:=Option.some.inj hc
    have b:off < (cells.map Tt.toT).length:=by
     grind
    rw[ajN b]at h2;have c:=Option.some.inj h2
    cases t with
    |ow sh u d=>
     simp only[Tt.toT,T.ow.injEq]at a;obtain⟨rfl,rfl⟩:=a;exact .inr ⟨_,_,_,_,rfl,c.symm,by rw[lG];simp⟩
    |_=>grind [Tt.toT]
   ·rw[List.getElem?_set_ne hi]at h2;exact(vz cells).nth i t t' h1 h2
  grind [vz]
theorem Vp{t:Tt}{t':T}(h:RH t t')(q:Pl):Cl q t'=(QC q t).toT:=by
 rcases h with rfl|⟨sh,u,l,l',rfl,rfl,_⟩
 ·cases t<;>rfl
 ·rfl
theorem Zf(h:HL ts ts')(p:Pl):uT p ts'=(F6 p ts).map Tt.toT:=by
 refine akC fun i=>?_
 grind [uT,F6,HL.len,Vp,HL.nth]
variable{u:U}
theorem pG(l:List (El u))(h:i<l.length):(l.map (ap u)).getD i []=ap u (l.getD i (dflt u)):=by
 grind
theorem lB(l:List (El u))(h:i<l.length):(l.map (ap u))[i]? = some (ap u (l.getD i (dflt u))):=by
 grind
def XO(s:Sh)(c:C):Tt:=match s,c with
 |Sh.fr,x=>Tt.d x
 |Sh.ow s,C.li u' l'=>Tt.ow s u' l'
 |_,_=>Tt.any
theorem XP(s:Sh)(c:C):mkT s c.toD=(XO s c).toT:=by
 cases s with
 |fr=>rfl
 |ow s=>cases c<;>rfl
theorem Gv:∀(s:List Sh)(c:List C),List.zipWith mkT s (c.map C.toD)=(List.zipWith XO s c).map Tt.toT
 |[],_=>by simp
 |_::_,[]=>by simp
 |s::a,c::cs=>by grind [XP]
theorem M0:∀{path:List Step}{sub:List Sh}{u:U}{l:List (El u)}{n:Nat}{ts:List Tt}{K:List T->Prop},okO sub (l.map (ap u)) path->inT sub u l n path=some ts->K (ts.map Tt.toT)->inK sub (l.map (ap u)) n path K
 |[],_,_,_,_,_,_,h,_,_=>h.elim
 |[st],sub,u,l,n,ts,K,h,a,b=>by
  obtain⟨h1,h2,h3⟩:=h;rw[ai2]at h1;simp only[inT]at a;split at a
  ·rename_i hb;simp only[aiX]at a;refine⟨ajA hb,?_⟩;rw[lB l h1];dsimp only;rw[<- cz,<- alG,<- ak5,Gv];subst a;exact b
  grind
 |st::f::r,sub,u,l,n,ts,K,h,a,b=>by
  obtain⟨⟨h1,h2,h3⟩,h4⟩:=h;rw[ai2]at h1;simp only[inT]at a;split at a
  ·rename_i s u' l' c e;simp only[inK];rw[lB l h1];dsimp only;have d:(ap u (l.getD st.idx (dflt u)))[st.off]? = some (.li (l'.map (ap u'))):=by
    rw[<- cz,ai4,e];rfl
   rw[c,d];dsimp only;rw[c,pG l h1,List.getD,d]at h4;exact M0 h4 a b
  grind
def okP(m:Mm)(p:Pl):Prop:=match p.path with
 |[]=>True
 |st::q=>∃r sub l,af m p.root=some r/\r.cells[p.off]? = some (.ow sub l)/\okO sub l (st::q)
variable{p:Pl}
theorem NW{m:Mm}(h:cj m p):okP m p:=by
 grind [okP,cj]
theorem pQ{m:Mm}(h:iG m p):okP m p:=by
 grind [okP,iG]
variable{n:Nm}{r:Rt}
theorem bz{m:List (Nm×Nat×Rt)}(h:cw m n=some r):af (toM m) n=some r.toR:=by grind [um]
theorem QR{a:List Sh}{xs:List D}{t:T}(h:(List.zipWith mkT a xs)[i]? = some t):∃s x,a[i]? = some s/\xs[i]? = some x/\t=mkT s x:=by
 grind
theorem Xe:∀{path hp:List Step}{sub:List Sh}{u:U}{l:List (El u)}{n:Nat}{ts:List Tt}{K:List T->Prop},path.length<hp.length->okO sub (cx sub (l.map (ap u)) .any hp) path->inT sub u l n path=some ts->(∀ts',HL ts ts'->K ts')->inK sub (cx sub (l.map (ap u)) .any hp) n path K
 |[],_,_,_,_,_,_,_,_,h,_,_=>h.elim
 |_::_,[],_,_,_,_,_,_,j,_,_,_=>by grind
 |[_],[_],_,_,_,_,_,_,j,_,_,_=>by grind
 |_::_::_,[_],_,_,_,_,_,_,j,_,_,_=>by grind
 |[st],h::h'::hr,sub,u,l,n,ts,K,j,o,g,z=>by
  have c:(cx sub (l.map (ap u)) .any (h::h'::hr)).length=l.length:=by grind [lG]
  have b:=o.1
  rw[c]at b;simp only[inT]at g;split at g
  ·rename_i hb;simp only[aiX]at g;refine⟨ajA hb,?_⟩;have w:((l.map (ap u))[st.idx]?)=some (ap u (l.getD st.idx (dflt u))):=lB l b
   have key:∀x,(cx sub (l.map (ap u)) .any (h::h'::hr))[st.idx]? = some x->(x=ap u (l.getD st.idx (dflt u))\/∃s l1,sub[h.off]? = some (.ow s)/\(ap u (l.getD st.idx (dflt u)))[h.off]? = some (.li l1)/\x=(ap u (l.getD st.idx (dflt u))).set h.off (.li (cx s l1 .any (h'::hr)))):=by
    intro x hx;simp only[cx]at hx;split at hx
    ·rename_i s l1 q k;rw[List.getElem?_set]at hx;split at hx
     ·rename_i G;split at hx
      ·have y:=Option.some.inj hx
       rw[G,pG l b]at k y;refine .inr ⟨s,l1,q,?_,y.symm⟩;rw[List.getD]at k;cases h3:(ap u (l.getD st.idx (dflt u)))[h.off]? with
       |none=>rw[h3]at k;cases k
       |some d=>grind
      grind
     grind
    grind
   have m:st.idx < (cx sub (l.map (ap u)) .any (h::h'::hr)).length:=by omega
   rw[aiY m];dsimp only;rcases key _ (aiY m)with e|⟨s,l1,q,k,e⟩
   ·rw[e,<- cz,<- alG,<- ak5,Gv];subst g;exact z _ (vz _)
   ·rw[e];refine z _ ?_;subst g;have p:List.zipWith mkT ((sub.drop st.off).take n) (((ap u (l.getD st.idx (dflt u))).drop st.off).take n)=(List.zipWith XO ((sub.drop st.off).take n) (((flat u (l.getD st.idx (dflt u))).drop st.off).take n)).map Tt.toT:=by
     rw[<- cz,<- alG,<- ak5,Gv]
    refine⟨?_,fun i t t' J E=>?_⟩
    ·grind [ai2]
    ·obtain⟨s0,L,b1,b2,C⟩:=QR E;have v:((List.zipWith XO ((sub.drop st.off).take n) (((flat u (l.getD st.idx (dflt u))).drop st.off).take n)).map Tt.toT)[i]? = some t.toT:=by
      grind [XO]
     rw[<- p]at v;obtain⟨s1,M,B,c2,c3⟩:=QR v;rw[b1]at B;obtain rfl:=Option.some.inj B;rw[List.getElem?_take]at b1 b2 c2;split at b2
     ·rename_i A;rw[if_pos A]at b1 c2;rw[ak7]at b1 b2 c2;rw[List.getElem?_set]at b2;split at b2
      ·rename_i H;rw[<- H]at b1 c2;rw[q]at b1;obtain rfl:=Option.some.inj b1;rw[k]at c2;obtain rfl:=Option.some.inj c2;split at b2
       ·obtain rfl:=Option.some.inj b2;rw[C];cases t with
        |ow F O l2=>
         simp only[mkT,Tt.toT,T.ow.injEq]at c3;obtain⟨rfl,P⟩:=c3;refine .inr ⟨_,_,_,_,rfl,rfl,?_⟩
         grind [lG]
        |_=>grind [mkT,Tt.toT]
       grind
      ·rw[b2]at c2;obtain rfl:=Option.some.inj c2;rw[C,<- c3];exact .inl rfl
     grind
  grind
 |st::D::r,h::h'::hr,sub,u,l,n,ts,K,j,o,g,z=>by
  have c:(cx sub (l.map (ap u)) .any (h::h'::hr)).length=l.length:=by grind [lG]
  obtain⟨⟨hi,hz,ho⟩,a⟩:=o;rw[c]at hi;simp only[inT]at g;split at g
  ·rename_i s u' l' q k;have w:((l.map (ap u))[st.idx]?)=some (ap u (l.getD st.idx (dflt u))):=lB l hi
   have N:(ap u (l.getD st.idx (dflt u)))[st.off]? = some (.li (l'.map (ap u'))):=by
    rw[<- cz,ai4,k];rfl
   have key:∃x,(cx sub (l.map (ap u)) .any (h::h'::hr))[st.idx]? = some x/\(x[st.off]? = some (.li (l'.map (ap u')))\/x[st.off]? = some (.li (cx s (l'.map (ap u')) .any (h'::hr)))):=by
    simp only[cx]
    grind
   obtain⟨x,hx,f⟩:=key;have I:(cx sub (l.map (ap u)) .any (h::h'::hr)).getD st.idx []=x:=by grind
   rw[q,I]at a;simp only[inK];rw[hx];dsimp only;rw[q];rcases f with f|f
   ·grind [M0,vz]
   ·rw[List.getD,f]at a;rw[f];dsimp only at a⊢;exact Xe (by grind) a g z
  grind
theorem Mq{m:List (Nm×Nat×Rt)}{n:Nat}{K:List T->Prop}(hp:okP (toM m) p)(h:atT m p n=some ts)(v:∀ts',HL ts ts'->K ts'):atK (toM m) p n K:=by
 unfold atT at h;split at h
 ·cases h
 ·rename_i r hr;unfold atK;rw[bz hr];dsimp only;unfold okP at hp;split at h
  ·rename_i a;rw[a];split at h
   ·rename_i hb;simp only[aiX]at h;have i:=za r.cells r.hole
    refine⟨?_,v _ ?_⟩
    ·show p.off+n<=(holed (r.cells.map Tt.toT) r.hole).length
     rw[i.len];simp_all
    ·subst h;exact(i.drop _).take _
   grind
  ·rename_i st q a;rw[a]at hp⊢;split at h
   ·rename_i sub u l c hc;obtain⟨x,o,l',j,w,z⟩:=hp;rw[bz hr]at j;obtain rfl:=Option.some.inj j;have b:r.toR.cells[p.off]? = some (.ow sub (l.map (ap u)))->(match st::q,r.toR.cells[p.off]? with
      |[],_=>p.off+n<=r.toR.cells.length/\K ((r.toR.cells.drop p.off).take n)
      |st::q,some (.ow sub l)=>inK sub l n (st::q) K
      |_,_=>False):=by
     grind [M0,vz]
    cases e:r.hole with
    |none=>
     refine b ?_;show(holed (r.cells.map Tt.toT) r.hole)[p.off]? = _
     rw[e];show(r.cells.map Tt.toT)[p.off]? = _
     rw[ai4,hc];rfl
    |some s=>
     obtain⟨off,f,k⟩:=s;rw[e]at c;have t:(st::q).length < (f::k).length:=ajA c
     by_cases d:off=p.off
     ·subst d;have g:p.off < (r.cells.map Tt.toT).length:=by grind
      have y:r.toR.cells[p.off]? = some (.ow sub (cx sub (l.map (ap u)) .any (f::k))):=by
       show(holed (r.cells.map Tt.toT) r.hole)[p.off]? = _
       grind [holed,Tt.toT]
      grind [Xe]
     ·refine b ?_;show(holed (r.cells.map Tt.toT) r.hole)[p.off]? = _
      rw[e];simp only[holed];split
      ·rw[List.getElem?_set_ne d,ai4,hc];rfl
      ·rw[ai4,hc];rfl
   grind
theorem Bu{m:List (Nm×Nat×Rt)}{sh:List Sh}{l:List (El u)}{K:List T->Prop}(hp:okP (toM m) p)(h:sliceAt m p=some ⟨sh,u,l⟩)(f:∀l':List (List D),l'.length=l.length->K [.ow sh l']):atK (toM m) p 1 K:=by
 unfold sliceAt at h;split at h
 ·rename_i d u' l' c;cases h;refine Mq hp c (fun ts' a=>?_);have hl:=a.len
  match ts',hl with
  |[t'],_=>
   rcases a.nth 0 _ _ rfl rfl with e|⟨b,k,l2,j,i,g,n⟩
   ·rw[e];exact f _ (by simp)
   grind
 grind
variable{gd:Option (Nat×Bool)}{ps:Array (Nat×Operand)}{zs:List Value}
section
variable {k:At->Prop} {m:List (Nm×Nat×Rt)}
theorem E7{n:Nat}{q:Prop}(h:gift gd n q):n<=4611686018427387904->q:=by
 cases gd with
 |none=>exact h
 |some _=>exact fun _=>h
theorem abG{k:Nat->Prop}(hp:∀p,x=.one (.c (.rf p))->okP (toM m) p)(h:Tx gd m x k):Ki (toM m) x.toV k:=by
 unfold Tx at h;split at h
 ·exact E7 h
 ·grind [At.toV,A1.toV,Tt.toT,C.toD,Ki,E7]
 ·exact h
 all_goals grind [At.toV,A1.toV,Tt.toT,Ki,Bu,E7]
theorem mA{x:Option At}{d:Nat}{k:Nat->Prop}(h:io x d k):im (x.map At.toV) d k:=by
 unfold io at h;split at h
 ·exact h
 ·exact h
 grind
theorem Ug{P:Program}{lo hi:Option At}(h:wP P t x lo hi k):mg P t x.toV (lo.map At.toV) (hi.map At.toV) (up k):=by
 have c:∀{y:Option At}{d:Nat}{k1 k2:Nat->Prop},(∀n,k1 n->k2 n)->io y d k1->io y d k2:=by
  intro y d k1 k2 hk hb;unfold io at hb⊢
  grind
 unfold wP at h;split at h
 ·rename_i l;split at h
  ·rename_i f;refine⟨f,mA (c (fun a g=>mA (c (fun b hb=>?_) g)) h)⟩;exact⟨hb.1,_,rfl,hb.2⟩
  grind
 ·rename_i u l;split at h
  ·rename_i e f;split at h
   ·rename_i hc;simp only[aiW]at hc;simp only[At.toV,A1.toV,Tt.toT,C.toD,mg,f];refine⟨hc.1,fun y hy=>?_,mA (c (fun a g=>?_) h)⟩
    ·grind [lA,ai5]
    ·rw[ai2]
     grind [mA,At.toV,A1.toV,Tt.toT,C.toD,ak5,alG]
   grind
  grind
 all_goals grind [At.toV,A1.toV,Tt.toT,mg,mA]
theorem pJ{n:Nat}(h:pI m p n=true):jd (toM m) p n:=by
 unfold pI at h;split at h
 ·cases h
 ·rename_i r hr;unfold jd room;rw[bz hr];dsimp only;have d:=za r.cells r.hole
  split at h
  ·rename_i a;rw[a];show n < (holed (r.cells.map Tt.toT) r.hole).length-p.off
   rw[d.len];exact ajA h
  ·rename_i st q sub u l a hc;rw[a];split at h
   ·rename_i k hk;have g:=(akE.1 hc).1
    have b:p.off < (holed (r.cells.map Tt.toT) r.hole).length:=by grind [HL.len]
    have:=d.nth p.off _ _ hc (aiY b)
    have e:∃l',r.toR.cells[p.off]? = some (.ow sub l'):=by
     rcases this with e|⟨sh,j,l2,f,c,i,_⟩
     ·exact⟨_,by show(holed _ _)[p.off]? = _;rw[aiY b,e];rfl⟩
     ·simp only[Tt.ow.injEq]at c;obtain⟨rfl,_,_⟩:=c;exact⟨f,by show(holed _ _)[p.off]? = _;grind⟩
    grind [ajA]
   grind
  grind
theorem BV{P:Program}(h:iU P m t x i k):gL P (toM m) t x.toV i (up k):=by
 unfold iU at h;split at h
 ·rename_i fs a;unfold gL;rw[a];dsimp only;cases hf:fs[i]? with
  |none=>grind
  |some f=>
   obtain⟨off,size,b⟩:=f;rw[hf]at h;cases size with
   |zero=>grind
   |succ size=>
    dsimp only at h⊢;refine⟨by omega,?_⟩;split at h
    ·split at h
     ·rename_i hr;exact⟨pJ hr,_,rfl,h⟩
     grind
    ·exact⟨_,rfl,h⟩
    grind
 grind
theorem rQ{P:Program}{i:At}(hp:∀p,x=.one (.c (.rf p))->okP (toM m) p)(h:gP P m t x i k):gO P (toM m) t x.toV i.toV (up k):=by
 unfold gP at h;split at h
 ·rename_i κ n;simp only[At.toV,A1.toV,Tt.toT,C.toD,gO];split at h
  ·rename_i e a;rw[a];split at h
   ·grind [At.toV,A1.toV,Tt.toT,lA,ai5,cz]
   ·rename_i p;split at h
    ·rename_i hc;simp only[aiW]at hc;split at h
     ·rename_i sh u l hs;split at h
      ·rename_i hb;obtain⟨h1,h2⟩:=h;simp only[At.toV,A1.toV,Tt.toT];refine⟨hc.1,by have:=ajA hc.2;omega,Bu (hp p rfl) hs (fun l' hl=>?_)⟩;dsimp only;exact⟨⟨h1.1,by omega⟩,ai5 hb,_,rfl,h2⟩
      grind
     grind
    grind
   grind
  ·rename_i N e a;rw[a];split at h
   ·rename_i u l i;split at h
    ·rename_i hc;simp only[aiW]at hc;obtain⟨h1,h2⟩:=h;simp only[At.toV,A1.toV,Tt.toT];refine⟨hc.1.1,h1,_,?_,h2⟩;simp only[At.toV,A1.toV,Tt.toT];rw[ai5 hc.1.2,Nat.mul_one,Nat.add_comm];rfl
    grind
   all_goals grind [At.toV,A1.toV,Tt.toT,pJ]
  grind
 grind
theorem AC{P:Program}(hp:∀p,x=.one (.c (.pl p))->okP (toM m) p)(h:mQ P m t x k):uC P (toM m) t x.toV (up k):=by
 unfold mQ at h;split at h
 ·rename_i b;refine⟨b,?_⟩;split at h
  ·rename_i row o;simp only[At.toV,A1.toV,Tt.toT];split at h
   ·rename_i a;rw[if_pos a];split at h
    ·rename_i hb;refine⟨by simp_all,fun _=>⟨_,?_,h⟩⟩;simp only[At.toV,A1.toV,AV.one.injEq,AV1.agg.injEq];rw[aj9,<- alG,<- ak5,aj9];rfl
    grind
   ·rename_i a;rw[if_neg (by grind),ai4];split at h
    ·rename_i c hc;rw[hc];exact fun _=>⟨_,rfl,h⟩
    grind
  ·rename_i u l i;simp only[At.toV,A1.toV,Tt.toT];split at h
   ·rename_i a hl;have e:l[i]? = some (l.getD i (dflt u)):=by grind
    rw[if_neg (by grind),ai4,e];exact fun _=>⟨_,rfl,h.2⟩
   grind
  ·rename_i p;simp only[At.toV,A1.toV,Tt.toT];split at h
   ·grind [Mq,At.toV,A1.toV,Zf]
   ·rename_i a;rw[if_neg (by grind)];split at h
    ·rename_i t' d;refine Mq (hp p rfl) d (fun ts' f=>?_);have hl:=f.len
     match ts',hl with
     |[g],_=>
      dsimp only;refine fun _=>⟨_,?_,h⟩
      simp only[At.toV,A1.toV];rw[Vp (f.nth 0 _ _ rfl rfl)]
    grind
  grind
 grind
theorem sr(x:At):fh x.toV=(qC x).map (·.map Tt.toT):=by
 cases x with
 |one x=>cases x<;>rfl
 |_=>rfl
theorem TO{α β:Type}(f:α->β)(ts cs:List α)(off:Nat):(overw ts off cs).map f=overw (ts.map f) off (cs.map f):=by
 grind [overw,ak5,alG]
theorem qF{pl:Nat->Option (Nat×Nat)}:∀{a:List (Nat×At)}{ts ts':List Tt},sE pl ts a=some ts'->jQ pl (ts.map Tt.toT) (a.map fun x=>(x.1,x.2.toV))=some (ts'.map Tt.toT)
 |[],ts,ts',h=>by simp only[sE,aiX]at h;subst h;rfl
 |(i,x)::r,ts,ts',h=>by
  simp only[sE]at h;simp only[aiZ,jQ];cases b:pl i with
  |none=>grind
  |some q=>
   obtain⟨off,size⟩:=q;cases hc:qC x with
   |none=>grind
   |some cs=>
    rw[b,hc]at h;dsimp only at h;split at h
    ·rename_i hb;simp only[aiW]at hb;rw[sr,hc];dsimp only[Option.map_some];have hs:(cs.map Tt.toT).all T.sure=true:=by
      grind [Lu]
     rw[if_pos ⟨by grind [ai5],by rw[ai2,ai2];exact ajA hb.1.2,hs⟩];rw[<- TO];exact qF h
    grind
theorem wy{s:St}(h:(ps.toList.all fun x=>aH x.2)=true):kI s.toS ps=(kJ s ps).map fun x=>(x.1,x.2.toV):=by
 grind [kI,kJ,ajG,ah]
theorem PZ(h:zs.all okT=true):(zs.map ui).map Tt.toT=zs.map rG:=by
 grind [ajG,vS]
theorem ac5{P:Program}{pl:List (Nat×Nat)}(h:zst P t=some (zs,pl)):zs.all okT=true:=by
 grind [zst]
theorem RF{P:Program}{a:List (Nat×At)}(h:vN P t a k):so P t (a.map fun x=>(x.1,x.2.toV)) (up k):=by
 unfold vN at h;split at h
 ·rename_i zs b hz;split at h
  ·rename_i ts hf;unfold so;rw[hz];dsimp only;have:=qF hf
   rw[PZ (ac5 hz)]at this;rw[this];exact⟨.one (.agg ts),rfl,h⟩
  grind
 grind
end
theorem eh(bad:Bool->Pl->Bool)(t:Tt):(t.kill bad).toT=t.toT.kill bad:=by
 cases t with
 |pl p=>
  show(if bad false p=true then Tt.any else Tt.pl p).toT=if bad false p=true then T.any else T.pl p
  grind [Tt.toT]
 |rf p=>
  show(if bad true p=true then Tt.any else Tt.rf p).toT=if bad true p=true then T.any else T.rf p
  grind [Tt.toT]
 |_=>rfl
theorem zp(bad:Bool->Pl->Bool)(ts:List Tt):(ts.map (·.kill bad)).map Tt.toT=(ts.map Tt.toT).map (·.kill bad):=by
 grind [ajG,eh]
theorem wY(bad:Bool->Pl->Bool)(x:A1):(x.kill bad).toV=x.toV.kill bad:=by
 cases x<;>grind [A1.kill,A1.toV,AV1.kill,eh,zp]
theorem GD(bad:Bool->Pl->Bool)(x:At):(x.kill bad).toV=x.toV.kill bad:=by
 cases x with
 |one x=>simp only[At.kill,At.toV,AV.kill,wY]
 |tup xs=>
  simp_all[At.kill,At.toV,AV.kill,wY]
 |any=>rfl
variable{bad:Bool->Pl->Bool}
theorem iO{t:Tt}(h:t.hit bad=false):t.kill bad=t:=by
 cases t<;>grind [Tt.hit,Tt.kill]
theorem pc:∀{ts:List Tt},ts.any (·.hit bad)=false->ts.map (·.kill bad)=ts
 |[],_=>rfl
 |t::ts,h=>by
  simp only[List.any_cons,Bool.or_eq_false_iff]at h;rw[aiZ,iO h.1,pc h.2]
theorem yI{x:A1}(h:x.hit bad=false):x.kill bad=x:=by
 cases x with
 |c t=>simp only[A1.kill,iO (show t.hit bad=false from h)]
 |agg ts=>simp only[A1.kill,pc (show ts.any _=false from h)]
theorem LS(h:x.hit bad=false):x.kill bad=x:=by
 cases x with
 |one x=>simp only[At.kill,yI (show x.hit bad=false from h)]
 |tup xs=>
  simp only[At.hit]at h;simp only[At.kill]
  congr 1
  induction xs<;>grind [yI]
 |any=>rfl
theorem MZ(bad:Bool->Pl->Bool)(cells:List Tt)(hole:Option (Nat×Step×List Step)) :
  holed ((cells.map (·.kill bad)).map Tt.toT) hole=(holed (cells.map Tt.toT) hole).map (·.kill bad):=by
 rw[zp];cases hole with
 |none=>rfl
 |some h=>
  obtain⟨off,st,q⟩:=h;simp only[holed];rw[ai4 (f:=fun t=>T.kill bad t)];cases hc:(cells.map Tt.toT)[off]? with
  |none=>rfl
  |some t=>
   simp only[Option.map_some];cases t<;>grind [T.kill,ajP]
theorem xl(bad:Bool->Pl->Bool)(r:Rt):(r.kill bad).toR={ r.toR with cells:=r.toR.cells.map (·.kill bad) }:=by
 simp only[Rt.toR,Rt.kill,MZ]
theorem qJ(bad:Bool->Pl->Bool)(nx:Nat)(t:List (Nat×Nat×At)):(oO bad nx t).map (fun x=>(x.1,x.2.2.toV))=oP bad (t.map fun x=>(x.1,x.2.2.toV)):=by
 grind [oO,oP,ajG,GD]
theorem fB(bad:Bool->Pl->Bool)(nx:Nat)(m:List (Nm×Nat×Rt)):toM (cT bad nx m)=aP bad (toM m):=by
 grind [cT,aP,ajG,xl]
variable{nx:Nat}
theorem Ey{m:List (Nm×Nat×Rt)}:ND (cT bad nx m) ↔ ND m:=by
 grind [cT]
theorem AJ{k:Nm}:∀{m:List (Nm×Nat×Rt)},k∈(gi m n).map (·.1)->k∈m.map (·.1)/\k≠n
 |[],h=>by simp[gi]at h
 |(k',j,v)::m,h=>by
  simp only[gi]at h;split at h
  ·have:=AJ h;grind
  ·rename_i hk;simp only[aiZ,ai7]at h;rcases h with rfl|h
   ·grind
   ·have:=AJ h;grind
theorem L3{n:Nm}:∀{m:List (Nm×Nat×Rt)},ND m->ND (gi m n)
 |[],_=>by simp[ND,gi]
 |(k,j,v)::m,h=>by
  have h':k ∉ m.map (·.1)/\(m.map (·.1)).Nodup:=by grind
  simp only[gi];split
  ·exact L3 h'.2
  ·have:=L3 (n:=n) h'.2
   grind [AJ]
theorem Dt(n:Nm)(i:Nat)(r:Rt):∀m:List (Nm×Nat×Rt),(eI m n i r).map (·.1)=m.map (·.1)
 |[]=>rfl
 |(k,j,v)::m=>by
  simp only[eI];split
  ·rfl
  ·simp only[aiZ,Dt n i r m]
theorem gR{g:G}{s:St}{a:Act}{w:World}{H:FH}{γ:Gam}{F:Nm->Fp}(h:RX g s.toS a w H γ F):ND s.m:=by
 have:=h.mem.keys
 grind [St.toS]
theorem b9{s:St}(h:ND s.m):(s.drop n).toS=s.toS.drop n:=by
 have h1:=qJ (bU n) s.nx s.t
 have h2:=fB (bU n) s.nx (gi s.m n)
 rw[pu n s.m h]at h2;exact S_ext h1 h2
where
 S_ext {t t':List (Nat×AV)} {m m':Mm} (h1:t=t') (h2:m=m'):(⟨t,m⟩:S)=⟨t',m'⟩:=by grind
theorem Py{s:St}(h:ND s.m):ND (s.drop n).m:=Ey.2 (L3 h)
theorem bE{s:St}(h:ND s.m):(s.fresh n).toS=s.toS.fresh n:=by
 unfold St.fresh S.fresh;have e:af s.toS.m n=(cw s.m n).map Rt.toR:=um n s.m
 grind [b9]
def SEq(s s':S):Prop:=(∀i,bd s.t i=bd s'.t i)/\s.m=s'.m
theorem br{g:G}{s s':S}{a:Act}{w:World}{H:FH}{γ:Gam}{F:Nm->Fp}(e:SEq s s')(h:RX g s a w H γ F):RX g s' a w H γ F:=by
 obtain⟨t,m⟩:=s;obtain⟨t',m'⟩:=s';obtain⟨c,b⟩:=e;dsimp only at c b;subst b;exact⟨h.mem,h.fr,h.nt,h.df,fun i=>by rw[<- c i];exact h.t i⟩
theorem C3{g:G}{s s':S}{a:Act}{w:World}(e:SEq s s')(h:R g s a w):R g s' a w:=by
 obtain⟨H,γ,F,h⟩:=h;exact⟨H,γ,F,br e h⟩
theorem aJ(s:St)(d:Option Tmp)(v:At):SEq (s.toS.put d v.toV) (s.put d v).toS:=by
 cases d with
 |none=>exact⟨fun _=>rfl,rfl⟩
 |some d=>
  refine⟨fun i=>?_,rfl⟩;show bd (tb _ d v.toV) i=bd ((d,v.toV)::_) i
  rw[iW];rfl
theorem Dz(f:Nat×Nat×At->Nat×At)(k:Nat):∀t:List (Nat×Nat×At),cD (t.map fun x=>(x.1,f x)) k=(cD t k).map fun y=>f (k,y)
 |[]=>rfl
 |(i,j,v)::t=>by
  simp only[aiZ,cD];cases hb:Nat.beq i k with
  |true=>grind [ai5]
  |false=>exact Dz f k t
theorem wm(f:Nm×Nat×Rt->Nat×Rt)(k:Nm):∀t:List (Nm×Nat×Rt),cX (t.map fun x=>(x.1,f x)) k=(cX t k).map fun y=>f (k,y)
 |[]=>rfl
 |(i,j,v)::t=>by
  simp only[aiZ,cX];by_cases hb:i=k
  ·grind
  ·rw[if_neg hb,if_neg hb];exact wm f k t
structure Ext (s0 s:St):Prop where
 nx:s0.nx<=s.nx
 t:∀k j v,cD s.t k=some (j,v)->j<s0.nx->cD s0.t k=some (j,v)
 m:∀n j r,cX s.m n=some (j,r)->j<s0.nx->cX s0.m n=some (j,r)
theorem Ext.refl(s:St):Ext s s:=⟨ai0 _,fun _ _ _ h _=>h,fun _ _ _ h _=>h⟩
theorem Ext.trans{a b c:St}(h1:Ext a b)(h2:Ext b c):Ext a c:=
 ⟨ajJ h1.nx h2.nx,fun k j v h hj=>h1.t k j v (h2.t k j v h (Nat.lt_of_lt_of_le hj h1.nx)) hj,fun k j v h hj=>h1.m k j v (h2.m k j v h (Nat.lt_of_lt_of_le hj h1.nx)) hj⟩
abbrev L1(nx:Nat)(t t':List (Nat×Nat×At)):Prop:=∀k j v,cD t' k=some (j,v)->j<nx->cD t k=some (j,v)
abbrev GG(nx:Nat)(m m':List (Nm×Nat×Rt)):Prop:=∀n j r,cX m' n=some (j,r)->j<nx->cX m n=some (j,r)
theorem GG.trans{a b c:List (Nm×Nat×Rt)}(h1:GG nx a b)(h2:GG nx b c):GG nx a c:=fun n j r h hj=>h1 n j r (h2 n j r h hj) hj
theorem L1.trans{a b c:List (Nat×Nat×At)}(h1:L1 nx a b)(h2:L1 nx b c):L1 nx a c:=fun n j r h hj=>h1 n j r (h2 n j r h hj) hj
theorem vt{t:List (Nat×Nat×At)}(d i:Nat)(v:At)(hi:nx<=i):L1 nx t ((d,i,v)::t):=by
 grind [cD]
theorem mi{t:List (Nm×Nat×Rt)}(d:Nm)(i:Nat)(v:Rt)(hi:nx<=i):GG nx t ((d,i,v)::t):=by
 grind [cX]
theorem tE{t:List (Nat×Nat×At)}(a:At->Bool)(f:At->At)(hf:∀v,a v=false->f v=v)(hi:nx<=i) :
  L1 nx t (t.map fun x=>(x.1,stp (a x.2.2) i x.2.1,f x.2.2)):=by
 intro k j v h hj;rw[Dz (fun x=>(stp (a x.2.2) i x.2.1,f x.2.2))]at h;cases hl:cD t k with
 |none=>grind
 |some y=>
  obtain⟨j',b⟩:=y;rw[hl]at h;simp only[Option.map_some,aiX,Prod.mk.injEq]at h;cases hc:a b<;>grind [stp]
theorem iL{t:List (Nat×Nat×At)}(hi:nx<=i):L1 nx t (oO bad i t):=tE (·.hit bad) (·.kill bad) (fun _ h=>LS h) hi
theorem eY{t:List (Nm×Nat×Rt)}(hi:nx<=i):GG nx t (cT bad i t):=by
 intro k j v h hj;unfold cT at h;rw[wm (fun x=>(stp (x.2.2.cells.any (·.hit bad)) i x.2.1,x.2.2.kill bad))]at h;cases hl:cX t k with
 |none=>grind
 |some y=>
  obtain⟨j',r⟩:=y;rw[hl]at h;simp only[Option.map_some,aiX,Prod.mk.injEq]at h;cases hc:r.cells.any (·.hit bad)with
  |true=>grind [stp]
  |false=>
   rw[hc]at h;have:r.kill bad=r:=by unfold Rt.kill;rw[pc hc]
   grind [stp]
theorem sP(n k:Nm):∀m:List (Nm×Nat×Rt),cX (gi m n) k=if k=n then none else cX m k
 |[]=>by simp[gi,cX]
 |(i,j,v)::m=>by
  simp only[gi];by_cases h:i=n
  ·subst h;rw[if_pos rfl,sP i k m]
   grind [cX]
  ·rw[if_neg h];simp only[cX];by_cases hk:i=k
   ·grind
   ·rw[if_neg hk,if_neg hk,sP n k m]
theorem oY{m:List (Nm×Nat×Rt)}(n:Nm):GG nx m (gi m n):=by
 grind [sP]
theorem dz(n:Nm)(r:Rt)(hi:nx<=i):∀m:List (Nm×Nat×Rt),GG nx m (eI m n i r)
 |[],_,_,_,h,_=>h
 |(a,b,c)::m,k,j,v,h,hj=>by
  simp only[eI]at h;split at h
  ·grind [cX]
  ·simp only[cX]at h⊢;split at h
   ·grind
   ·rename_i hk;rw[if_neg hk];exact dz n r hi m k j v h hj
theorem aC(s:St)(d:Option Tmp)(v:At):Ext s (s.put d v):=by
 cases d with
 |none=>exact Ext.refl s
 |some d=>exact⟨ajV _,vt d s.nx v (ai0 _),fun _ _ _ h _=>h⟩
theorem tF(s:St)(n:Nm):Ext s (s.drop n):=⟨ajV _,iL (ai0 _),(oY n).trans (eY (ai0 _))⟩
theorem bY(s:St)(n:Nm):Ext s (s.fresh n):=by
 grind [St.fresh,Ext.refl,tF]
theorem dk(s:St)(n:Nm)(r:Rt):Ext s (s.root n r):=⟨ajV _,fun _ _ _ h _=>h,mi n s.nx r (ai0 _)⟩
theorem Mi(q:Pl)(u:U)(l:List (El u))(t:Tt):(t.frz q u l).toT=t.toT.frz q (l.map (ap u)):=by
 cases t with
 |pl p=>exact eh (thr q) (.pl p)
 |rf p=>
  obtain⟨n,o,path⟩:=p;cases path with
  |nil=>
   show(if n=q.root/\o=q.off then Tt.d (.li u l)else(Tt.rf ⟨n,o,[]⟩).kill (thr q)).toT=if n=q.root/\o=q.off then T.d (.li (l.map (ap u)))else(T.rf ⟨n,o,[]⟩).kill (thr q)
   by_cases h:n=q.root/\o=q.off
   ·rw[if_pos h,if_pos h];rfl
   ·rw[if_neg h,if_neg h];exact eh (thr q) (.rf ⟨n,o,[]⟩)
  |cons st r=>exact eh (thr q) (.rf ⟨n,o,st::r⟩)
 |_=>rfl
theorem Mh(n:Nm)(c:C)(t:Tt):(t.frm n c).toT=t.toT.frm n c.toD:=by
 cases t with
 |pl p=>exact eh (bU n) (.pl p)
 |rf p=>
  obtain⟨r,o,path⟩:=p;by_cases h:r=n
  ·simp only[Tt.frm,Tt.toT,T.frm,if_pos h]
   grind
  simp_all[Tt.frm,Tt.toT,T.frm]
 |_=>rfl
variable{f:Tt->Tt}
theorem yJ{f':T->T}(h:∀t,(f t).toT=f' t.toT)(x:A1):(x.map f).toV=x.toV.map f':=by
 cases x with
 |c t=>grind [A1.map,A1.toV,AV1.map]
 |agg ts=>
  simp_all[A1.map,A1.toV,AV1.map]
theorem r7{f':T->T}(h:∀t,(f t).toT=f' t.toT)(x:At):(x.map f).toV=x.toV.map f':=by
 cases x with
 |one x=>grind [At.map,At.toV,AV.map,yJ]
 |tup xs=>
  simp_all[At.map,At.toV,AV.map,yJ]
 |any=>rfl
variable{q:Pl}
theorem Rl{l:List (El u)}{t:Tt}(h:t.hit (OG q)=false):t.frz q u l=t:=by
 cases t with
 |pl p=>
  simp only[Tt.hit,OG,akR,Bool.or_false]at h;exact iO (t:=.pl p) h
 |rf p=>
  simp only[Tt.hit,OG,ajT,Bool.or_eq_false_iff]at h;obtain⟨n,o,path⟩:=p;cases path with
  |nil=>
   simp only[Tt.frz];rw[if_neg (by grind)];exact iO (t:=.rf ⟨n,o,[]⟩) h.1
  |cons st r=>exact iO (t:=.rf ⟨n,o,st::r⟩) h.1
 |_=>rfl
theorem Rk{t:Tt}(h:t.hit (bU n)=false):t.frm n c=t:=by
 cases t with
 |pl p=>exact iO (t:=.pl p) h
 |rf p=>
  simp_all[Tt.hit,bU,Tt.frm]
 |_=>rfl
theorem vr(hf:∀{t:Tt},t.hit bad=false->f t=t)(h:x.hit bad=false):x.map f=x:=by
 have one:∀{y:A1},y.hit bad=false->y.map f=y:=by
  intro y hy;cases y with
  |c t=>simp only[A1.map,hf (show t.hit _=false from hy)]
  |agg ts=>
   simp only[A1.hit]at hy;simp only[A1.map]
   congr 1
   induction ts<;>grind
 cases x with
 |one y=>simp only[At.map,one (show y.hit _=false from h)]
 |tup xs=>
  simp only[At.hit]at h;simp only[At.map]
  congr 1
  induction xs<;>grind
 |any=>rfl
theorem QT{l:List (El u)}(h:x.hit (OG q)=false):x.map (Tt.frz q u l)=x:=vr Rl h
theorem nR(n:Nm):∀m:List (Nm×Nat×Rt),cw m n=(cX m n).map (·.2)
 |[]=>rfl
 |(k,j,r)::m=>by
  simp only[cw,cX];by_cases h:k=n
  ·grind
  ·rw[if_neg h,if_neg h];exact nR n m
theorem vw(s:St)(q:Pl):Ext s (ul s q):=by
 unfold ul;split
 ·split
  ·rename_i u l _ _;refine⟨ajV _,tE (·.hit (OG q)) (·.map (Tt.frz q u l)) (fun _ h=>QT h) (ai0 _),?_⟩
   grind [setCell,dz,eY]
  ·split
   ·exact⟨ajV _,tE (·.hit (bU q.root)) (·.map (Tt.frm q.root _)) (fun _ h=>vr Rk h) (ai0 _),(oY q.root).trans (eY (ai0 _))⟩
   ·exact Ext.refl s
  ·exact Ext.refl s
 ·exact Ext.refl s
variable{off:Nat}
theorem p5{m:List (Nm×Nat×Rt)}{t:Tt}(hr:cw m n=some r)(a:r.hole=none) :
  toM (setCell m n i off t)=cM (toM m) n ⟨r.blk,(r.toR.cells).set off t.toT⟩:=by
 grind [setCell,fE,Rt.toR,holed,ajP]
theorem E6{m:List (Nm×Nat×Rt)}{t:Tt}(hr:cw m n=some r):cw (setCell m n i off t) n=some { r with cells:=r.cells.set off t }:=by
 unfold setCell;rw[hr];dsimp only;induction m<;>grind [eI,cw]
theorem Dn(bad:Bool->Pl->Bool)(i:Nat)(n:Nm)(m:List (Nm×Nat×Rt)):cw (cT bad i m) n=(cw m n).map (·.kill bad):=by
 rw[nR,nR];unfold cT;rw[wm (fun x=>(stp (x.2.2.cells.any (·.hit bad)) i x.2.1,x.2.2.kill bad))];cases cX m n<;>rfl
theorem pw(h:leaf u=true)(x:El u):(ap u x).headD .any=(am u x).toD:=by cases u<;>first|rfl|cases h
theorem aaR(ku vu:U)(l:List (El ku×El vu)):frL (l.map fun x=>((am ku x.1).toD,Sh.fr,(am vu x.2).toD))=true:=by
 grind [frL]
theorem vB{g:G}{s:St}{a:Act}{w:World}{H:FH}{γ:Gam}{F:Nm->Fp}(h:RX g s.toS a w H γ F)(q:Pl):∃H' F',RX g (ul s q).toS a w H' γ F':=by
 unfold ul;split
 ·rename_i r b hr;split
  ·rename_i sh u l c hc;obtain⟨H',F',h'⟩:=L5 h q;refine⟨H',F',?_⟩;have z:r.toR.cells[q.off]? = some (.ow sh (l.map (ap u))):=by
    show(holed (r.cells.map Tt.toT) r.hole)[q.off]? = _
    rw[c];show(r.cells.map Tt.toT)[q.off]? = _
    rw[ai4,hc];rfl
   have p:af s.toS.m q.root=some r.toR:=bz hr
   have v:aZ s.toS.m q=some (.ow sh (l.map (ap u))):=by
    grind [aZ]
   have e:Jq s.toS q=⟨sQ (AV.map (T.frz q (l.map (ap u)))) s.toS.t,Jp s.toS.m q (l.map (ap u))⟩:=by
    grind [Jq]
   rw[e]at h';have key:(⟨s.nx+1,s.t.map fun x=>(x.1,stp (x.2.2.hit (OG q)) s.nx x.2.1,x.2.2.map (Tt.frz q u l)),
     setCell (cT (thr q) s.nx (setCell s.m q.root s.nx q.off .any)) q.root s.nx q.off (.d (.li u l))⟩:St).toS=⟨sQ (AV.map (T.frz q (l.map (ap u)))) s.toS.t,Jp s.toS.m q (l.map (ap u))⟩:=by
    refine b9.S_ext ?_ ?_
    ·simp only[St.toS,sQ,aj9]
     grind [ajG,r7,Mi]
    ·have g1:=E6 (i:=s.nx) (off:=q.off) (t:=.any) hr
     have g2:cw (cT (thr q) s.nx (setCell s.m q.root s.nx q.off .any)) q.root=some (({ r with cells:=r.cells.set q.off .any }:Rt).kill (thr q)):=by grind [Dn]
     show toM (setCell _ q.root s.nx q.off (.d (.li u l)))=_
     rw[p5 g2 c,fB,p5 hr c];unfold Jp;have y:bk s.toS.m q .any=cM (toM s.m) q.root ⟨r.blk,r.toR.cells.set q.off Tt.any.toT⟩:=by
      unfold bk;rw[p,b];rfl
     rw[y];have g3:af (aP (thr q) (cM (toM s.m) q.root ⟨r.blk,r.toR.cells.set q.off Tt.any.toT⟩)) q.root=some ⟨r.blk,(r.toR.cells.set q.off Tt.any.toT).map (·.kill (thr q))⟩:=by
      grind [bz,fB,p5,xl,Rt.toR,holed,ajP]
     grind [bk,Rt.toR,Rt.kill,holed,ajP,zp,Tt.toT,C.toD]
   grind
  ·rename_i ku vu l c hc;split
   ·rename_i x hb f k;simp only[aiW]at k;have n:q.off=0:=by
     grind
    have hx:x=.mp ku vu l:=by grind
    have j:af s.toS.m q.root=some ⟨false,[.mp (l.map fun x=>((am ku x.1).toD,Sh.fr,(am vu x.2).toD))]⟩:=by
     have:=bz hr
     unfold Rt.toR at this;rw[hb,f,c,hx]at this;exact this
    obtain⟨H',F',h'⟩:=Zm h j (aaR ku vu l);refine⟨H',F',?_⟩;have o:mpD (l.map fun x=>((am ku x.1).toD,Sh.fr,(am vu x.2).toD))=(C.mp ku vu (some l)).toD:=by
     show D.mp (some ((l.map _).map _))=D.mp (some (l.map _))
     grind [ajG,pw]
    rw[o]at h';have key:(WZ s q.root (.mp ku vu (some l))).toS=frzm s.toS q.root (C.mp ku vu (some l)).toD:=by
     refine b9.S_ext ?_ ?_
     ·simp_all[St.toS,WZ,sQ,r7,Mh]
     ·have h2:=fB (bU q.root) s.nx (gi s.m q.root)
      rw[pu q.root s.m (gR h)]at h2;exact h2
    grind
   grind
  grind
 grind
variable{v:At}
section
variable {g:G} {a:Act} {w:World} {γ:Gam}
theorem C2{s:St}{H:FH}{F:Nm->Fp}(h:RX g s.toS a w H γ F)(t:Tt):∃H' F',RX g (Qa s t).toS a w H' γ F':=by
 cases t with
 |rf p=>exact vB h p
 |_=>exact⟨H,F,h⟩
theorem zk:∀(ts:List Tt)(s:St)(H:FH)(F:Nm->Fp),RX g s.toS a w H γ F->∃H' F',RX g (E5 s ts).toS a w H' γ F'
 |[],_,H,F,h=>⟨H,F,h⟩
 |t::ts,s,H,F,h=>by
  obtain⟨H1,F1,h1⟩:=C2 h t;exact zk ts _ H1 F1 h1
theorem gS{s:St}{H:FH}{F:Nm->Fp}(h:RX g s.toS a w H γ F)(v:At):∃H' F',RX g (gZ s v).toS a w H' γ F':=by
 cases v with
 |one x=>cases x with
  |c t=>exact C2 h t
  |agg ts=>exact zk ts s H F h
 |_=>exact⟨H,F,h⟩
theorem km:∀(vs:List At)(s:St)(H:FH)(F:Nm->Fp),RX g s.toS a w H γ F->∃H' F',RX g (fb s vs).toS a w H' γ F'
 |[],_,H,F,h=>⟨H,F,h⟩
 |v::vs,s,H,F,h=>by
  obtain⟨H1,F1,h1⟩:=gS h v;exact km vs _ H1 F1 h1
theorem Io{s s':St}{H:FH}{F:Nm->Fp}(hX:RX g s.toS a w H γ F)(hf:∀(g':G) (H:FH) (F:Nm->Fp),RX g' s.toS a w H γ F->∃H' F',RX g' s'.toS a w H' γ F') :
  ∃H' F',RX g s'.toS a w H' γ F'/\∀b o y,H b o=some y->H' b o=some y:=by
 let g':G:=⟨g.nt,w,H,tot F s.toS.m,g.out,g.ex,g.dfs⟩
 have c:RX g' s.toS a w H γ F:=⟨hX.mem,Fr.refl' rfl rfl rfl rfl (fun _ h=>h),hX.nt,⟨hX.df.1,hX.df.2.1,kl hX⟩,hX.t⟩
 obtain⟨H',F',h⟩:=hf g' H F c;exact⟨H',F',⟨h.mem,hX.fr.trans h.fr,h.nt,⟨h.df.1,h.df.2.1,hX.df.2.2⟩,h.t⟩,h.fr.hold⟩
theorem qs:∀(ts:List Tt)(s:St)(p:Pl)(H:FH)(F:Nm->Fp),RX g s.toS a w H γ F->∃H' F',RX g (xz s p ts).toS a w H' γ F'
 |[],s,_,H,F,h=>⟨H,F,h⟩
 |t::ts,s,p,H,F,h=>by
  cases t with
  |rf q=>
   simp only[xz];split
   ·obtain⟨H1,F1,h1⟩:=vB h q;exact qs ts _ _ H1 F1 h1
   ·exact qs ts _ _ H F h
  |_=>exact qs ts s (p.add 1) H F h
theorem Re{s:St}{H:FH}{F:Nm->Fp}(h:RX g s.toS a w H γ F)(x v:At):∃H' F',RX g (Jr s x v).toS a w H' γ F':=by
 unfold Jr;split
 ·exact qs _ _ _ H F h
 grind
theorem Cu(s:St)(t:Tt):Ext s (Qa s t):=by
 cases t with
 |rf p=>exact vw s p
 |_=>exact Ext.refl s
theorem yR:∀(ts:List Tt)(s:St),Ext s (E5 s ts)
 |[],s=>Ext.refl s
 |t::ts,s=>(Cu s t).trans (yR ts _)
theorem iM(s:St)(v:At):Ext s (gZ s v):=by
 cases v with
 |one x=>cases x with
  |c t=>exact Cu s t
  |agg ts=>exact yR ts s
 |_=>exact Ext.refl s
theorem qk:∀(ts:List Tt)(s:St)(p:Pl),Ext s (xz s p ts)
 |[],s,_=>Ext.refl s
 |t::ts,s,p=>by
  cases t with
  |rf q=>
   simp only[xz];split
   ·exact(vw s q).trans (qk ts _ _)
   ·exact qk ts _ _
  |_=>exact qk ts s (p.add 1)
theorem QY(s:St)(x v:At):Ext s (Jr s x v):=by
 unfold Jr
 grind [qk,Ext.refl]
theorem fo:∀(vs:List At)(s:St),Ext s (fb s vs)
 |[],s=>Ext.refl s
 |v::vs,s=>(iM s v).trans (fo vs _)
theorem zm{s:St}{H:FH}{F:Nm->Fp}(h:RX g s.toS a w H γ F)(o:Oper):∃H' F',RX g (KR s o).toS a w H' γ F':=by
 unfold KR;split
 ·exact gS h _
 ·exact gS h _
 grind
theorem GH(s:St)(o:Oper):Ext s (KR s o):=by
 grind [KR,iM,Ext.refl]
theorem Dj{s:S}{t:Tt}(h:t.noRf=true):W0 s t.toT=s:=by
 cases t with
 |rf p=>cases h
 |_=>rfl
theorem Ab{s:S}:∀{ts:List Tt},ts.all Tt.noRf=true->Dk s (ts.map Tt.toT)=s
 |[],_=>rfl
 |t::ts,h=>by
  simp only[ajE,aiW]at h;simp only[aiZ,Dk];rw[Dj h.1,Ab h.2]
theorem vZ{s:S}(h:v.noRf=true):Js s v.toV=s:=by
 cases v with
 |one x=>cases x with
  |c t=>exact Dj h
  |agg ts=>exact Ab h
 |_=>rfl
theorem sH{s:S}:∀{vs:List At},vs.all At.noRf=true->pF s (vs.map At.toV)=s
 |[],_=>rfl
 |v::vs,h=>by
  simp only[ajE,aiW]at h;simp only[aiZ,pF];rw[vZ h.1,sH h.2]
theorem NV{s:St}{H:FH}{F:Nm->Fp}(hX:RX g s.toS a w H γ F){x:Operand}(hc:aH x=true) :
  (∀p,evA s x=.one (.c (.rf p))->okP (toM s.m) p)/\(∀p,evA s x=.one (.c (.pl p))->okP (toM s.m) p):=by
 have h:=aL hX hc
 rw[ah hc]at h;refine⟨fun p e=>?_,fun p e=>?_⟩
 ·rw[e]at h;obtain⟨_,h1,_⟩:=h;exact pQ h1
 ·rw[e]at h;obtain⟨_,h1,_⟩:=h;exact NW h1
theorem SL{n:Nat}{q a:Prop}(hq:q->a)(h:gift gd n q):gift gd n a:=by
 cases gd with
 |none=>exact fun b=>hq (h b)
 |some _=>exact hq h
theorem Dw{m:List (Nm×Nat×Rt)}{k k':Nat->Prop}(hk:∀n,k n->k' n)(h:Tx gd m x k):Tx gd m x k':=by
 unfold Tx at h⊢
 grind [SL]
theorem S2(x:At):qH x.toV=Xl x:=by
 cases x with
 |one x=>cases x with
  |c t=>cases t with
   |d c=>cases c<;>rfl
   |_=>rfl
  |agg ts=>rfl
 |_=>rfl
theorem Yn{e:En}{o:Oper}{s:St}{k:At->Prop}{H:FH}{F:Nm->Fp}(hX:RX g s.toS a w H γ F)(hc:opC g.nt o=true)(h:qT e o s k):qK e.P o s.toS (up k):=by
 unfold opC at hc;rw[aiW]at hc;obtain⟨_,hc⟩:=hc;unfold qT at h;unfold qK;cases ho:o.op with
 |move x=>grind [ah]
 |assign x=>grind [ah]
 |pick c x y=>
  grind [ah,Ya]
 |binOp op t x y z=>
  grind [ah,ZG]
 |unOp op t x=>grind [ah,agU]
 |load t x=>rw[ho]at h hc;dsimp only at hc⊢;rw[ah hc];exact AC (NV hX hc).2 h
 |field t x i=>grind [ah,SH]
 |fieldAddr t x i=>rw[ho]at h hc;dsimp only at hc⊢;rw[ah hc];exact BV h
 |indexAddr t x i=>
  rw[ho]at h hc;simp only[aiW]at hc;dsimp only;rw[ah hc.1,ah hc.2];exact rQ (NV hX hc.1).1 h
 |index t x i=>
  grind [ah,Up]
 |extract x i=>grind [ah,Jb]
 |convert m p x=>grind [ah,WH]
 |slice t x lo hi l=>
  rw[ho]at h hc;cases l with
  |some _=>omega
  |none=>
   dsimp only at h hc⊢;simp only[aiW]at hc;have j:∀(y:Option Operand),y.all aH=true->y.map (ev s.toS)=(y.map (evA s)).map At.toV:=by
    intro y hy;cases y<;>grind [ah]
   grind [ah,Ug]
 |nilCheck x=>grind [ah,FF]
 |build t ps=>grind [wy,RF]
 |call c=>
  rw[ho]at h hc;obtain⟨f,args,d⟩:=c;obtain⟨args⟩:=args;obtain⟨d⟩:=d;dsimp only at h hc⊢;cases f with
  |builtin b=>
   cases b with
   |len=>
    match args,d,h with
    |[x],[t],h=>
     have h1:aH x=true:=by grind
     dsimp only at h⊢;split at h
     ·rename_i hl;rw[ah h1,S2];refine⟨hl,?_⟩;exact abG (NV hX h1).1 (Dw (fun n hn=>⟨_,rfl,hn⟩) h)
     grind
   |_=>omega
  |_=>omega
 |_=>grind
end
theorem rk{x x':El u}(h:La u x off c=some x'):(∃d,(ap u x)[off]? = some d)/\ap u x'=(ap u x).set off c.toD:=by
 unfold La at h;split at h
 ·rename_i a hc;have e:=wW h
  refine⟨⟨a.toD,by grind [cz]⟩,?_⟩
  grind [cz,ajP]
 grind
theorem Lj:∀{path:List Step}{sub:List Sh}{u:U}{l l':List (El u)}{t:Tt}{k:Prop}{K:List (List D)->Prop},sV sub u l path k->Li sub u l t path=some l'->K (l'.map (ap u))->iA sub (l.map (ap u)) t.toT path K
 |[],_,_,_,_,_,_,_,h,_,_=>h.elim
 |[st],sub,u,l,l',t,k,K,h,a,b=>by
  obtain⟨h1,_⟩:=h;simp only[Li]at a;simp only[iA];rw[lB l h1];dsimp only;split at a
  ·rename_i c hs;split at a
   ·rename_i x hx;simp only[aiX]at a;subst a;obtain⟨⟨d,hd⟩,e⟩:=rk hx;rw[hs,hd];dsimp only;refine⟨trivial,?_⟩;rw[ajP,e]at b;exact b
   grind
  ·rename_i hs;split at a
   ·rename_i u' j hf;split at a
    ·rename_i x hx;simp only[aiX]at a;subst a;obtain⟨⟨d,hd⟩,e⟩:=rk hx;rw[hs,hd];dsimp only;refine⟨trivial,?_⟩;rw[ajP,e]at b;exact b
    grind
   grind
  grind
 |st::m::r,sub,u,l,l',t,k,K,h,a,b=>by
  simp only[Li]at a;simp only[iA];simp only[sV]at h;split at a
  ·rename_i s u' j i g;rw[i,g]at h;obtain⟨h1,h4⟩:=h;rw[lB l h1];dsimp only;split at a
   ·rename_i l2 f;split at a
    ·rename_i x hx;simp only[aiX]at a;subst a;obtain⟨_,e⟩:=rk hx;have n:(ap u (l.getD st.idx (dflt u)))[st.off]? = some (.li (j.map (ap u'))):=by
      rw[<- cz,ai4,g];rfl
     rw[i,n];dsimp only;refine Lj h4 f ?_;rw[ajP,e]at b;exact b
    grind
   grind
  grind
mutual
theorem YI:∀{a b:Sh},Lm a b=true->a=b
 |.fr,.fr,_=>rfl
 |.ow a,.ow b,h=>by simp only[Lm]at h;rw[kf h]
 |.fr,.ow _,h=>by simp[Lm]at h
 |.ow _,.fr,h=>by simp[Lm]at h
theorem kf:∀{a b:List Sh},mf a b=true->a=b
 |[],[],_=>rfl
 |a::r,b::q,h=>by
  simp only[mf,aiW]at h;rw[YI h.1,kf h.2]
 |[],_::_,h=>by simp[mf]at h
 |_::_,[],h=>by simp[mf]at h
end
theorem Je:∀{path:List Step}{sub:List Sh}{u:U}{l l':List (El u)}{sh:List Sh}{v:U}{j:List (El v)}{k:Prop}{K:List (List D)->Prop},sV sub u l path k->Jd sub u l sh v j path=some l'->K (l'.map (ap u)) ->
  iA sub (cx sub (l.map (ap u)) .any path) (.ow sh (j.map (ap v))) path K
 |[],_,_,_,_,_,_,_,_,_,h,_,_=>h.elim
 |[st],sub,u,l,l',sh,v,j,k,K,h,a,i=>by
  obtain⟨h1,_⟩:=h;have h1':st.idx < (l.map (ap u)).length:=by grind
  simp only[Jd]at a;split at a
  ·rename_i s c hs hc;split at a
   ·rename_i x o hx;simp only[aiX]at a;subst a;obtain⟨⟨d,hd⟩,e⟩:=rk hx;have f:st.off < (ap u (l.getD st.idx (dflt u))).length:=cg hd
    have b:cx sub (l.map (ap u)) .any [st]=(l.map (ap u)).set st.idx ((ap u (l.getD st.idx (dflt u))).set st.off .any):=by
     grind [cx]
    rw[b];simp only[iA];rw[ajN h1'];dsimp only;rw[hs,ajN f];dsimp only;refine⟨kf o,?_⟩;rw[ak4,ak4];rw[ajP,e]at i;exact i
   grind
  grind
 |st::g::r,sub,u,l,l',sh,v,j,k,K,h,a,i=>by
  simp only[Jd]at a;simp only[sV]at h;split at a
  ·rename_i s u' m q p;rw[q,p]at h;obtain⟨h1,h4⟩:=h;have h1':st.idx < (l.map (ap u)).length:=by grind
   split at a
   ·rename_i l2 n;split at a
    ·rename_i x hx;simp only[aiX]at a;subst a;obtain⟨_,e⟩:=rk hx;have t:(ap u (l.getD st.idx (dflt u)))[st.off]? = some (.li (m.map (ap u'))):=by
      rw[<- cz,ai4,p];rfl
     have f:st.off < (ap u (l.getD st.idx (dflt u))).length:=cg t
     have w:(ap u (l.getD st.idx (dflt u))).getD st.off default=.li (m.map (ap u')):=by grind
     have b:cx sub (l.map (ap u)) .any (st::g::r)=(l.map (ap u)).set st.idx ((ap u (l.getD st.idx (dflt u))).set st.off (.li (cx s (m.map (ap u')) .any (g::r)))):=by
      grind [cx]
     rw[b];simp only[iA];rw[ajN h1'];dsimp only;rw[q,ajN f];dsimp only;refine Je h4 n ?_;rw[ak4,ak4];rw[ajP,e]at i;exact i
    grind
   grind
  grind
theorem FO:∀{path:List Step}{sub:List Sh}{u:U}{l:List (El u)}{k:Prop},sV sub u l path k->k
 |[],_,_,_,_,h=>h.elim
 |[st],_,_,_,_,h=>h.2
 |st::a::r,sub,u,l,k,h=>by
  simp only[sV]at h;split at h
  ·exact FO h.2
  grind
theorem qZ:∀{path:List Step}{sub:List Sh}{u:U}{l:List (El u)}{k k':Prop},(k->k')->sV sub u l path k->sV sub u l path k'
 |[],_,_,_,_,_,_,h=>h.elim
 |[st],_,_,_,_,_,hk,h=>⟨h.1,hk h.2⟩
 |st::a::r,sub,u,l,k,k',hk,h=>by
  simp only[sV]at h⊢;split at h
  ·exact⟨h.1,qZ hk h.2⟩
  omega
theorem De:∀{a b:List Step}{k:Prop},sD a b k->a=b/\k
 |[],[],_,h=>⟨rfl,h⟩
 |x::r,y::q,k,h=>by
  simp only[sD]at h;split at h
  ·rename_i hb;rw[aiW]at hb;obtain⟨e,hk⟩:=De h.2;obtain⟨d,c,a3⟩:=x;simp_all
  grind
 |[],_::_,_,h=>h.elim
 |_::_,[],_,h=>h.elim
theorem xw:∀{a b:List Step}{k k':Prop},(k->k')->sD a b k->sD a b k'
 |[],[],_,_,hk,h=>hk h
 |x::r,y::q,k,k',hk,h=>by
  simp only[sD]at h⊢;split at h
  ·exact⟨h.1,xw hk h.2⟩
  omega
 |[],_::_,_,_,_,h=>h.elim
 |_::_,[],_,_,_,h=>h.elim
theorem Ao:∀{path:List Step}{sub:List Sh}{u:U}{l:List (El u)}{sh:List Sh}{v:U}{b:List (El v)},okO sub (l.map (ap u)) path->inT sub u l 1 path=some [.ow sh v b]->bJ sub (l.map (ap u)) path=some (.ow sh,.li (b.map (ap v)))
 |[],_,_,_,_,_,_,h,_=>h.elim
 |[st],sub,u,l,sh,v,b,h,a=>by
  obtain⟨h1,h2,h3⟩:=h;rw[ai2]at h1;simp only[inT]at a;split at a
  ·simp only[aiX]at a;have d:sub[st.off]? = some sub[st.off]:=aiY h3
   cases hc:(flat u (l.getD st.idx (dflt u)))[st.off]? with
   |none=>
    simp_all[List.drop_eq_nil_of_le]
   |some c=>
    have m:=cg hc
    have o:(flat u (l.getD st.idx (dflt u)))[st.off]=c:=by
     grind
    have n:(sub.drop st.off).take 1=[sub[st.off]]:=by grind [ajO]
    have k:((flat u (l.getD st.idx (dflt u))).drop st.off).take 1=[c]:=by grind [ajO]
    rw[n,k]at a;simp only[List.zipWith_cons_cons,List.zipWith_nil_left,List.cons.injEq,and_true]at a;simp only[bJ,d,Option.map_some,pG l h1];have f:(ap u (l.getD st.idx (dflt u))).getD st.off default=c.toD:=by
     grind [cz]
    rw[f];generalize sub[st.off]=s0 at a;cases s0 with
    |fr=>cases a
    |ow s1=>
     cases c with
     |li u1 l1=>
      simp only[Tt.ow.injEq]at a;obtain⟨rfl,rfl,e⟩:=a;rw[eq_of_heq e];rfl
     |_=>cases a
  grind
 |st::i::r,sub,u,l,sh,v,b,h,a=>by
  obtain⟨⟨h1,h2,h3⟩,h4⟩:=h;rw[ai2]at h1;simp only[inT]at a;split at a
  ·rename_i s u' j d g;have f:(ap u (l.getD st.idx (dflt u))).getD st.off default=.li (j.map (ap u')):=by
    rw[List.getD,<- cz,ai4,g];rfl
   rw[d,pG l h1,f]at h4;simp only[bJ];rw[d,pG l h1,f];exact Ao h4 a
  grind
variable{sub:List Sh}
theorem Jz{cells:List Tt}{l:List (El u)}(st:Step)(q:List Step)(h:cells[off]? = some (.ow sub u l)) :
  holed (cells.map Tt.toT) (some (off,st,q))=(cells.map Tt.toT).set off (.ow sub (cx sub (l.map (ap u)) .any (st::q))):=by
 unfold holed;dsimp only;rw[ai4,h];rfl
def DL(row:List D)(off:Nat):List D->List D
 |[]=>row
 |d::r=>DL (row.set off d) (off+1) r
def jO(sub:List Sh)(l:List (List D)):List T->List Step->(List (List D)->Prop)->Prop
 |[],_,K=>K l
 |t::ts,path,K=>iA sub l t path fun l1=>jO sub l1 ts (ba path 1) K
theorem p7:∀{path:List Step}{sub:List Sh}{l:List (List D)}{t:T}{K K':List (List D)->Prop},(∀x,K x->K' x)->iA sub l t path K->iA sub l t path K'
 |[],_,_,_,_,_,_,h=>h.elim
 |[st],sub,l,t,K,K',hk,h=>by
  grind [iA]
 |st::a::r,sub,l,t,K,K',hk,h=>by
  simp only[iA]at h⊢;split at h
  ·split at h
   ·exact p7 (fun x hx=>hk _ hx) h
   omega
  omega
def JF:T->Bool
 |.d _=>true
 |.nil=>true
 |_=>false
theorem Br{idx esz:Nat}:∀{ts:List T}{l:List (List D)}{off:Nat}{row:List D}{K:List (List D)->Prop},l[idx]? = some row->ts.all JF=true->frs sub off ts.length=true->off+ts.length<=row.length ->
  K (l.set idx (DL row off (ts.map T.toD)))->jO sub l ts [⟨idx,esz,off⟩] K
 |[],l,off,row,K,hl,_,_,_,c=>by
  have:l.set idx row=l:=by
   apply akC
   grind
  simp only[aj4,DL,this]at c;exact c
 |t::ts,l,off,row,K,hl,hd,hf,b,c=>by
  simp only[ajE,aiW]at hd;simp only[ai1]at b hf;simp only[frs]at hf;cases hs:sub[off]? with
  |none=>grind
  |some s=>
   rw[hs]at hf;cases s with
   |ow _=>cases hf
   |fr=>
    dsimp only at hf;have a:off<row.length:=by omega
    simp only[jO,iA];rw[hl];dsimp only;rw[hs,aiY a];dsimp only;refine⟨by have h0:=hd.1;cases t<;>first|trivial|(simp[JF]at h0),?_⟩;have d:=cg hl
    show jO sub _ ts [⟨idx,esz,off+1⟩] K
    refine Br (row:=row.set off t.toD) (ajN d) hd.2 hf (by grind) ?_;rw[ak4];exact c
theorem EG(st a:Step)(r:List Step)(n:Nat):ba (st::a::r) n=st::ba (a::r) n:=rfl
theorem xI{s:List Sh}{st c:Step}:∀{ts:List T}{r:List Step}{l l':List (List D)}{row:List D}{K:List (List D)->Prop},l[st.idx]? = some row->sub[st.off]? = some (.ow s)->row[st.off]? = some (.li l') ->
  jO s l' ts (c::r) (fun g=>K (l.set st.idx (row.set st.off (.li g))))->jO sub l ts (st::c::r) K
 |[],r,l,l',row,K,hl,hs,hc,h=>by
  have k:row.set st.off (.li l')=row:=by
   apply akC
   grind
  have j:l.set st.idx row=l:=by
   apply akC
   grind
  grind [jO]
 |t::ts,r,l,l',row,K,hl,hs,hc,h=>by
  simp only[jO,iA]at h⊢;rw[hl];dsimp only;rw[hs,hc];dsimp only;refine p7 (fun l1 h1=>?_) h;rw[EG];have i:=cg hl
  have d:=cg hc
  obtain⟨f,r2,e⟩:∃f r2,ba (c::r) 1=f::r2:=by
   cases r with
   |nil=>exact⟨_,_,rfl⟩
   |cons a b=>exact⟨_,_,rfl⟩
  rw[e]at h1⊢;refine xI (row:=row.set st.off (.li l1)) (l':=l1) (ajN i) hs (ajN d) ?_
  grind [ak4]
theorem AY:∀{ts:List Tt}{cs a:List C}{off:Nat},kH cs off ts=some a->a.map C.toD=DL (cs.map C.toD) off ((ts.map Tt.toT).map T.toD)/\(ts.map Tt.toT).all JF=true/\(ts≠[]->off+ts.length<=cs.length)/\a.length=cs.length
 |[],cs,a,off,h=>by
  simp only[kH,aiX]at h;subst h;exact⟨rfl,rfl,fun h=>(h rfl).elim,rfl⟩
 |t::r,cs,a,off,h=>by
  have step:∀{c:C},(∃e,cs[off]? = some e)->kH (cs.set off c) (off+1) r=some a->t.toT.toD=c.toD->JF t.toT=true ->
    a.map C.toD=DL (cs.map C.toD) off (((t::r).map Tt.toT).map T.toD)/\((t::r).map Tt.toT).all JF=true/\((t::r)≠[]->off+(t::r).length<=cs.length)/\a.length=cs.length:=by
   rintro c ⟨e,b⟩ h2 h3 h4
   obtain⟨k1,k2,k3,k4⟩:=AY h2;have f:=cg b
   refine⟨?_,by grind,fun _=>?_,by grind⟩
   ·grind [DL,ajP]
   ·simp only[ai1]
    grind
  cases t with
  |d c=>
   simp only[kH]at h;split at h
   ·cases h
   ·rename_i hc;exact step ⟨_,hc⟩ h rfl rfl
   grind
  |nil=>
   simp only[kH]at h;split at h
   ·rename_i u' g hc;exact step ⟨_,hc⟩ h rfl rfl
   grind
  |_=>simp[kH]at h
theorem Lk:∀{path:List Step}{sub:List Sh}{u:U}{l l':List (El u)}{ts:List Tt}{k:Prop}{K:List (List D)->Prop},ts≠[]->sV sub u l path k->u5 sub u l ts path=some l'->K (l'.map (ap u))->jO sub (l.map (ap u)) (ts.map Tt.toT) path K
 |[],_,_,_,_,_,_,_,_,h,_,_=>h.elim
 |[st],sub,u,l,l',ts,k,K,b,h,a,c=>by
  obtain⟨h1,_⟩:=h;simp only[u5]at a;split at a
  ·rename_i cs hf ho;split at a
   ·rename_i x hx;simp only[aiX]at a;subst a;obtain⟨k1,k2,k3,k4⟩:=AY ho;have e:=wW hx
    obtain⟨idx,esz,off⟩:=st;refine Br (lB l h1) k2 (by grind) ?_ ?_
    all_goals grind [cz,ajP]
   grind
  grind
 |st::i::r,sub,u,l,l',ts,k,K,b,h,a,c=>by
  simp only[u5]at a;simp only[sV]at h;split at a
  ·rename_i s u' j g f;rw[g,f]at h;obtain⟨h1,h4⟩:=h;split at a
   ·rename_i l2 d;split at a
    ·rename_i x hx;simp only[aiX]at a;subst a;obtain⟨_,e⟩:=rk hx;have m:(ap u (l.getD st.idx (dflt u)))[st.off]? = some (.li (j.map (ap u'))):=by
      rw[<- cz,ai4,f];rfl
     refine xI (lB l h1) g m (Lk b h4 d ?_);rw[ajP,e]at c;exact c
    grind
   grind
  grind
theorem Eb:∀{m:Mm}{n:Nm}{r a:Root},cM (cM m n r) n a=cM m n a
 |[],_,_,_=>rfl
 |(k,x)::m,n,r,a=>by
  simp only[cM];by_cases h:k=n
  ·grind [cM]
  ·rw[if_neg h,if_neg h];simp only[cM,if_neg h,Eb]
theorem Ea:∀{m:Mm}{n:Nm}{r:Root},af m n=some r->cM m n r=m
 |[],_,_,h=>by rfl
 |(k,x)::m,n,r,h=>by
  simp only[af]at h;simp only[cM];by_cases hk:k=n
  ·grind
  ·rw[if_neg hk]at h⊢;rw[Ea h]
variable{K:S->Prop}
theorem xQ:∀{ts:List T}{s:S}{p:Pl}{r:Root}{sub:List Sh}{l:List (List D)}{st:Step}{q:List Step},af s.m p.root=some r->p.path=st::q->r.cells[p.off]? = some (.ow sub l)->ts.all JF=true->(∀t∈ts,t≠.d .any) ->
  jO sub l ts (st::q) (fun l'=>K ⟨s.t,cM s.m p.root { r with cells:=r.cells.set p.off (.ow sub l') }⟩)->dH s p ts K
 |[],s,p,r,sub,l,st,q,hr,hp,hc,_,_,h=>by
  have j:r.cells.set p.off (.ow sub l)=r.cells:=by
   apply akC
   grind
  simp only[jO,j]at h;have:cM s.m p.root r=s.m:=Ea hr
  rw[show({ blk:=r.blk,cells:=r.cells }:Root)=r from rfl,this]at h;exact h
 |t::ts,s,p,r,sub,l,st,q,hr,hp,hc,hd,hn,h=>by
  simp only[ajE,aiW]at hd;have key:dH s p (t::ts) K=sZ s.m p t fun m'=>dH ⟨s.t,m'⟩ (p.add 1) ts K:=by
   cases t with
   |d c=>cases c with
    |any=>grind
    |_=>rfl
   |nil=>rfl
   |_=>grind [JF]
  rw[key];unfold sZ;rw[hr];dsimp only;rw[hp,hc];dsimp only;simp only[jO]at h;refine p7 (fun l1 h1=>?_) h;have k:=cg hc
  have i:(p.add 1).root=p.root/\(p.add 1).off=p.off/\(p.add 1).path=ba (st::q) 1:=by
   obtain⟨pr,n,o⟩:=p;dsimp only at hp;subst hp;exact⟨rfl,rfl,rfl⟩
  obtain⟨f,q2,e⟩:∃f r2,ba (st::q) 1=f::r2:=by
   cases q with
   |nil=>exact⟨_,_,rfl⟩
   |cons a b=>exact⟨_,_,rfl⟩
  rw[e]at h1;refine xQ (s:=⟨s.t,cM s.m p.root { r with cells:=r.cells.set p.off (.ow sub l1) }⟩) (p:=p.add 1) (r:={ r with cells:=r.cells.set p.off (.ow sub l1) }) (sub:=sub) (l:=l1) (st:=f) (q:=q2) ?_ (i.2.2.trans e) ?_ hd.2 (fun t g=>hn t (by simp[g])) ?_
  all_goals grind [fP,Eb,ak4]
theorem wv:∀{ts:List Tt}{cs a:List C}{off:Nat},kH cs off ts=some a->∀t∈ts.map Tt.toT,t≠.d .any
 |[],_,_,_,_,t,g=>by grind
 |t::r,cs,a,off,h,x,hx=>by
  cases t with
  |d c=>
   have f:c≠.any:=by rintro rfl;simp[kH]at h
   have h':∃b o,kH b o r=some a:=by
    simp only[kH]at h
    grind
   obtain⟨b,o,h'⟩:=h';rcases ai7.1 hx with rfl|hx
   ·intro e;simp only[Tt.toT,T.d.injEq]at e;cases c<;>first|exact f rfl|grind [C.toD]
   ·exact wv h' x hx
  |nil=>
   simp only[kH]at h;split at h
   ·rcases ai7.1 hx with rfl|hx
    ·intro e;cases e
    ·exact wv h x hx
   grind
  |_=>simp[kH]at h
theorem Ec:∀{path:List Step}{sub:List Sh}{u:U}{l l':List (El u)}{ts:List Tt},u5 sub u l ts path=some l'->(∀t∈ts.map Tt.toT,t≠.d .any)/\(ts.map Tt.toT).all JF=true
 |[],_,_,_,_,_,h=>by simp[u5]at h
 |[st],_,_,_,_,_,h=>by
  simp only[u5]at h;split at h
  ·rename_i ho;exact⟨wv ho,(AY ho).2.1⟩
  grind
 |st::a::r,_,_,_,_,_,h=>by
  simp only[u5]at h;split at h
  ·split at h
   ·rename_i hl;exact Ec hl
   grind
  grind
def tX(P:Program)(s:S)(t u:TypeId)(x y:Operand)(d:Tmp)(k:S->Prop):Prop:=
 match(ty P t).k with
 |.sl e=>(ty P e).ok=true/\(ty P u).k.isSS=true/\((zcells P e).map (·.length))=some (ty P e).size /\
  match jp s (ty P e).size (ev s y)with
  |some (s1,a,b)=>match jp s1 (ty P e).size (ev s1 x)with
   |some (s2,sub,l)=>a=sub/\FN a.length b/\l.length+b.length<=4611686018427387904/\(l.length+b.length)*(ty P e).bytes<=140737488355328 /\
    k (((s2.fresh (.gh d)).root (.gh d) ⟨false,[.ow sub (l++b)]⟩).put (some d) (.one (.c (.rf ⟨.gh d,0,[]⟩))))
   |none=>False
  |none=>False
 |_=>False
variable{d:Tmp}{l:List (List D)}{y:Operand}
section
variable {P:Program} {g:G} {s:S} {a:Act} {w:World} {H:FH} {γ:Gam} {F:Nm->Fp}
theorem aeH{k:Nat}{sh:Sh}{x:D}{f:Fp}{y:Value}(hs:x.sure=true)(h:OD w H k sh x f y):oT y=true:=by
 cases sh with
 |fr=>grind [OZ,fZ]
 |ow sub=>
  cases k with
  |zero=>cases x<;>first|(simp[OD]at h;done)|grind [D.sure]
  |succ k=>
   cases x with
   |li l=>
    obtain⟨a,c,_,_,rfl,_⟩:=mm h;rfl
   |any=>grind [D.sure]
   |_=>simp[OD]at h
theorem UR{k:Nat}:∀{b:List Sh}{xs:List D}{f:Fp}{vs:List Value},vs.length=xs.length->(∀x∈xs,x.sure=true)->Cs (OD w H k) b xs f vs->∀u∈vs,oT u=true
 |[],[],_,vs,hl,_,_=>by
  grind
 |s::b,x::xs,f,vs,hl,hx,h=>by
  obtain⟨v,r,f1,c,rfl,_,h1,h2⟩:=h;intro u a;rcases ai7.1 a with rfl|a
  ·exact aeH (hx x (by simp)) h1
  ·exact UR (by grind) (fun y hy=>hx y (by simp[hy])) h2 u a
 |[],_::_,_,_,_,_,h=>h.elim
 |_::_,[],_,_,_,_,h=>h.elim
theorem acR{k:Nat}{e:List (List D)}{f:Fp}{v:Value}(h:OD w H k (.ow sub) (.li e) f v)(g:FN sub.length e) :
  ∃(kx:Nat)(gx:Fp)(ws:List Value),Src P w sub.length v e.length ws/\Cs (OD w H kx) (List.replicate e.length sub).flatten e.flatten gx ws/\(∀u∈ws,oT u=true)/\∀b,gx b<=f b:=by
 cases k with
 |zero=>simp[OD]at h
 |succ k=>
  obtain⟨ad,c,o,vs,rfl,hlc,n,m,i,d,a⟩:=mm h;refine⟨k,o,vs,?_,d,?_,?_⟩
  ·rcases a with⟨rfl,rfl,rfl,_⟩|⟨b,cs,ty,fz,rfl,hb,hfz,hcsz,rfl,hf⟩
   ·simp_all[o9]
   ·refine vD i (fun j u hj=>?_)
    grind [World.cell?]
  ·refine UR (by grind [cR]) (fun x hx=>?_) d;rw[List.mem_flatten]at hx;obtain⟨y,hy,l⟩:=hx;exact(g y hy).2 x l
  grind [Cs]
theorem mw(h:RX g s a w H γ F){size:Nat}{x:AV}{v:Value}{s1:S}(hx:AR w H γ s.m x v)(hb:jp s size x=some (s1,sub,l)) :
  ∃k f F1,OD w H k (.ow sub) (.li l) f v/\RX g s1 a w H γ F1/\sub.length=size/\(∀b,tot F1 s1.m b+f b=tot F s.m b)/\(∀b,f b≠0->b<w.heap.size/\(∀o,H b o=none)/\(g.own0 b≠0\/g.w0.heap.size<=b)):=by
 match x,hb with
 |.one (.c .nil),hb=>
  simp only[jp,aiX,Prod.mk.injEq]at hb;obtain⟨rfl,rfl,rfl⟩:=hb;obtain⟨_,rfl⟩:=hx;refine⟨1,fun _=>0,F,?_,h,by simp,fun b=>rfl,fun b hb=>absurd rfl hb⟩
  grind [fq]
 |.one (.c (.rf q)),hb=>
  simp only[jp]at hb;cases j:aZ s.m q with
  |none=>grind
  |some t=>
   rw[j]at hb;cases t with
   |ow n l'=>
    dsimp only at hb;split at hb
    ·rename_i i;simp only[aiX,Prod.mk.injEq]at hb;obtain⟨rfl,rfl,rfl⟩:=hb;obtain⟨_,e,hv⟩:=hx;obtain⟨u,f,F',r,⟨k,p⟩,y,z⟩:=Il h (fC e) j;rw[hv]at r;obtain rfl:v=u:=by grind
     exact⟨k,f,F',p,y,i,z,fun b hb=>by
      have d:tot F s.m b≠0:=by grind
      exact⟨h.mem.lt b d,h.mem.nofz b d,h.fr.tt b d⟩⟩
    grind
   |_=>grind
theorem Ix(h:RX g s a w H γ F){t u tt:TypeId}{x:Operand}{k:S->Prop}(hd:okD g.nt (some d)=true)(hx:aH x=true)(hy:aH y=true)(j:tX P s t u x y d k) :
  ∃s' z w' H' γ' F',(Builtin.append_ #[t,u] tt #[a.eval x,a.eval y]).run P w=.ok z w'/\k s'/\RX g s' (a.put (some d) z) w' H' γ' F':=by
 unfold tX at j;cases hk:(ty P t).k with
 |sl e=>
  rw[hk]at j;obtain⟨N,V,A,j⟩:=j;obtain⟨_,td,hit,T,M,_⟩:=aY hk (by simp);have:=oS M
  subst this;obtain⟨L,de,I,_,_,i,p,_⟩:=jE N;rw[i,p]at j;rw[i]at A;obtain⟨zs,Z,A⟩:=ajF.1 A;obtain⟨U,z,W,hz,ad,_⟩:=kh Z;rw[I]at W;obtain rfl:L=U:=by grind
  have E:z.cells.size=L.size:=by grind
  obtain⟨B,huu,hudd⟩:∃B,P.underlying u=some B/\isSS B=true:=by
   have ab:(ty P u).k≠.ot:=fun e=>by grind [TK.isSS]
   obtain⟨_,B,_,h2,h3,_⟩:=aY rfl ab;refine⟨B,h2,?_⟩;rw[<- h3]at V;cases B<;>first|rfl|grind [gA,TK.isSS]
  cases K:jp s L.size (ev s y)with
  |none=>grind
  |some q1=>
   obtain⟨s1,r,ys⟩:=q1;rw[K]at j;dsimp only at j;obtain⟨k1,f1,F1,d1,h1,d3,d4,d5⟩:=mw h (aL h hy) K;cases D:jp s1 L.size (ev s1 x)with
   |none=>grind
   |some q=>
    obtain⟨s2,sub,l⟩:=q;rw[D]at j;obtain⟨J,c,G,R,j⟩:=j;subst J;obtain⟨kb,f,C,b1,b2,b3,O,b5⟩:=mw h1 (aL h1 hx) D;have b4:∀b,tot C s2.m b+f b+f1 b<=1:=fun b=>by have:=O b;have:=d4 b;have:=h.mem.le1 b;omega
    obtain⟨kx,gx,ws,r1,r2,r3,r4⟩:=acR (P:=P) d1 c;rw[d3]at r1;obtain⟨z',w',f',c1,⟨k',c2⟩,c3,c4,c5,c6,c7,c8,c9⟩:=Bm (tt:=tt) T huu hudd I hz E (gx:=gx) (kx:=kx) b3 b1 r1 (fun y hy=>(c y hy).1)
     r2 r3 (fun b=>by grind) (fun b hb=>by grind) G R
    have hX:=o7 b2 c3 c4 c5 c6 (fun b hb=>by
     grind)
    have Q:=cW hX (.gh d)
    have hn:=cC hX (.gh d)
    have Y:∀b,w.heap.size<=b->∀o,H b o=none:=by
     intro b hb o;cases hc:H b o with
     |none=>rfl
     |some y=>have:=(h1.mem.agree _ _ _ hc).lt;omega
    have ae:∀b,tot C (s2.fresh (.gh d)).m b<=tot C s2.m b:=by
     intro b;unfold S.fresh;split
     ·omega
     ·show tot C (aP _ _) b<=_
      rw[bu];exact gC
    have ac:tot C s2.m w.heap.size=0:=by
     rcases ajZ (tot C s2.m w.heap.size)with h'|h'
     ·exact h'
     ·have:=b2.mem.lt w.heap.size kQ1;omega
    have own:∀b,f' b≠0->b≠w.heap.size->b<w.heap.size/\(∀o,H b o=none)/\(g.own0 b≠0\/g.w0.heap.size<=b):=by
     grind
    obtain⟨γ',F',X,aa⟩:=dQ Q (n:=.gh d) rfl hn (v:=z') (t:=.ow r (l++ys)) (f:=f') ⟨k',c2⟩ (fun b=>by
      grind)
     (fun b hb=>⟨c9 b hb,by
      grind⟩)
     (fun b hb=>by
      by_cases ag:b=w.heap.size
      ·right;have:=b2.fr.size;omega
      grind)
    refine⟨_,z',w',H,γ',F',c1,j,RX.put X hd (ij (sub:=r) (l:=l++ys) ?_ aa)⟩;simp[af]
 |_=>grind
end
def fzS:List Sh->List T->Option (List D)
 |[],[]=>some []
 |.fr::a,t::ts=>match fzS a ts with
  |some r=>some (t.fz::r)
  |none=>none
 |.ow _::a,.nil::ts=>match fzS a ts with
  |some r=>some (.li []::r)
  |none=>none
 |_,_=>none
section
variable {P:Program} {g:G} {s:S} {a:Act} {w:World} {H:FH} {γ:Gam} {F:Nm->Fp}
theorem Et{k:Nat}{m:Mm}:∀{a:List Sh}{ts:List T}{xs:List D}{f:Fp}{vs:List Value},(∀b,f b=0)->fzS a ts=some xs->Ts (TR w H γ m) ts f vs ->
  Cs (OD w H (k+1)) a xs f vs
 |[],[],xs,_,_,hf,hz,_=>by
  simp only[fzS,aiX]at hz;subst hz;exact hf
 |.fr::a,t::ts,xs,f,vs,hf,hz,h=>by
  simp only[fzS]at hz;cases h5:fzS a ts with
  |none=>grind
  |some r0=>
   rw[h5]at hz;simp only[aiX]at hz;subst hz;obtain⟨v,r,f1,c,h1,h2,h3,h4⟩:=h;refine⟨v,r,f1,c,h1,h2,?_,Et (fun b=>by grind) h5 h4⟩;rw[fZ];refine⟨fun b=>by grind,?_⟩;cases t with
   |d x=>exact h3.2
   |nil=>obtain⟨_,rfl⟩:=h3;exact lj
   |_=>exact⟨0,trivial⟩
 |.ow sub::a,.nil::ts,xs,f,vs,hf,hz,h=>by
  simp only[fzS]at hz;cases h5:fzS a ts with
  |none=>grind
  |some r0=>
   rw[h5]at hz;simp only[aiX]at hz;subst hz;obtain⟨v,r,f1,c,h1,h2,h3,h4⟩:=h;refine⟨v,r,f1,c,h1,h2,?_,Et (fun b=>by grind) h5 h4⟩;obtain⟨_,rfl⟩:=h3
   grind [fq]
 |[],_::_,_,_,_,_,hz,_=>by grind [fzS]
 |.fr::_,[],_,_,_,_,hz,_=>by grind [fzS]
 |.ow _::_,[],_,_,_,_,hz,_=>by grind [fzS]
 |.ow _::_,.d _::_,_,_,_,_,hz,_=>by grind [fzS]
 |.ow _::_,.ow _ _::_,_,_,_,_,hz,_=>by grind [fzS]
 |.ow _::_,.el _ _::_,_,_,_,_,hz,_=>by grind [fzS]
 |.ow _::_,.pl _::_,_,_,_,_,hz,_=>by grind [fzS]
 |.ow _::_,.rf _::_,_,_,_,_,hz,_=>by grind [fzS]
 |.ow _::_,.any::_,_,_,_,_,hz,_=>by grind [fzS]
theorem zj(h:RX g s a w H γ F)(hno:n.isOut=false)(hn:af s.m n=none){cs:Array Value}{ty':TypeId}{len cap:Nat}(hl:l.length=len)(j:len<=cap)(d:len<=BIG)
  (hx:∀x∈l,x.length=sub.length) (p:cs.size=cap*sub.length) (f:∀k,Cs (OD w H (k+1)) (List.replicate len sub).flatten l.flatten (fun _=>0) cs.toList) :
  ∃γ' F',RX g (s.root n ⟨false,[.ow sub l]⟩) a (w.alloc (.cells cs ty')) H γ' F'/\γ' n=.gh (.slice (some ⟨w.heap.size,0,none⟩) len cap):=by
 obtain⟨q,hf,r,u⟩:=qm h.mem cs ty' false;simp only[ai8,false_and,if_false]at q hf r u;have hX:RX g s a (w.alloc (.cells cs ty')) H γ F:=jR h q hf (fun i=>dy r (fun _ _ _ h=>h) (h.t i)) (fun _=>rfl)
 have hz:tot F s.m w.heap.size=0:=by
  rcases ajZ (tot F s.m w.heap.size)with h'|h'
  ·exact h'
  ·have:=h.mem.lt w.heap.size kQ1;omega
 have z:∀o,H w.heap.size o=none:=by
  intro o;cases hc:H w.heap.size o with
  |none=>rfl
  |some y=>have:=(h.mem.agree _ _ _ hc).lt;omega
 have e:∀k,Cs (OD (w.alloc (.cells cs ty')) H (k+1)) (List.replicate len sub).flatten l.flatten (fun _=>0) cs.toList:=by
  intro k;refine lh _ _ _ _ (fun s x g v A c=>?_) (f k);exact cO (fun _ _ _ h=>h) (k+1) (k+1) _ _ _ _ (ai0 _) (fun b hb=>absurd (Nat.le_zero.1 (A b)) hb) c
 subst hl;have c:TR (w.alloc (.cells cs ty')) H γ s.m (.ow sub l) (fun b=>0+if b=w.heap.size then 1 else 0) (.slice (some ⟨w.heap.size,0,none⟩) l.length cap):=
  ⟨2,ze (bC) rfl p j d hx (e 0)⟩
 exact dQ hX hno hn c (fun b=>by
   grind [Mem.le1])
  (fun b hb=>by
   simp_all)
  (fun b hb=>by
   have B:b=w.heap.size:=by
    grind
   right;have:=h.fr.size;omega)
def jS(P:Program)(s0:S)(t:TypeId)(len:Nat)(sub:List Sh)(ps:Array (Nat×Operand))(d:Tmp)(k:S->Prop):Prop:=
 match(ty P t).k with
 |.sl e=>(ty P e).ok=true/\(zcells P e).isSome=true/\len*(ty P e).size<=16777216/\len<=16777216/\sub.length=(ty P e).size /\
  let s:=(pF s0 (ps.toList.map fun x=>ev s0 x.2)).fresh (.gh d)
  match jQ (fun i=>some (i*(ty P e).size,(ty P e).size)) (List.replicate (len*(ty P e).size) .any) (kI s ps)with
  |some ts=>match fzS (List.replicate len sub).flatten ts with
   |some xs=>k ((s.root (.gh d) ⟨false,[.ow sub (chunk (ty P e).size len xs)]⟩).put (some d) (.one (.c (.rf ⟨.gh d,0,[]⟩))))
   |none=>False
  |none=>False
 |_=>False
theorem xY(h:RX g s a w H γ F){t:TypeId}{len:Nat}{sub:List Sh}{k:S->Prop}(hd:okD g.nt (some d)=true)(hp:(ps.toList.all fun x=>aH x.2)=true)(b:jS P s t len sub ps d k) :
  ∃s' y w' H' γ' F',(Instr.buildSlice t len (ps.map fun(i,x)=>(i,a.eval x))).run P w=.ok y w'/\k s'/\RX g s' (a.put (some d) y) w' H' γ' F':=by
 unfold jS at b;cases hk:(ty P t).k with
 |sl e=>
  rw[hk]at b;obtain⟨v,A,f,O,K,b⟩:=b;obtain⟨_,td,hit,C,r,_⟩:=aY hk (by simp);have:=oS r
  subst this;obtain⟨c,T,q,_⟩:=jE v;have o:(ty P e).size=c.size:=by
   omega
  obtain⟨zs,G⟩:=Option.isSome_iff_exists.1 A;obtain⟨D,z,E,hz,_⟩:=kh G;rw[q]at E;obtain rfl:c=D:=by grind
  obtain⟨H1,F1,h1⟩:=zi (ps.toList.map fun x=>ev s x.2) s H F h;have h2:=cW h1 (.gh d)
  have hn:=cC h1 (.gh d)
  dsimp only at b;generalize(pF s (ps.toList.map fun x=>ev s x.2)).fresh (.gh d)=s2 at b h2 hn;cases hf:jQ (fun i=>some (i*(ty P e).size,(ty P e).size)) (List.replicate (len*(ty P e).size) .any) (kI s2 ps)with
  |none=>grind
  |some ts=>
   rw[hf]at b;dsimp only at b;rw[o]at hf b f K;have J:PR w H1 γ s2.m (kI s2 ps) (ps.map fun(i,x)=>(i,a.eval x)).toList:=by
    rw[Array.toList_map];exact tO (m:=s2.m) h2 hp
   have j:∀us:Array Value,us.size=len*c.size->∃cs,Instr.fill (fun i=>some (i*c.size,c.size)) us (ps.map fun(i,x)=>(i,a.eval x)).toList=some cs/\cs.size=ts.length/\Ts (TR w H1 γ s2.m) ts (fun _=>0) cs.toList:=by
    intro us hus;refine yu h2.mem _ _ _ us ts J (by grind) ?_ hf;have:=Mf (w:=w) (H:=H1) (γ:=γ) (m:=s2.m) (vs:=us.toList)
    grind
   have L:ts.length=len*c.size:=by rw[nK hf];simp
   obtain⟨us,cs,u1,Q,R⟩:=jM (P:=P) (w:=w) (t:=t) (e:=e) (len:=len) (vs:=ps.map fun(i,x)=>(i,a.eval x)) (cells:=#[]) C q hz kQ1 (fun us hus=>by
    grind)
   obtain⟨B,N,c2,c3⟩:=j us u1;rw[Q]at N;obtain rfl:cs=B:=by grind
   cases p:fzS (List.replicate len sub).flatten ts with
   |none=>grind
   |some xs=>
    rw[p]at b;dsimp only at b;have u:∀k,Cs (OD w H1 (k+1)) (List.replicate len sub).flatten xs (fun _=>0) cs.toList:=fun k=>Et (fun _=>rfl) p c3
    have M:xs.length=len*c.size:=by
     have h5:=(Cr _ _ _ _ (u 0)).1
     grind [cR,alA]
    obtain⟨γ',F',hX,I⟩:=zj h2 (n:=.gh d) rfl hn (cs:=cs) (ty':=e) (len:=len) (cap:=len) (sub:=sub) (l:=chunk c.size len xs) nH (ai0 _) (by
      show len<=2 ^ 62
      omega) (by grind [vQ]) (by grind) (fun k=>by
       grind [sx])
    refine⟨_,_,_,H1,γ',F',R,b,RX.put hX hd (ij (sub:=sub) (l:=chunk c.size len xs) ?_ I)⟩;simp[S.root,af]
 |_=>grind
end
abbrev upS(k:St->Prop):S->Prop:=fun s'=>∃t:St,SEq s' t.toS/\k t
theorem OM{P:Program}(h:zcells P t=some zs):zs.all okT=true:=by
 grind [zcells]
variable{E:Ut}{u0:TypeId}
section
variable {P:Program} {s:St} {k:St->Prop}
theorem Ro(hn:ND s.m)(h:vG P s t d k):vE P s.toS t d (upS k):=by
 unfold vG at h;split at h
 ·rename_i z zs hz;split at h
  ·rename_i hd;unfold vE;rw[hz];refine⟨by simp,ajA hd,_,?_,h⟩;have e:((s.fresh (og t d)).root (og t d) ⟨true,(z::zs).map ui,none⟩).toS=(s.toS.fresh (og t d)).root (og t d) ⟨true,(z::zs).map rG⟩:=by
    rw[<- bE hn,<- PZ (OM hz)];rfl
   rw[<- e];exact aJ ((s.fresh (og t d)).root (og t d) ⟨true,(z::zs).map ui,none⟩) (some d) (.one (.c (.pl ⟨og t d,0,[]⟩)))
  grind
 grind
theorem ZI{x:Operand}(hn:ND s.m)(hx:aH x=true)(h:RD s x d k):RB s.toS x d (upS k):=by
 unfold RD at h;split at h
 ·rename_i t ts hc;split at h
  ·rename_i hd;simp only[aiW]at hd;unfold RB;rw[<- bE hn,ah hx,sr,hc];dsimp only[Option.map_some];refine⟨by simp,?_,ajA hd.2,_,?_,h⟩
   ·grind [Lu]
   ·exact aJ ((s.fresh (.loc d)).root (.loc d) ⟨true,t::ts,none⟩) (some d) (.one (.c (.pl ⟨.loc d,0,[]⟩)))
  grind
 grind
theorem Qb{t:Tt}{x:El u}(h:BQ u t=some x):t.toT.fz=(am u x).toD:=by
 unfold BQ at h;split at h
 ·split at h
  ·simp only[aiX]at h;subst h;rfl
  grind
 ·rename_i c _;rw[dX h];rfl
 ·split at h
  ·simp only[aiX]at h;subst h;rfl
  grind
 grind
theorem Jt:∀{us:List U}{ts:List Tt}{x:Fl us},lr us ts=some x->ts.map (fun t=>t.toT.fz)=(fw us x).map C.toD
 |[],[],_,_=>rfl
 |u::r,c::cs,x,h=>by
  simp only[lr]at h;cases h1:BQ u c with
  |none=>grind
  |some y=>
   cases h2:lr r cs with
   |none=>grind
   |some z=>
    rw[h1,h2]at h;simp only[aiX]at h;subst h;rw[fw,uq,vf,aiZ,aiZ,Qb h1,Jt h2]
 |[],_::_,_,h=>by simp[lr]at h
 |_::_,[],_,h=>by simp[lr]at h
theorem aaT{x:El u}(h:nF u ts=some x):ts.map (fun t=>t.toT.fz)=ap u x:=by
 rw[<- cz];cases u with
 |st n=>
  simp only[nF]at h;cases h1:lr (sd n).fs ts with
  |none=>grind
  |some y=>
   rw[h1]at h;have:=Option.some.inj h
   subst this;show _=(fw (sd n).fs ((sd n).un ((sd n).mkF y))).map C.toD
   rw[(sd n).l2,Jt h1]
 |_=>
  cases ts with
  |nil=>cases h
  |cons t r=>cases r with
   |nil=>rw[j8 rfl];simp only[aiZ,aj4];rw[Qb h]
   |cons _ _=>cases h
theorem nQ:∀{rows:List (List Tt)}{l:List (El u)},lu u rows=some l->rows.map (fun r=>r.map fun t=>t.toT.fz)=l.map (ap u)
 |[],l,h=>by grind [lu]
 |r::rs,l,h=>by
  simp only[lu]at h;cases h1:nF u r with
  |none=>grind
  |some x=>
   cases h2:lu u rs with
   |none=>grind
   |some xs=>
    rw[h1,h2]at h;simp only[aiX]at h;subst h;rw[aiZ,aiZ,aaT h1,nQ h2]
theorem vP{α β:Type}(f:α->β)(size:Nat):∀(n:Nat)(l:List α),chunk size n (l.map f)=(chunk size n l).map (·.map f)
 |0,_=>rfl
 |n+1,l=>by simp only[chunk,aiZ,ak5];rw[<- alG,vP f size n]
theorem Iw(h:(kJ s ps).all (fun x=>x.2.noRf)=true):(ps.toList.map fun x=>evA s x.2).all At.noRf=true:=by
 grind [kJ,List.all_map]
theorem P6{xs:List (Nat×Operand)}(h:(xs.all fun x=>aH x.2)=true):(xs.map fun x=>ev s.toS x.2)=(xs.map fun x=>evA s x.2).map At.toV:=by
 grind [ajG,ah]
theorem zA{len:Nat}(b:(ps.toList.all fun x=>aH x.2)=true)
  (hn:ND (fb s (ps.toList.map fun x=>evA s x.2)).m) (h:gW P E s t len ps d k):gV P (fb s (ps.toList.map fun x=>evA s x.2)).toS t len ps d (upS k):=by
 unfold gW at h;split at h
 ·rename_i e i;split at h
  ·rename_i u z he hz;split at h
   ·rename_i hc;simp only[aiW]at hc;obtain⟨⟨⟨n,c2⟩,c3⟩,c4⟩:=hc;have f:=ai5 c2
    dsimp only at h;generalize hs1:fb s (ps.toList.map fun x=>evA s x.2)=s1 at h hn;split at h
    ·rename_i ts hf hno;split at h
     ·rename_i l hl;unfold gV;rw[i];dsimp only;refine⟨n,by grind,by simp_all,ajA c4,?_⟩;rw[P6 b,sH (Iw hno),<- bE hn,wy b,<- f];have a:=qF hf
      rw[List.map_replicate]at a;have e0:Tt.any.toT=T.any:=rfl
      rw[e0]at a;rw[a];dsimp only;refine⟨_,?_,h⟩;have j:(⟨false,[.ow (List.replicate (nc u) .fr) u l],none⟩:Rt).toR=⟨false,[.ow (List.replicate (nc u) .fr) (chunk (nc u) len ((ts.map Tt.toT).map T.fz))]⟩:=by
       have g:chunk (nc u) len ((ts.map Tt.toT).map T.fz)=l.map (ap u):=by rw[aj9,vP];exact nQ hl
       rw[g];rfl
      rw[<- j];exact aJ ((s1.fresh (.gh d)).root (.gh d) ⟨false,[.ow (List.replicate (nc u) .fr) u l],none⟩) (some d) (.one (.c (.rf ⟨.gh d,0,[]⟩)))
     grind
    grind
   grind
  grind
 grind
theorem vd:∀{a:List Sh}{ts:List Tt},qa a ts=true->fzS a (ts.map Tt.toT)=some (ts.map fun t=>t.toT.fz)
 |[],[],_=>rfl
 |.fr::r,t::ts,h=>by
  simp only[aiZ,fzS];rw[vd (show qa r ts=true from h)]
 |.ow sub::r,t::ts,h=>by
  cases t with
  |nil=>
   simp only[aiZ,Tt.toT,fzS];rw[vd (show qa r ts=true from h)];rfl
  |_=>simp[qa]at h
 |[],_::_,h=>by simp[qa]at h
 |.fr::_,[],h=>by simp[qa]at h
 |.ow _::_,[],h=>by simp[qa]at h
theorem xZ{len:Nat}(f:(ps.toList.all fun x=>aH x.2)=true)
  (hn:ND (fb s (ps.toList.map fun x=>evA s x.2)).m) (h:fJ P E sub s t len ps d k):jS P (fb s (ps.toList.map fun x=>evA s x.2)).toS t len sub ps d (upS k):=by
 unfold fJ at h;split at h
 ·rename_i e j;split at h
  ·rename_i u z he hz;split at h
   ·rename_i hc;simp only[aiW]at hc;obtain⟨⟨⟨⟨o,c2⟩,c3⟩,c4⟩,c5⟩:=hc;have g:=ai5 c2
    dsimp only at h;generalize hs1:fb s (ps.toList.map fun x=>evA s x.2)=s1 at h hn;split at h
    ·rename_i ts hf hno;split at h
     ·rename_i l hl b;unfold jS;rw[j];dsimp only;refine⟨o,by grind,by simp_all,ajA c4,by grind [ai5],?_⟩;rw[P6 f,sH (Iw hno),<- bE hn,wy f,<- g];have a:=qF hf
      rw[List.map_replicate]at a;have e0:Tt.any.toT=T.any:=rfl
      rw[e0]at a;rw[a];dsimp only;rw[vd b];dsimp only;refine⟨_,?_,h⟩;have n:(⟨false,[.ow sub u l],none⟩:Rt).toR=⟨false,[.ow sub (chunk (nc u) len (ts.map fun t=>t.toT.fz))]⟩:=by
       have i:chunk (nc u) len (ts.map fun t=>t.toT.fz)=l.map (ap u):=by grind [vP,nQ]
       rw[i];rfl
      rw[<- n];exact aJ ((s1.fresh (.gh d)).root (.gh d) ⟨false,[.ow sub u l],none⟩) (some d) (.one (.c (.rf ⟨.gh d,0,[]⟩)))
     grind
    grind
   grind
  grind
 grind
theorem zd{m:List (Nm×Nat×Rt)}(h:ND m):ND (eI m n i r):=by
 grind [Dt]
theorem TQ(t:Tt):t.toT.owned=t.owned:=by cases t<;>rfl
theorem QA{t:Tt}(h:KW s p t k)(hn:ND s.m):∃m',(∀K:Mm->Prop,K m'->sZ s.toS.m p t.toT K)/\∃s':St,s'.toS=⟨s.toS.t,m'⟩/\ND s'.m/\k s':=by
 unfold KW at h;split at h
 ·grind
 ·rename_i r hr;split at h
  ·rename_i t0 a f hc;split at h
   ·rename_i ho;have c:r.toR.cells=r.cells.map Tt.toT:=by show holed _ r.hole=_;rw[f];rfl
    refine⟨cM s.toS.m p.root ⟨r.blk,(r.cells.map Tt.toT).set p.off t.toT⟩,fun K e=>?_,_,?_,zd hn,h⟩
    ·unfold sZ;rw[show af s.toS.m p.root=some r.toR from bz hr];dsimp only;rw[a,c,ai4,hc];exact⟨by grind [TQ],e⟩
    refine b9.S_ext rfl ?_;show toM (eI s.m p.root s.nx _)=_
    rw[fE]
    congr 1
    grind [Rt.toR,holed,ajP]
   grind
  ·rename_i st q sub u l a f hc;split at h
   ·rename_i l' hl;have c:r.toR.cells=r.cells.map Tt.toT:=by show holed _ r.hole=_;rw[f];rfl
    refine⟨cM s.toS.m p.root ⟨r.blk,(r.cells.map Tt.toT).set p.off (.ow sub (l'.map (ap u)))⟩,fun K e=>?_,_,?_,zd hn,FO h⟩
    ·unfold sZ;rw[show af s.toS.m p.root=some r.toR from bz hr];dsimp only;rw[a,c,ai4,hc];exact Lj h hl e
    refine b9.S_ext rfl ?_;show toM (eI s.m p.root s.nx _)=_
    rw[fE]
    congr 1
    grind [Rt.toR,holed,ajP,Tt.toT]
   grind
  ·rename_i st q off g j sub u l a f hc;split at h
   ·rename_i sh v n hb;split at h
    ·rename_i l' hl;have d:off=p.off:=ai5 hb
     subst d;obtain⟨b,hk⟩:=De (FO h);have i:p.off < (r.cells.map Tt.toT).length:=by grind
     simp only[List.cons.injEq]at b;obtain⟨rfl,rfl⟩:=b;have c:r.toR.cells=(r.cells.map Tt.toT).set p.off (.ow sub (cx sub (l.map (ap u)) .any (g::j))):=by
      show holed _ r.hole=_
      grind [Jz]
     refine⟨cM s.toS.m p.root ⟨r.blk,(r.cells.map Tt.toT).set p.off (.ow sub (l'.map (ap u)))⟩,fun K e=>?_,_,?_,zd hn,hk⟩
     ·unfold sZ;rw[show af s.toS.m p.root=some r.toR from bz hr];dsimp only;rw[a,c,ajN i];refine Je h hl ?_;rw[ak4];exact e
     refine b9.S_ext rfl ?_;show toM (eI s.m p.root s.nx _)=_
     rw[fE]
     congr 1
     simp only[Rt.toR,holed,ajP,Tt.toT]
    grind
   grind
  grind
theorem XN(n:Nm)(t:Tt):t.toT.ment n=t.ment n:=by cases t<;>rfl
theorem tf(f:∀t:St,k t->K t.toS):∀{ts:List Tt}{s:St}{p:Pl},ND s.m->jY s p ts k->dH s.toS p (ts.map Tt.toT) K
 |[],s,p,hn,h=>f s h
 |t::ts,s,p,hn,h=>by
  have b:∀t:Tt,(∀q,t≠.rf q)->t≠.any->t≠.d .any->KW s p t (fun s'=>jY s' (p.add 1) ts k)->dH s.toS p (t.toT::ts.map Tt.toT) K:=by
   intro t h1 h2 h3 h;obtain⟨m',hp,s',e,hn',hk⟩:=QA h hn;have key:dH s.toS p (t.toT::ts.map Tt.toT) K=sZ s.toS.m p t.toT fun m'=>dH ⟨s.toS.t,m'⟩ (p.add 1) (ts.map Tt.toT) K:=by
    cases t with
    |rf q=>grind
    |any=>grind
    |d c=>cases c with
     |any=>grind
     |_=>rfl
    |_=>rfl
   rw[key];refine hp _ ?_;rw[<- e];exact tf f hn' hk
  cases t with
  |rf q=>
   simp only[jY]at h;split at h
   ·rename_i sub u l hr;split at h
    ·rename_i a g i;simp only[aiZ,Tt.toT,dH];rw[show af s.toS.m q.root=some (⟨false,[.ow sub u l],none⟩:Rt).toR from bz hr];refine⟨a,by grind,?_,?_⟩
     ·grind [XN]
     ·rw[<- b9 hn];obtain⟨m',hp,s',e,hn',hk⟩:=QA h (Py hn);refine hp _ ?_;rw[<- e];exact tf f hn' hk
    grind
   grind
  |any=>exact h.elim
  |d c=>cases c with
   |any=>exact h.elim
   |_=>exact b _ (fun _ h=>by cases h) (fun h=>by cases h) (fun h=>by cases h) h
  |_=>exact b _ (fun _ h=>by cases h) (fun h=>by cases h) (fun h=>by cases h) h
theorem Oc(g:∀t:St,k t->K t.toS)(b:ts≠[])(h:rb s p ts k):dH s.toS p (ts.map Tt.toT) K:=by
 unfold rb at h;split at h
 ·grind
 ·rename_i r hr;split at h
  ·rename_i st q sub u l a c hc;split at h
   ·rename_i l' hl;have f:r.toR.cells=r.cells.map Tt.toT:=by show holed _ r.hole=_;rw[c];rfl
    obtain⟨d,i⟩:=Ec hl;refine xQ (bz hr) a (sub:=sub) (l:=l.map (ap u)) (by rw[f,ai4,hc];rfl) i d (Lk b h hl ?_);have hk:=g _ (FO h)
    have e:(⟨s.nx+1,s.t,eI s.m p.root s.nx { r with cells:=r.cells.set p.off (.ow sub u l') }⟩:St).toS=⟨s.toS.t,cM s.toS.m p.root { r.toR with cells:=r.toR.cells.set p.off (.ow sub (l'.map (ap u))) }⟩:=by
     refine b9.S_ext rfl ?_;show toM (eI s.m p.root s.nx _)=_
     rw[fE]
     congr 1
     grind [Rt.toR,holed,ajP,Tt.toT]
    grind
   grind
  grind
theorem Un(b:∀t:St,k t->K t.toS)(hn:ND s.m)(h:wR P s t x v k):wQ P s.toS t x.toV v.toV K:=by
 unfold wR at h;split at h
 ·rename_i p ts hv;split at h
  ·rename_i hc;simp only[aiW]at hc;unfold wQ;rw[sr,hv];refine⟨hc.1.1,by grind [ai5],by rw[ai2];exact pJ hc.2,?_⟩;split at h
   ·rename_i a;refine Oc b (fun e=>?_) h;subst e;simp[ad5,Nat.blt]at a
   grind [tf]
  grind
 grind
theorem acQ{l:List (El u)}{size:Nat}(hs:nc u=size)(h:agP u v=some l):jX size v.toV=some (l.map (ap u))/\v.noRf=true:=by
 unfold agP at h;split at h
 ·simp only[aiX]at h;subst h;exact⟨rfl,rfl⟩
 ·rename_i u' l';obtain⟨e,rfl⟩:=mB h;subst e;exact⟨rfl,rfl⟩
 ·rename_i b;split at h
  ·simp only[aiX]at h;subst h;have:size=1:=hs.symm
   simp only[At.toV,A1.toV,Tt.toT,C.toD,jX];rw[if_pos this];exact⟨rfl,rfl⟩
  grind
 grind
theorem I1{m:List (Nm×Nat×Rt)}{t:Tt}(hr:cw m q.root=some r)(hp:q.path=[])(h:atT m q 1=some [t]):r.cells[q.off]? = some t:=by
 unfold atT at h;rw[hr]at h;dsimp only at h;rw[hp]at h;dsimp only at h;split at h
 ·rename_i hb;simp only[aiX]at h;have:=congrArg (·[0]?) h
  grind
 grind
theorem mu{s':St}{l:List (El u)}{size:Nat}(hs:nc u=size)(hn:ND s.m)(hop:∀q,v=.one (.c (.rf q))->okP (toM s.m) q)(h:pe s u v=some (s',sub,l)) :
  jp s.toS size v.toV=some (s'.toS,sub,l.map (ap u))/\ND s'.m/\Ext s s':=by
 unfold pe at h;split at h
 ·simp only[aiX,Prod.mk.injEq]at h;obtain⟨rfl,rfl,rfl⟩:=h;exact⟨by rw[<- hs];rfl,hn,Ext.refl _⟩
 ·rename_i q;split at h
  ·rename_i d u' l' x;split at h
   ·rename_i l2 s2 j w a;simp only[aiX,Prod.mk.injEq]at h;obtain⟨rfl,rfl,rfl⟩:=h;obtain⟨e,rfl⟩:=mB j;subst e;unfold YP at a;split at a
    ·grind
    ·rename_i r hr;split at a
     ·rename_i b n;simp only[aiX]at a;have g:atT s.m q 1=some [.ow d u' l']:=by
       grind [sliceAt]
      have hc:=I1 hr b g
      have f:af s.toS.m q.root=some r.toR:=bz hr
      have i:r.toR.cells=r.cells.map Tt.toT:=by show holed _ r.hole=_;rw[n];rfl
      have k:aZ s.toS.m q=some (.ow d (l'.map (ap u'))):=by
       unfold aZ;rw[f,b];dsimp only;rw[i,ai4,hc];rfl
      refine⟨?_,?_,?_⟩
      ·simp only[At.toV,A1.toV,Tt.toT,jp];rw[k];dsimp only;rw[if_pos (by grind [ai5])]
       congr 2
       rw[<- a];refine b9.S_ext (qJ _ _ _).symm ?_;show _=toM (cT (thr q) s.nx (eI s.m q.root s.nx _))
       rw[fB,fE]
       congr 1
       unfold bk;rw[f,b];dsimp only;show cM (toM s.m) q.root _=_
       grind [Rt.toR,holed,ajP,Tt.toT]
      ·grind [Ey,zd]
      ·rw[<- a];exact⟨ajV _,iL (ai0 _),(dz _ _ (ai0 _) s.m).trans (eY (ai0 _))⟩
     ·rename_i st A b n;simp only[aiX]at a;have g:atT s.m q 1=some [.ow d u' l']:=by
       grind [sliceAt]
      have f:af s.toS.m q.root=some r.toR:=bz hr
      have i:r.toR.cells=r.cells.map Tt.toT:=by show holed _ r.hole=_;rw[n];rfl
      have hq:=hop q rfl
      unfold okP at hq;rw[b]at hq;obtain⟨r2,t,l2,g1,g2,g3⟩:=hq;have o:r2=r.toR:=Option.some.inj (g1.symm.trans f)
      subst o;unfold atT at g;rw[hr]at g;dsimp only at g;rw[b]at g;dsimp only at g;split at g
      ·rename_i p u0 z _ hc;rw[i,ai4,hc]at g2;simp only[Option.map_some,aiX,Tt.toT,T.ow.injEq]at g2;obtain⟨rfl,rfl⟩:=g2;have y:=Ao g3 g
       have k:aZ s.toS.m q=some (.ow d (l'.map (ap u'))):=by
        grind [aZ,Tt.toT]
       refine⟨?_,?_,?_⟩
       ·simp only[At.toV,A1.toV,Tt.toT,jp];rw[k];dsimp only;rw[if_pos (by grind [ai5])]
        congr 2
        rw[<- a];refine b9.S_ext (qJ _ _ _).symm ?_;show _=toM (cT (thr q) s.nx (eI s.m q.root s.nx _))
        rw[fB,fE]
        congr 1
        unfold bk;rw[f];dsimp only;rw[b];dsimp only;rw[i,ai4,hc];show cM (toM s.m) q.root _=_
        grind [Rt.toR,Tt.toT,T.toD,Jz]
       ·grind [Ey,zd]
       ·rw[<- a];exact⟨ajV _,iL (ai0 _),(dz _ _ (ai0 _) s.m).trans (eY (ai0 _))⟩
      grind
     grind
   grind
  grind
 grind
theorem acJ:∀n:Sn,(sd n).fs.all leaf=true:=by intro n;cases n<;>rfl
theorem Su(h:leaf u=true)(x:El u):(am u x).toD.sure=true:=by
 cases u with
 |st n=>cases h
 |_=>rfl
theorem zO:∀{us:List U}(_:us.all leaf=true)(x:Fl us),∀d∈(fw us x).map C.toD,d.sure=true
 |[],_,_,d,hd=>by grind [fw]
 |u::r,h,x,d,hd=>by
  simp only[ajE,aiW]at h;simp only[fw,aiZ,ai7]at hd;rcases hd with rfl|hd
  ·exact Su h.1 _
  ·exact zO h.2 _ d hd
theorem I6(x:El u):∀d∈ap u x,d.sure=true:=by
 rw[<- cz];cases u with
 |st n=>exact zO (acJ n) _
 |_=>intro d hd;rw[j8 rfl]at hd;simp only[aiZ,aj4,ajD]at hd;subst hd;rfl
theorem Mn{x:Operand}(hx:aH x=true)(hy:aH y=true)(hn:ND (gZ s (evA s y)).m)(hop:∀q,evA (gZ s (evA s y)) x=.one (.c (.rf q))->okP (toM (gZ s (evA s y)).m) q)(h:qw P E s t u0 x y d k):qv P (gZ s (evA s y)).toS t u0 x y d (upS k):=by
 unfold qw at h;dsimp only at h;generalize hs1:gZ s (evA s y)=s1 at h hn hop;split at h
 ·rename_i e j;split at h
  ·rename_i u z he hz;split at h
   ·rename_i hc;simp only[aiW]at hc;obtain⟨⟨⟨o,c2⟩,c3⟩,c4⟩:=hc;have g:=ai5 c4
    split at h
    ·rename_i i s2 sub l f a;split at h
     ·rename_i b;obtain⟨⟨h1,h2⟩,h3⟩:=h;obtain⟨k1,k2⟩:=acQ g f;obtain⟨b1,b2,_⟩:=mu g hn hop a;unfold qv;dsimp only;rw[ah hy,vZ k2,j];dsimp only;refine⟨o,c2,by grind [ai5],?_⟩;rw[ah hy,ah hx,k1,b1];dsimp only;refine⟨b,?_,by grind,by grind,_,?_,h3⟩
      ·intro r hr
       grind [lA,I6]
      ·rw[<- bE b2];have n:(⟨false,[.ow sub u (l++i)],none⟩:Rt).toR=⟨false,[.ow sub (l.map (ap u)++i.map (ap u))]⟩:=by
        rw[<- aj1];rfl
       rw[<- n];exact aJ ((s2.fresh (.gh d)).root (.gh d) ⟨false,[.ow sub u (l++i)],none⟩) (some d) (.one (.c (.rf ⟨.gh d,0,[]⟩)))
     grind
    grind
   grind
  grind
 grind
theorem Iy{x:Operand}(hx:aH x=true)(hy:aH y=true)(hn:ND s.m)(b:∀q,evA s y=.one (.c (.rf q))->okP (toM s.m) q)
  (i:∀(size:Nat)(s1:St)(sub:List Sh)(l:List (List D))q,ND s1.m->jp s.toS size (evA s y).toV=some (s1.toS,sub,l)->evA s1 x=.one (.c (.rf q))->okP (toM s1.m) q) (h:mq P E s t u0 x y d k):tX P s.toS t u0 x y d (upS k):=by
 unfold mq at h;split at h
 ·rename_i e A;split at h
  ·rename_i u z he hz;split at h
   ·rename_i hc;simp only[aiW]at hc;obtain⟨⟨⟨B,c2⟩,c3⟩,c4⟩:=hc;have j:=ai5 c4
    split at h
    ·rename_i s1 f n a;split at h
     ·rename_i s2 sub l o;split at h
      ·rename_i g;obtain⟨⟨h1,h2⟩,h3⟩:=h;obtain⟨p,v,_⟩:=mu j hn b a;obtain⟨b1,b2,_⟩:=mu j v (fun q hq=>i _ s1 _ _ q v p hq) o;unfold tX;rw[A];dsimp only;refine⟨B,c2,by grind [ai5],?_⟩;rw[ah hy,p];dsimp only;rw[ah hx,b1];dsimp only;have w:f.length=nc u:=by
        unfold pe at a;split at a
        all_goals grind [ai5]
       refine⟨kf g,?_,by grind,by grind,_,?_,h3⟩
       ·intro r hr
        grind [lA,I6]
       ·rw[<- bE b2];have C:(⟨false,[.ow sub u (l++n)],none⟩:Rt).toR=⟨false,[.ow sub (l.map (ap u)++n.map (ap u))]⟩:=by
         rw[<- aj1];rfl
        rw[<- C];exact aJ ((s2.fresh (.gh d)).root (.gh d) ⟨false,[.ow sub u (l++n)],none⟩) (some d) (.one (.c (.rf ⟨.gh d,0,[]⟩)))
      grind
     grind
    grind
   grind
  grind
 grind
end
end Go.Am
end
