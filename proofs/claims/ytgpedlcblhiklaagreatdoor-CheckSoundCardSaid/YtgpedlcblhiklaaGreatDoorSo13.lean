/-
  Part 13: AmIter · AmE3 · AmE3b · AmE3c · AmE3d · AmE20 · AmAppTwo · AmBuildTwo · AmE3e.
-/
import Derived.Test.YtgpedlcblhiklaaGreatDoorSo12
import Derived.Shelf.SlIter.Nil
import Derived.Shelf.SortM.Plain
import Derived.Shelf.SortM.SortNone
import Derived.Shelf.SlMaps.Clone
set_option linter.unusedSimpArgs false
set_option linter.unusedVariables false
set_option linter.unusedSectionVars false
set_option linter.unnecessarySimpa false
open Go.Proofs.Tryz
section
namespace Go.Proofs
open Go.RowKit Go.Maps Go.Sort Go.Shelf
def Tryz.keys210_ren:Go.Shelf.Ren:=⟨fun|7=>200|10=>224|n=>n,fun|23=>228|26=>9|3=>4|28=>136|0=>0|27=>135|33=>148|4=>4|n=>n,fun|n=>n⟩
theorem Tryz.keys210:Go.Proofs.SlLaysZ.n7 prog Tryz.keys210_ren:={
 mixed:=by rfl
 f7:=⟨f200.name,by decide,func200.trans (congrArg some (by rfl))⟩
 f10:=⟨f224.name,by decide,func224.trans (congrArg some (by rfl))⟩
 t0:=underlying0
 a0:=isAgg0
 z0:=sizeOf0
 v0:=zeroValue0
 t4:=underlying4
 a4:=isAgg4
 z4:=sizeOf4
 v4:=zeroValue4
 t23:=underlying228
 a23:=isAgg228
 z23:=sizeOf228
 v23:=zeroValue228
 t26:=underlying9
 a26:=isAgg9
 z26:=sizeOf9
 v26:=zeroValue9
 t27:=underlying135
 a27:=isAgg135
 z27:=sizeOf135
 v27:=zeroValue135
 t28:=underlying136
 a28:=isAgg136
 z28:=sizeOf136
 v28:=zeroValue136
 t33:=underlying148
 a33:=isAgg148
 z33:=sizeOf148
 v33:=zeroValue148 }
def Tryz.sorted209_ren:Go.Shelf.Ren:=⟨fun|6=>72|8=>122|9=>123|11=>176|13=>178|12=>177|23=>212|24=>213|14=>203|15=>204|16=>205|17=>206|18=>207|19=>208|20=>209|21=>210|22=>211|25=>226|26=>227|27=>228|28=>229|29=>230|30=>231|31=>236|n=>n,fun|26=>9|28=>136|24=>47|0=>0|3=>3|37=>241|48=>280|50=>247|4=>4|40=>274|39=>273|45=>180|5=>5|9=>9|51=>293|55=>297|57=>301|58=>302|33=>148|n=>n,fun|n=>n⟩
theorem Tryz.sorted209:Go.Proofs.SlLaysZ.n6 prog Tryz.sorted209_ren:={
 mixed:=by rfl
 f6:=⟨f72.name,by decide,func72.trans (congrArg some (by rfl))⟩
 f8:=⟨f122.name,by decide,func122.trans (congrArg some (by rfl))⟩
 f11:=⟨f176.name,by decide,func176.trans (congrArg some (by rfl))⟩
 t0:=underlying0
 a0:=isAgg0
 z0:=sizeOf0
 v0:=zeroValue0
 t24:=underlying47
 a24:=isAgg47
 z24:=sizeOf47
 v24:=zeroValue47
 t26:=underlying9
 a26:=isAgg9
 z26:=sizeOf9
 v26:=zeroValue9
 t28:=underlying136
 a28:=isAgg136
 z28:=sizeOf136
 v28:=zeroValue136
 i26:=by kernel_rfl }
def Tryz.sort236_ren:Go.Shelf.Ren:=⟨fun|6=>123|8=>178|9=>177|19=>212|20=>213|21=>203|22=>204|23=>205|24=>206|25=>207|26=>208|27=>209|28=>210|29=>211|36=>226|31=>227|32=>228|37=>229|38=>230|39=>231|41=>236|n=>n,fun|27=>47|29=>9|3=>3|32=>241|26=>47|0=>0|44=>280|46=>247|4=>4|36=>274|35=>273|41=>180|5=>5|9=>9|53=>293|57=>297|63=>301|64=>302|n=>n,fun|n=>n⟩
theorem Tryz.sort236:Go.Proofs.SlLaysM.n6 prog Tryz.sort236_ren:={
 mixed:=by rfl
 f6:=⟨f123.name,by decide,func123.trans (congrArg some (by rfl))⟩
 f8:=func178.trans (congrArg some (by rfl))
 f9:=⟨f177.name,by decide,func177.trans (congrArg some (by rfl))⟩
 f19:=func212.trans (congrArg some (by rfl))
 f20:=func213.trans (congrArg some (by rfl))
 f21:=⟨f203.name,by decide,func203.trans (congrArg some (by rfl))⟩
 f22:=⟨f204.name,by decide,func204.trans (congrArg some (by rfl))⟩
 f23:=⟨f205.name,by decide,func205.trans (congrArg some (by rfl))⟩
 f24:=⟨f206.name,by decide,func206.trans (congrArg some (by rfl))⟩
 f25:=⟨f207.name,by decide,func207.trans (congrArg some (by rfl))⟩
 f26:=⟨f208.name,by decide,func208.trans (congrArg some (by rfl))⟩
 f27:=⟨f209.name,by decide,func209.trans (congrArg some (by rfl))⟩
 f28:=⟨f210.name,by decide,func210.trans (congrArg some (by rfl))⟩
 f29:=⟨f211.name,by decide,func211.trans (congrArg some (by rfl))⟩
 f31:=func227.trans (congrArg some (by rfl))
 f32:=func228.trans (congrArg some (by rfl))
 f36:=⟨f226.name,by decide,func226.trans (congrArg some (by rfl))⟩
 f37:=⟨f229.name,by decide,func229.trans (congrArg some (by rfl))⟩
 f38:=⟨f230.name,by decide,func230.trans (congrArg some (by rfl))⟩
 f39:=⟨f231.name,by decide,func231.trans (congrArg some (by rfl))⟩
 f41:=⟨f236.name,by decide,func236.trans (congrArg some (by rfl))⟩
 t0:=underlying0
 a0:=isAgg0
 z0:=sizeOf0
 v0:=zeroValue0
 t3:=underlying3
 a3:=isAgg3
 z3:=sizeOf3
 v3:=zeroValue3
 t4:=underlying4
 a4:=isAgg4
 z4:=sizeOf4
 v4:=zeroValue4
 t5:=underlying5
 a5:=isAgg5
 z5:=sizeOf5
 v5:=zeroValue5
 t9:=underlying9
 a9:=isAgg9
 z9:=sizeOf9
 v9:=zeroValue9
 t26:=underlying47
 a26:=isAgg47
 z26:=sizeOf47
 v26:=zeroValue47
 t27:=underlying47
 a27:=isAgg47
 z27:=sizeOf47
 v27:=zeroValue47
 t29:=underlying9
 a29:=isAgg9
 z29:=sizeOf9
 v29:=zeroValue9
 t32:=underlying241
 a32:=isAgg241
 z32:=sizeOf241
 v32:=zeroValue241
 t35:=underlying273
 a35:=isAgg273
 z35:=sizeOf273
 v35:=zeroValue273
 t36:=underlying274
 a36:=isAgg274
 z36:=sizeOf274
 v36:=zeroValue274
 t41:=underlying180
 a41:=isAgg180
 z41:=sizeOf180
 v41:=zeroValue180
 t44:=underlying280
 a44:=isAgg280
 z44:=sizeOf280
 v44:=zeroValue280
 t46:=underlying247
 a46:=isAgg247
 z46:=sizeOf247
 v46:=zeroValue247
 t53:=underlying293
 a53:=isAgg293
 z53:=sizeOf293
 v53:=zeroValue293
 t57:=underlying297
 a57:=isAgg297
 z57:=sizeOf297
 v57:=zeroValue297
 t63:=underlying301
 a63:=isAgg301
 z63:=sizeOf301
 v63:=zeroValue301
 t64:=underlying302
 a64:=isAgg302
 z64:=sizeOf302
 v64:=zeroValue302 }
def Tryz.clone106_ren:Go.Shelf.Ren:=⟨fun|5=>103|7=>164|n=>n,fun|23=>119|25=>9|3=>4|4=>4|20=>20|n=>n,fun|n=>n⟩
theorem Tryz.clone106:Go.Proofs.SlLaysW.n5 prog Tryz.clone106_ren:={
 mixed:=by rfl
 f5:=⟨f103.name,by decide,func103.trans (congrArg some (by rfl))⟩
 f7:=func164.trans (congrArg some (by rfl))
 t4:=underlying4
 a4:=isAgg4
 z4:=sizeOf4
 v4:=zeroValue4
 t20:=underlying20
 a20:=isAgg20
 z20:=sizeOf20
 v20:=zeroValue20
 t23:=underlying119
 a23:=isAgg119
 z23:=sizeOf119
 v23:=zeroValue119 }
theorem Tryz.sorts209(m:Nat):AnyZ.SortsIn prog Tryz.sorted209_ren Fence.wide m:=
 ⟨fun blk off cap ss W hH hblk hsz=>callsIn_wide.2 (AnyM.slices_Sort_string Tryz.sort236 blk off cap ss W hH hblk hsz),
  fun p cap W=>callsIn_wide.2 (AnyM.slices_Sort_string_none Tryz.sort236 p cap W)⟩
theorem Tryz.maps_Keys_210(mb:Option Nat)(W:World):CallsIn Fence.wide 5 prog 200 #[.map mb] W fun e w'=>e=.returned (.func (.func 224) #[] #[.pointer (some ⟨W.heap.size,0,none⟩)])/\w'=W.alloc (.cells #[.map mb] 228):=
 AnyZ.keys_in Tryz.keys210 Fence.wide 5 trivial rfl mb W
set_option maxHeartbeats 1000000 in
theorem Tryz.slices_Sorted_keys_209_210{H:Type}(b nn:Nat)(D0:DataW H)(R:Value->Option (DataW H×List MemPlace))(w:World)(hown:w.ownsMap prog 9 R b nn D0)(hmax:Maps.size D0<=maxLen)(hbytes:Maps.size D0*16<=140737488355328) :
  CallsIn Fence.wide 5 prog 72 #[.func (.func 224) #[] #[.pointer (some ⟨w.heap.size,0,none⟩)]] (w.alloc (.cells #[.map (some b)] 228)) fun e w'=>∃(v:Value)(ss:List (List UInt8)),e=.returned v/\ss.Perm (strKeys D0) /\
   w'.ownsRow (w.alloc (.cells #[.map (some b)] 228)).heap.size 9 1 v ss.length ((ss.mergeSort (fun x y=>decide (x<=y))).map encStr)/\(v=.slice none 0 0 ↔ ss=[])/\Below (w.alloc (.cells #[.map (some b)] 228)).heap.size (w.alloc (.cells #[.map (some b)] 228)) w':=by
 have hbl:=hown.lt
 have hseq:SeqGives Fence.wide 2 prog 224 #[.pointer (some ⟨w.heap.size,0,none⟩)] encStr (fun ss=>ss.Perm (strKeys D0)) (Maps.size D0) (w.alloc (.cells #[.map (some b)] 228)):=
  AnyZ.keys_gives (ρ:=Tryz.keys210_ren) { Tryz.keys210 with } Fence.wide _ trivial rfl kQ1 w.heap.size b nn D0 _ (by simp) (by simp) (by
   obtain⟨es,clock,hb,Ft,hs,hD⟩:=hown;exact⟨es,clock,(Below.heap_alloc _ _ b hbl).trans hb,Ft,hs,hD⟩)
 exact AnyZ.sorted_in Tryz.sorted209 Fence.wide 5 trivial trivial trivial trivial rfl kQ1 (Tryz.sorts209 _) (enters_of func123 (by rfl) rfl) 224 #[.pointer (some ⟨w.heap.size,0,none⟩)] trivial (enters_of func224 (by rfl) rfl) _ _ hmax hbytes _ hseq
end Go.Proofs
end

section
namespace Go.Am
theorem PJ(c:C):(sct c).toV=sc c.toD:=rfl
theorem zj{n:Int}(h:0<=n/\n < 256):(((UInt8.ofNat n.toNat).toNat:Nat):Int)=n:=by
 grind [UInt8.toNat_ofNat']
theorem X9(x:UInt8):0<=((x.toNat:Nat):Int)/\((x.toNat:Nat):Int) < 256:=by
 have:=x.toNat_lt
 omega
theorem EW{k:IntKind}{n:Int}(h:k=.u8->0<=n/\n < 256):(mkC k n).toD=.int k n:=by
 cases k with
 |u8=>show D.int .u8 _=_;grind [zj]
 |_=>rfl
theorem afF(n:Int):0<=IntKind.u8.wrap n/\IntKind.u8.wrap n < 256:=by
 have:=wf_wrap (k:=.u8) n
 simp only[Lit.wf,afZ,decide_eq_true_eq]at this;have h1:IntKind.u8.min=0:=by decide
 have h2:IntKind.u8.max=255:=by decide
 omega
theorem eE{k:IntKind}{n:Int}:(mkC k (k.wrap n)).toD=.int k (k.wrap n):=EW fun h=>by simp_all[afF]
variable{c:C}
theorem iJ{k:IntKind}{n:Int}(h:rA c=some (k,n)):c.toD=.int k n/\(k=.u8->0<=n/\n < 256):=by
 unfold rA at h;split at h
 ·rename_i k' n';cases k'<;>simp only[af0,Prod.mk.injEq,reduceCtorEq]at h<;>(obtain⟨rfl,rfl⟩:=h;exact⟨rfl,fun h=>by cases h⟩)
 ·rename_i x;simp only[af0,Prod.mk.injEq]at h;obtain⟨rfl,rfl⟩:=h;exact⟨rfl,fun _=>X9 x⟩
 grind
theorem VA{k:Nat}{row:List D}(h:ru k=some row):row=gw.map D.str:=by
 grind [ru]
theorem vB{v:Value}(h:okT v=true):(tP v).toT=ra v:=by
 cases v with
 |int k n=>
  simp only[tP,ra];cases k with
  |u8=>
   simp only[okT,Lit.wf,afZ,decide_eq_true_eq]at h;have h1:IntKind.u8.min=0:=by decide
   have h2:IntKind.u8.max=255:=by decide
   grind [Tt.toT,C.toD,zj]
  |_=>rfl
 |slice a l c=>cases a with
  |none=>match l,c with
   |0,0=>rfl
   |0,_+1=>rfl
   |_+1,_=>rfl
  |some _=>rfl
 |pointer p=>cases p<;>rfl
 |map p=>cases p<;>rfl
 |_=>rfl
theorem af{s:St}{x:Operand}(h:aG x=true):ev s.toS x=(evA s x).toV:=by
 cases x with
 |tmp t=>exact dl t s.t
 |const v=>
  simp only[aG]at h;cases v with
  |agg cs=>
   simp only[ev,evA,cst,acD,At.toV,A1.toV]
   grind [agJ,okC,vB,Array.all_eq_true_iff_forall_mem]
  |_=>
   grind [ev,evA,cst,acD,At.toV,A1.toV,vB,okC]
 |func f=>rfl
 |global g=>
  simp only[aG]at h;simp only[ev,evA,aaS];cases a:ru g with
  |none=>rfl
  |some row=>
   simp only[At.toV,A1.toV,Tt.toT,VA a];rfl
variable{i:Nat}{op:BinOp}{t:TypeId}{x:At}
section
variable {k:At->Prop}
abbrev up(k:At->Prop):AV->Prop:=fun v=>∃a,v=a.toV/\k a
theorem NN{d:D}(h:k (sct c))(e:c.toD=d):up k (sc d):=⟨sct c,by rw[PJ,e],h⟩
theorem WC{c y:At}(h:Ds c x y k):JR c.toV x.toV y.toV (up k):=by
 unfold Ds at h;split at h
 ·rename_i b;cases b
  ·rw[if_neg (by simp)]at h;exact⟨y,rfl,h⟩
  ·rw[if_pos rfl]at h;exact⟨x,rfl,h⟩
 grind
theorem afA{a b:Int}(d:0<=a/\a < 256):0<=a.tmod b/\a.tmod b < 256:=by
 refine⟨Int.tmod_nonneg _ d.1,?_⟩;rcases Int.lt_or_le b 0 with h|h
 ·rw[<- Int.tmod_neg];rcases Int.lt_or_le a (-b)with h'|h'
  ·simp_all[Int.tmod_eq_of_lt]
  ·have:=Int.tmod_lt_of_pos a (show 0 < -b by omega);omega
 ·rcases Int.lt_or_le a b with h'|h'
  ·simp_all[Int.tmod_eq_of_lt]
  ·rcases Int.lt_or_eq_of_le h with c|c
   ·have:=Int.tmod_lt_of_pos a c;omega
   grind
theorem aeU{a:Int}{m:Nat}(b:0<=a/\a < 256):0<=a.fdiv (2 ^ m)/\a.fdiv (2 ^ m) < 256:=by
 have hp:(0:Int) < 2 ^ m:=Int.pow_pos (by decide)
 rw[Int.fdiv_eq_ediv_of_nonneg _ kQ1];refine⟨Int.ediv_nonneg b.1 kQ1,?_⟩;have:=Int.ediv_le_self (2 ^ m) b.1
 omega
theorem X3{x y:C}{K:C->Prop}(h:GW op x y K):vk op x.toD y.toD (fun d=>∃c:C,c.toD=d/\K c):=by
 unfold GW at h;split at h
 ·rename_i a b;cases op<;>first|exact h.elim|exact⟨_,rfl,h⟩|exact⟨h.1,_,rfl,h.2⟩
 ·split at h
  ·rename_i k a k' b hx hy;obtain⟨ex,g⟩:=iJ hx;obtain⟨e,f⟩:=iJ hy;rw[ex,e];split at h
   ·rename_i hk;unfold Wq at h;cases op<;>simp only[ae0,agA,false_or,true_or]at hk<;>simp only[vk]
    case add=>grind [eE]
    case sub=>grind [eE]
    case mul=>grind [eE]
    case quo=>grind [eE]
    case rem=>grind [EW,afA]
    case and=>grind [eE]
    case or=>grind [eE]
    case xor=>grind [eE]
    case andNot=>grind [eE]
    case shl=>grind [eE]
    case shr=>grind [EW,aeU]
    case eql=>exact⟨hk,_,rfl,h⟩
    case neq=>exact⟨hk,_,rfl,h⟩
    case lss=>exact⟨hk,_,rfl,h⟩
    case leq=>exact⟨hk,_,rfl,h⟩
    case gtr=>exact⟨hk,_,rfl,h⟩
    case geq=>exact⟨hk,_,rfl,h⟩
   grind
  grind
theorem LA{x y:D}{K K':D->Prop}(hk:∀d,K d->K' d)(h:vk op x y K):vk op x y K':=by
 cases x<;>cases y<;>try exact h.elim
 ·cases op<;>simp only[vk]at h⊢<;>first|exact⟨h.1,h.2.1,hk _ h.2.2⟩|grind
 ·cases op<;>simp only[vk]at h⊢<;>first|exact⟨h.1,hk _ h.2⟩|grind|exact h.elim
theorem acG{ck:CK}{x y:C}{b:Bool}(h:eqC ck x y=some b):eqD ck x.toD y.toD=some b:=by
 unfold eqC at h;cases ck with
 |i=>
  dsimp only at h;split at h
  ·rename_i k a k' b' hx hy;rw[(iJ hx).1,(iJ hy).1];exact h
  grind
 |s=>
  dsimp only at h;split at h
  ·exact h
  grind
 |b=>
  dsimp only at h;split at h
  ·exact h
  grind
theorem Et:∀{l:List (Nat×CK)}{xs ys:List C}{b:Bool},Vh l xs ys=some b->jK l (xs.map C.toD) (ys.map C.toD)=some b
 |[],_,_,_,h=>h
 |(o,ck)::l,xs,ys,b,h=>by
  unfold Vh at h;unfold jK;rw[af5,af5];cases hx:xs[o]? with
  |none=>grind
  |some x=>
   cases hy:ys[o]? with
   |none=>grind
   |some y=>
    rw[hx,hy]at h;dsimp only[Option.map_some]at h⊢;cases he:eqC ck x y with
    |none=>grind
    |some c=>
     rw[he]at h;rw[acG he];cases l with
     |nil=>exact h
     |cons z l=>
      dsimp only at h⊢;cases hr:Vh (z::l) xs ys with
      |none=>grind
      |some r=>rw[hr]at h;rw[Et hr];exact h
theorem Ug(t:Tt)(h:TD t.toT≠.any\/True):(TC t).toD=TD t.toT:=by
 cases t<;>rfl
theorem abP{x y:C}{K:C->Prop}(h:GW op x y K):(∃b,y=.s b)\/∃k n,rA y=some (k,n):=by
 unfold GW at h
 grind
theorem X6{P:Program}{y:At}(h:Qp P op t x y k):LB P op t x.toV y.toV (up k):=by
 unfold Qp at h;split at h
 ·rename_i a b;split at h
  ·rename_i f;refine⟨f,?_⟩;cases op<;>first|exact h.elim|exact⟨_,rfl,h⟩
  grind
 ·rename_i q;split at h
  ·rename_i kt et z f hz;have e:acZ q.toD=some z:=by
    unfold ae1 at hz;split at hz
    ·rename_i ku vu o;rw[<- hz];cases o<;>rfl
    ·rw[<- hz];rfl
    grind
   have key:ac0 P op t q.toD (up k):=⟨⟨_,_,f⟩,by
    rw[e];cases op<;>first|exact h.elim|exact⟨_,rfl,h⟩⟩
   cases q<;>exact key
  grind
 ·rename_i a b j g;have h':=X3 h
  have key:vk op a.toD b.toD (fun d=>up k (sc d)):=by
   refine LA ?_ h';rintro d ⟨c,rfl,hc⟩
   exact⟨sct c,rfl,hc⟩
  rcases abP h with⟨b',rfl⟩|⟨κ,n,hb⟩
  ·cases a with
   |mp ku vu l=>exact h.elim
   |_=>exact key
  ·cases b with
   |i k n=>cases a with
    |mp ku vu l=>exact h.elim
    |_=>exact key
   |b x=>cases a with
    |mp ku vu l=>exact h.elim
    |_=>exact key
   |_=>cases hb
 ·rename_i xs ys;split at h
  ·rename_i l hl;have m:(xs.map Tt.toT).map TD=(xs.map TC).map C.toD:=by
    grind [agJ,Ug]
   have p:(ys.map Tt.toT).map TD=(ys.map TC).map C.toD:=by
    grind [agJ,Ug]
   simp only[At.toV,A1.toV,LB];rw[hl,m,p];dsimp only;split at h
   ·rename_i b hb;rw[Et hb];exact⟨_,rfl,h⟩
   ·rename_i b hb;rw[Et hb];exact⟨_,rfl,h⟩
   grind
  grind
 grind
theorem adQ{op:UnOp}(h:unT op x k):unK op x.toV (up k):=by
 unfold unT at h;split at h
 ·exact⟨_,rfl,h⟩
 ·rename_i c;split at h
  ·rename_i κ n hc;simp only[At.toV,A1.toV,Tt.toT,(iJ hc).1];exact NN h eE
  grind
 ·rename_i c;split at h
  ·rename_i κ n hc;simp only[At.toV,A1.toV,Tt.toT,(iJ hc).1];exact NN h eE
  grind
 grind
theorem Iw(h:ml x i k):kl x.toV i (up k):=by
 unfold ml at h
 grind [At.toV,kl]
theorem SW{i:At}(h:wA x i k):wz x.toV i.toV (up k):=by
 unfold wA at h
 grind [C.toD,wz,PJ]
theorem EZ(h:jY x k):mI x.toV (up k):=by
 unfold jY at h;split at h
 ·exact⟨_,rfl,h⟩
 ·exact⟨_,rfl,h⟩
 ·exact⟨_,rfl,h⟩
 grind
theorem Ra{P:Program}(h:vG P t x i k):vF P t x.toV i (up k):=by
 unfold vG at h;split at h
 ·rename_i fs ts hk;simp only[At.toV,A1.toV,vF];rw[hk];dsimp only;cases hf:fs[i]? with
  |none=>grind
  |some f=>
   obtain⟨off,size,a⟩:=f;rw[hf]at h
   match a,h with
   |some false,h=>
    dsimp only at h⊢;rw[af5];cases b:ts[off]? with
    |none=>grind
    |some t'=>rw[b]at h;exact⟨_,rfl,h⟩
   |some true,h=>
    dsimp only at h⊢;split at h
    ·rename_i hb;refine⟨by simp_all,.one (.agg ((ts.drop off).take size)),?_,h⟩;simp only[At.toV,A1.toV,ah0,ah9]
    grind
   |none,h=>omega
 grind
theorem Vc{P:Program}{d b:TypeId}(h:CY P d b x k):tO P d b x.toV (up k):=by
 unfold CY at h;split at h
 ·rename_i f κ h1 h2;split at h
  ·rename_i c;split at h
   ·rename_i g n hc;simp only[At.toV,A1.toV,Tt.toT,(iJ hc).1,tO,h1,h2];exact NN h eE
   grind
  grind
 ·rename_i e h1 h2;split at h
  ·rename_i h3;split at h
   ·rename_i l;simp only[At.toV,A1.toV,Tt.toT,C.toD,tO,h1,h2];refine⟨h3,?_⟩;have:∀l:List UInt8,tQ (l.map (ap .b8))=some l:=by
     intro l;induction l with
     |nil=>rfl
     |cons a l ih=>
      simp_all[ap,tQ]
    rw[this l];exact⟨_,rfl,h⟩
   ·simp only[At.toV,A1.toV,Tt.toT,tO,h1,h2];exact⟨h3,_,rfl,h⟩
   grind
  grind
 grind
end
theorem KD(t:Tt):t.toT.sure=t.sure:=by
 cases t with
 |d c=>cases c<;>rfl
 |_=>rfl
def RH(t:Tt)(t':T):Prop:=t'=t.toT\/∃sh u l,∃l':List (List D),t=.ow sh u l/\t'=.ow sh l'/\l'.length=l.length
structure HL (ts:List Tt) (ts':List T):Prop where
 len:ts'.length=ts.length
 nth:∀(i:Nat)(t:Tt)(t':T),ts[i]? = some t->ts'[i]? = some t'->RH t t'
theorem u9(ts:List Tt):HL ts (ts.map Tt.toT):=by
 refine⟨by simp,fun i t t' h h'=>?_⟩;rw[af5,h]at h';exact .inl (Option.some.inj h').symm
variable{ts:List Tt}{ts':List T}
theorem HL.drop(h:HL ts ts')(n:Nat):HL (ts.drop n) (ts'.drop n):=
 ⟨by simp[h.len],fun i t t' h1 h2=>by grind [nth]⟩
theorem HL.take(h:HL ts ts')(n:Nat):HL (ts.take n) (ts'.take n):=
 ⟨by simp[h.len],fun i t t' h1 h2=>by
  grind [nth]⟩
theorem lq:∀(q:List Step)(sub:List Sh)(l:List (List D))(x:D),(cr sub l x q).length=l.length
 |[],_,_,_=>rfl
 |[st],_,_,_=>by simp[cr]
 |st::a::r,sub,l,x=>by
  grind [cr]
theorem yQ(cells:List Tt)(hole:Option (Nat×Step×List Step)):HL cells (holed (cells.map Tt.toT) hole):=by
 cases hole with
 |none=>exact u9 cells
 |some h=>
  obtain⟨off,st,q⟩:=h;simp only[holed];split
  ·rename_i sub l hc;refine⟨by simp,fun i t t' h1 h2=>?_⟩;by_cases hi:off=i
   ·subst hi;rw[af5,h1]at hc;have a:=Option.some.inj hc
    have b:off < (cells.map Tt.toT).length:=by
     grind
    rw[agQ b]at h2;have c:=Option.some.inj h2
    cases t with
    |ow sh u d=>
     simp only[Tt.toT,T.ow.injEq]at a;obtain⟨rfl,rfl⟩:=a;exact .inr ⟨_,_,_,_,rfl,c.symm,by rw[lq];simp⟩
    |_=>grind [Tt.toT]
   ·rw[List.getElem?_set_ne hi]at h2;exact(u9 cells).nth i t t' h1 h2
  grind [u9]
theorem T2{t:Tt}{t':T}(h:RH t t')(q:Pl):B6 q t'=(Py q t).toT:=by
 rcases h with rfl|⟨sh,u,l,l',rfl,rfl,_⟩
 ·cases t<;>rfl
 ·rfl
theorem XI(h:HL ts ts')(p:Pl):uA p ts'=(Fg p ts).map Tt.toT:=by
 refine ag7 fun i=>?_
 grind [uA,Fg,HL.len,T2,HL.nth]
variable{u:U}
theorem pf(l:List (El u))(h:i<l.length):(l.map (ap u)).getD i []=ap u (l.getD i (dflt u)):=by
 grind
theorem lh(l:List (El u))(h:i<l.length):(l.map (ap u))[i]? = some (ap u (l.getD i (dflt u))):=by
 grind
def Wj(s:Sh)(c:C):Tt:=match s,c with
 |Sh.fr,x=>Tt.d x
 |Sh.ow s,C.li u' l'=>Tt.ow s u' l'
 |_,_=>Tt.any
theorem Wk(s:Sh)(c:C):mkT s c.toD=(Wj s c).toT:=by
 cases s with
 |fr=>rfl
 |ow s=>cases c<;>rfl
theorem FK:∀(s:List Sh)(c:List C),List.zipWith mkT s (c.map C.toD)=(List.zipWith Wj s c).map Tt.toT
 |[],_=>by simp
 |_::_,[]=>by simp
 |s::a,c::cs=>by grind [Wk]
theorem Mc:∀{path:List Step}{sub:List Sh}{u:U}{l:List (El u)}{n:Nat}{ts:List Tt}{K:List T->Prop},okO sub (l.map (ap u)) path->inT sub u l n path=some ts->K (ts.map Tt.toT)->inK sub (l.map (ap u)) n path K
 |[],_,_,_,_,_,_,h,_,_=>h.elim
 |[st],sub,u,l,n,ts,K,h,a,b=>by
  obtain⟨h1,h2,h3⟩:=h;rw[af7]at h1;simp only[inT]at a;split at a
  ·rename_i hb;simp only[af0]at a;refine⟨agD hb,?_⟩;rw[lh l h1];dsimp only;rw[<- bX,<- ah9,<- ah0,FK];subst a;exact b
  grind
 |st::e::r,sub,u,l,n,ts,K,h,a,b=>by
  obtain⟨⟨h1,h2,h3⟩,h4⟩:=h;rw[af7]at h1;simp only[inT]at a;split at a
  ·rename_i s u' l' c f;simp only[inK];rw[lh l h1];dsimp only;have d:(ap u (l.getD st.idx (dflt u)))[st.off]? = some (.li (l'.map (ap u'))):=by
    rw[<- bX,af5,f];rfl
   rw[c,d];dsimp only;rw[c,pf l h1,List.getD,d]at h4;exact Mc h4 a b
  grind
def okP(m:Mm)(p:Pl):Prop:=match p.path with
 |[]=>True
 |st::q=>∃r sub l,ae m p.root=some r/\r.cells[p.off]? = some (.ow sub l)/\okO sub l (st::q)
variable{p:Pl}
theorem M1{m:Mm}(h:bZ m p):okP m p:=by
 grind [okP,bZ]
theorem pz{m:Mm}(h:ip m p):okP m p:=by
 grind [okP,ip]
variable{n:Nm}{r:Rt}
theorem br{m:List (Nm×Nat×Rt)}(h:cq m n=some r):ae (toM m) n=some r.toR:=by grind [tU]
theorem PN{a:List Sh}{xs:List D}{t:T}(h:(List.zipWith mkT a xs)[i]? = some t):∃s x,a[i]? = some s/\xs[i]? = some x/\t=mkT s x:=by
 grind
theorem VH:∀{path hp:List Step}{sub:List Sh}{u:U}{l:List (El u)}{n:Nat}{ts:List Tt}{K:List T->Prop},path.length<hp.length->okO sub (cr sub (l.map (ap u)) .any hp) path->inT sub u l n path=some ts->(∀ts',HL ts ts'->K ts')->inK sub (cr sub (l.map (ap u)) .any hp) n path K
 |[],_,_,_,_,_,_,_,_,h,_,_=>h.elim
 |_::_,[],_,_,_,_,_,_,j,_,_,_=>by grind
 |[_],[_],_,_,_,_,_,_,j,_,_,_=>by grind
 |_::_::_,[_],_,_,_,_,_,_,j,_,_,_=>by grind
 |[st],h::h'::hr,sub,u,l,n,ts,K,j,o,g,z=>by
  have c:(cr sub (l.map (ap u)) .any (h::h'::hr)).length=l.length:=by grind [lq]
  have f:=o.1
  rw[c]at f;simp only[inT]at g;split at g
  ·rename_i hb;simp only[af0]at g;refine⟨agD hb,?_⟩;have v:((l.map (ap u))[st.idx]?)=some (ap u (l.getD st.idx (dflt u))):=lh l f
   have key:∀x,(cr sub (l.map (ap u)) .any (h::h'::hr))[st.idx]? = some x->(x=ap u (l.getD st.idx (dflt u))\/∃s l1,sub[h.off]? = some (.ow s)/\(ap u (l.getD st.idx (dflt u)))[h.off]? = some (.li l1)/\x=(ap u (l.getD st.idx (dflt u))).set h.off (.li (cr s l1 .any (h'::hr)))):=by
    intro x hx;simp only[cr]at hx;split at hx
    ·rename_i s l1 q m;rw[List.getElem?_set]at hx;split at hx
     ·rename_i I;split at hx
      ·have y:=Option.some.inj hx
       rw[I,pf l f]at m y;refine .inr ⟨s,l1,q,?_,y.symm⟩;rw[List.getD]at m;cases h3:(ap u (l.getD st.idx (dflt u)))[h.off]? with
       |none=>rw[h3]at m;cases m
       |some d=>grind
      grind
     grind
    grind
   have k:st.idx < (cr sub (l.map (ap u)) .any (h::h'::hr)).length:=by omega
   rw[af1 k];dsimp only;rcases key _ (af1 k)with e|⟨s,l1,q,m,e⟩
   ·rw[e,<- bX,<- ah9,<- ah0,FK];subst g;exact z _ (u9 _)
   ·rw[e];refine z _ ?_;subst g;have p:List.zipWith mkT ((sub.drop st.off).take n) (((ap u (l.getD st.idx (dflt u))).drop st.off).take n)=(List.zipWith Wj ((sub.drop st.off).take n) (((flat u (l.getD st.idx (dflt u))).drop st.off).take n)).map Tt.toT:=by
     rw[<- bX,<- ah9,<- ah0,FK]
    refine⟨?_,fun i t t' P F=>?_⟩
    ·grind [af7]
    ·obtain⟨s0,M,b1,b2,C⟩:=PN F;have w:((List.zipWith Wj ((sub.drop st.off).take n) (((flat u (l.getD st.idx (dflt u))).drop st.off).take n)).map Tt.toT)[i]? = some t.toT:=by
      grind [Wj]
     rw[<- p]at w;obtain⟨s1,J,B,c2,c3⟩:=PN w;rw[b1]at B;obtain rfl:=Option.some.inj B;rw[List.getElem?_take]at b1 b2 c2;split at b2
     ·rename_i A;rw[if_pos A]at b1 c2;rw[ah2]at b1 b2 c2;rw[List.getElem?_set]at b2;split at b2
      ·rename_i D;rw[<- D]at b1 c2;rw[q]at b1;obtain rfl:=Option.some.inj b1;rw[m]at c2;obtain rfl:=Option.some.inj c2;split at b2
       ·obtain rfl:=Option.some.inj b2;rw[C];cases t with
        |ow G O l2=>
         simp only[mkT,Tt.toT,T.ow.injEq]at c3;obtain⟨rfl,L⟩:=c3;refine .inr ⟨_,_,_,_,rfl,rfl,?_⟩
         grind [lq]
        |_=>grind [mkT,Tt.toT]
       grind
      ·rw[b2]at c2;obtain rfl:=Option.some.inj c2;rw[C,<- c3];exact .inl rfl
     grind
  grind
 |st::E::r,h::h'::hr,sub,u,l,n,ts,K,j,o,g,z=>by
  have c:(cr sub (l.map (ap u)) .any (h::h'::hr)).length=l.length:=by grind [lq]
  obtain⟨⟨hi,hz,ho⟩,a⟩:=o;rw[c]at hi;simp only[inT]at g;split at g
  ·rename_i s u' l' q m;have v:((l.map (ap u))[st.idx]?)=some (ap u (l.getD st.idx (dflt u))):=lh l hi
   have N:(ap u (l.getD st.idx (dflt u)))[st.off]? = some (.li (l'.map (ap u'))):=by
    rw[<- bX,af5,m];rfl
   have key:∃x,(cr sub (l.map (ap u)) .any (h::h'::hr))[st.idx]? = some x/\(x[st.off]? = some (.li (l'.map (ap u')))\/x[st.off]? = some (.li (cr s (l'.map (ap u')) .any (h'::hr)))):=by
    simp only[cr]
    grind
   obtain⟨x,hx,b⟩:=key;have H:(cr sub (l.map (ap u)) .any (h::h'::hr)).getD st.idx []=x:=by grind
   rw[q,H]at a;simp only[inK];rw[hx];dsimp only;rw[q];rcases b with b|b
   ·grind [Mc,u9]
   ·rw[List.getD,b]at a;rw[b];dsimp only at a⊢;exact VH (by grind) a g z
  grind
theorem Ly{m:List (Nm×Nat×Rt)}{n:Nat}{K:List T->Prop}(hp:okP (toM m) p)(h:atT m p n=some ts)(t:∀ts',HL ts ts'->K ts'):atK (toM m) p n K:=by
 unfold atT at h;split at h
 ·cases h
 ·rename_i r hr;unfold atK;rw[br hr];dsimp only;unfold okP at hp;split at h
  ·rename_i a;rw[a];split at h
   ·rename_i hb;simp only[af0]at h;have j:=yQ r.cells r.hole
    refine⟨?_,t _ ?_⟩
    ·show p.off+n<=(holed (r.cells.map Tt.toT) r.hole).length
     rw[j.len];simp_all
    ·subst h;exact(j.drop _).take _
   grind
  ·rename_i st q a;rw[a]at hp⊢;split at h
   ·rename_i sub u l b hc;obtain⟨y,o,l',i,z,x⟩:=hp;rw[br hr]at i;obtain rfl:=Option.some.inj i;have c:r.toR.cells[p.off]? = some (.ow sub (l.map (ap u)))->(match st::q,r.toR.cells[p.off]? with
      |[],_=>p.off+n<=r.toR.cells.length/\K ((r.toR.cells.drop p.off).take n)
      |st::q,some (.ow sub l)=>inK sub l n (st::q) K
      |_,_=>False):=by
     grind [Mc,u9]
    cases e:r.hole with
    |none=>
     refine c ?_;show(holed (r.cells.map Tt.toT) r.hole)[p.off]? = _
     rw[e];show(r.cells.map Tt.toT)[p.off]? = _
     rw[af5,hc];rfl
    |some s=>
     obtain⟨off,f,k⟩:=s;rw[e]at b;have v:(st::q).length < (f::k).length:=agD b
     by_cases d:off=p.off
     ·subst d;have g:p.off < (r.cells.map Tt.toT).length:=by grind
      have w:r.toR.cells[p.off]? = some (.ow sub (cr sub (l.map (ap u)) .any (f::k))):=by
       show(holed (r.cells.map Tt.toT) r.hole)[p.off]? = _
       grind [holed,Tt.toT]
      grind [VH]
     ·refine c ?_;show(holed (r.cells.map Tt.toT) r.hole)[p.off]? = _
      rw[e];simp only[holed];split
      ·rw[List.getElem?_set_ne d,af5,hc];rfl
      ·rw[af5,hc];rfl
   grind
theorem Bi{m:List (Nm×Nat×Rt)}{sh:List Sh}{l:List (El u)}{K:List T->Prop}(hp:okP (toM m) p)(h:sliceAt m p=some ⟨sh,u,l⟩)(c:∀l':List (List D),l'.length=l.length->K [.ow sh l']):atK (toM m) p 1 K:=by
 unfold sliceAt at h;split at h
 ·rename_i f u' l' d;cases h;refine Ly hp d (fun ts' a=>?_);have hl:=a.len
  match ts',hl with
  |[t'],_=>
   rcases a.nth 0 _ _ rfl rfl with e|⟨b,i,l2,n,j,k,g⟩
   ·rw[e];exact c _ (by simp)
   grind
 grind
variable{gd:Option (Nat×Bool)}{ps:Array (Nat×Operand)}{zs:List Value}
section
variable {k:At->Prop} {m:List (Nm×Nat×Rt)}
theorem Ez{n:Nat}{q:Prop}(h:gift gd n q):n<=4611686018427387904->q:=by
 cases gd with
 |none=>exact h
 |some _=>exact fun _=>h
theorem Zb{k:Nat->Prop}(hp:∀p,x=.one (.c (.rf p))->okP (toM m) p)(h:RT gd m x k):Jr (toM m) x.toV k:=by
 unfold RT at h;split at h
 ·exact Ez h
 ·grind [At.toV,A1.toV,Tt.toT,C.toD,Jr,Ez]
 ·exact h
 all_goals grind [At.toV,A1.toV,Tt.toT,Jr,Bi,Ez]
theorem mf{x:Option At}{d:Nat}{k:Nat->Prop}(h:gV x d k):gU (x.map At.toV) d k:=by
 unfold gV at h;split at h
 ·exact h
 ·exact h
 grind
theorem SL{P:Program}{lo hi:Option At}(h:ww P t x lo hi k):lU P t x.toV (lo.map At.toV) (hi.map At.toV) (up k):=by
 have c:∀{y:Option At}{d:Nat}{k1 k2:Nat->Prop},(∀n,k1 n->k2 n)->gV y d k1->gV y d k2:=by
  intro y d k1 k2 hk hb;unfold gV at hb⊢
  grind
 unfold ww at h;split at h
 ·rename_i l;split at h
  ·rename_i f;refine⟨f,mf (c (fun a g=>mf (c (fun b hb=>?_) g)) h)⟩;exact⟨hb.1,_,rfl,hb.2⟩
  grind
 ·rename_i u l;split at h
  ·rename_i e f;split at h
   ·rename_i hc;simp only[afZ]at hc;simp only[At.toV,A1.toV,Tt.toT,C.toD,lU,f];refine⟨hc.1,fun y hy=>?_,mf (c (fun a g=>?_) h)⟩
    ·grind [lg,af8]
    ·rw[af7]
     grind [mf,At.toV,A1.toV,Tt.toT,C.toD,ah0,ah9]
   grind
  grind
 all_goals grind [At.toV,A1.toV,Tt.toT,lU,mf]
theorem pj{n:Nat}(h:pi m p n=true):iT (toM m) p n:=by
 unfold pi at h;split at h
 ·cases h
 ·rename_i r hr;unfold iT room;rw[br hr];dsimp only;have d:=yQ r.cells r.hole
  split at h
  ·rename_i a;rw[a];show n < (holed (r.cells.map Tt.toT) r.hole).length-p.off
   rw[d.len];exact agD h
  ·rename_i st q sub u l a hc;rw[a];split at h
   ·rename_i k hk;have f:=(ahB.1 hc).1
    have b:p.off < (holed (r.cells.map Tt.toT) r.hole).length:=by grind [HL.len]
    have:=d.nth p.off _ _ hc (af1 b)
    have e:∃l',r.toR.cells[p.off]? = some (.ow sub l'):=by
     rcases this with e|⟨sh,i,l2,g,c,j,_⟩
     ·exact⟨_,by show(holed _ _)[p.off]? = _;rw[af1 b,e];rfl⟩
     ·simp only[Tt.ow.injEq]at c;obtain⟨rfl,_,_⟩:=c;exact⟨g,by show(holed _ _)[p.off]? = _;grind⟩
    grind [agD]
   grind
  grind
theorem BG{P:Program}(h:iG P m t x i k):gq P (toM m) t x.toV i (up k):=by
 unfold iG at h;split at h
 ·rename_i fs a;unfold gq;rw[a];dsimp only;cases hf:fs[i]? with
  |none=>grind
  |some f=>
   obtain⟨off,size,b⟩:=f;rw[hf]at h;cases size with
   |zero=>grind
   |succ size=>
    dsimp only at h⊢;refine⟨by omega,?_⟩;split at h
    ·split at h
     ·rename_i hr;exact⟨pj hr,_,rfl,h⟩
     grind
    ·exact⟨_,rfl,h⟩
    grind
 grind
theorem rz{P:Program}{i:At}(hp:∀p,x=.one (.c (.rf p))->okP (toM m) p)(h:gz P m t x i k):gy P (toM m) t x.toV i.toV (up k):=by
 unfold gz at h;split at h
 ·rename_i κ n;simp only[At.toV,A1.toV,Tt.toT,C.toD,gy];split at h
  ·rename_i e a;rw[a];split at h
   ·grind [At.toV,A1.toV,Tt.toT,lg,af8,bX]
   ·rename_i p;split at h
    ·rename_i hc;simp only[afZ]at hc;split at h
     ·rename_i sh u l hs;split at h
      ·rename_i hb;obtain⟨h1,h2⟩:=h;simp only[At.toV,A1.toV,Tt.toT];refine⟨hc.1,by have:=agD hc.2;omega,Bi (hp p rfl) hs (fun l' hl=>?_)⟩;dsimp only;exact⟨⟨h1.1,by omega⟩,af8 hb,_,rfl,h2⟩
      grind
     grind
    grind
   grind
  ·rename_i N e a;rw[a];split at h
   ·rename_i u l i;split at h
    ·rename_i hc;simp only[afZ]at hc;obtain⟨h1,h2⟩:=h;simp only[At.toV,A1.toV,Tt.toT];refine⟨hc.1.1,h1,_,?_,h2⟩;simp only[At.toV,A1.toV,Tt.toT];rw[af8 hc.1.2,Nat.mul_one,Nat.add_comm];rfl
    grind
   all_goals grind [At.toV,A1.toV,Tt.toT,pj]
  grind
 grind
theorem Aq{P:Program}(hp:∀p,x=.one (.c (.pl p))->okP (toM m) p)(h:mE P m t x k):uf P (toM m) t x.toV (up k):=by
 unfold mE at h;split at h
 ·rename_i d;refine⟨d,?_⟩;split at h
  ·rename_i row o;simp only[At.toV,A1.toV,Tt.toT];split at h
   ·rename_i a;rw[if_pos a];split at h
    ·rename_i hb;refine⟨by simp_all,fun _=>⟨_,?_,h⟩⟩;simp only[At.toV,A1.toV,AV.one.injEq,AV1.agg.injEq];rw[ag6,<- ah9,<- ah0,ag6];rfl
    grind
   ·rename_i a;rw[if_neg (by grind),af5];split at h
    ·rename_i c hc;rw[hc];exact fun _=>⟨_,rfl,h⟩
    grind
  ·rename_i u l i;simp only[At.toV,A1.toV,Tt.toT];split at h
   ·rename_i a hl;have e:l[i]? = some (l.getD i (dflt u)):=by grind
    rw[if_neg (by grind),af5,e];exact fun _=>⟨_,rfl,h.2⟩
   grind
  ·rename_i p;simp only[At.toV,A1.toV,Tt.toT];split at h
   ·grind [Ly,At.toV,A1.toV,XI]
   ·rename_i a;rw[if_neg (by grind)];split at h
    ·rename_i t' b;refine Ly (hp p rfl) b (fun ts' f=>?_);have hl:=f.len
     match ts',hl with
     |[g],_=>
      dsimp only;refine fun _=>⟨_,?_,h⟩
      simp only[At.toV,A1.toV];rw[T2 (f.nth 0 _ _ rfl rfl)]
    grind
  grind
 grind
theorem rV(x:At):eT x.toV=(qh x).map (·.map Tt.toT):=by
 cases x with
 |one x=>cases x<;>rfl
 |_=>rfl
theorem Sf{α β:Type}(f:α->β)(ts cs:List α)(off:Nat):(overw ts off cs).map f=overw (ts.map f) off (cs.map f):=by
 grind [overw,ah0,ah9]
theorem ql{pl:Nat->Option (Nat×Nat)}:∀{a:List (Nat×At)}{ts ts':List Tt},r9 pl ts a=some ts'->jD pl (ts.map Tt.toT) (a.map fun x=>(x.1,x.2.toV))=some (ts'.map Tt.toT)
 |[],ts,ts',h=>by simp only[r9,af0]at h;subst h;rfl
 |(i,x)::r,ts,ts',h=>by
  simp only[r9]at h;simp only[af3,jD];cases b:pl i with
  |none=>grind
  |some q=>
   obtain⟨off,size⟩:=q;cases hc:qh x with
   |none=>grind
   |some cs=>
    rw[b,hc]at h;dsimp only at h;split at h
    ·rename_i hb;simp only[afZ]at hb;rw[rV,hc];dsimp only[Option.map_some];have hs:(cs.map Tt.toT).all T.sure=true:=by
      grind [KD]
     rw[if_pos ⟨by grind [af8],by rw[af7,af7];exact agD hb.1.2,hs⟩];rw[<- Sf];exact ql h
    grind
theorem wc{s:St}(h:(ps.toList.all fun x=>aG x.2)=true):kw s.toS ps=(kz s ps).map fun x=>(x.1,x.2.toV):=by
 grind [kw,kz,agJ,af]
theorem OU(h:zs.all okT=true):(zs.map tP).map Tt.toT=zs.map ra:=by
 grind [agJ,vB]
theorem Z5{P:Program}{pl:List (Nat×Nat)}(h:zst P t=some (zs,pl)):zs.all okT=true:=by
 grind [zst]
theorem Qw{P:Program}{a:List (Nat×At)}(h:vr P t a k):rT P t (a.map fun x=>(x.1,x.2.toV)) (up k):=by
 unfold vr at h;split at h
 ·rename_i zs b hz;split at h
  ·rename_i ts hf;unfold rT;rw[hz];dsimp only;have:=ql hf
   rw[OU (Z5 hz)]at this;rw[this];exact⟨.one (.agg ts),rfl,h⟩
  grind
 grind
end
theorem dV(bad:Bool->Pl->Bool)(t:Tt):(t.kill bad).toT=t.toT.kill bad:=by
 cases t with
 |pl p=>
  show(if bad false p=true then Tt.any else Tt.pl p).toT=if bad false p=true then T.any else T.pl p
  grind [Tt.toT]
 |rf p=>
  show(if bad true p=true then Tt.any else Tt.rf p).toT=if bad true p=true then T.any else T.rf p
  grind [Tt.toT]
 |_=>rfl
theorem zb(bad:Bool->Pl->Bool)(ts:List Tt):(ts.map (·.kill bad)).map Tt.toT=(ts.map Tt.toT).map (·.kill bad):=by
 grind [agJ,dV]
theorem wF(bad:Bool->Pl->Bool)(x:A1):(x.kill bad).toV=x.toV.kill bad:=by
 cases x<;>grind [A1.kill,A1.toV,AV1.kill,dV,zb]
theorem FT(bad:Bool->Pl->Bool)(x:At):(x.kill bad).toV=x.toV.kill bad:=by
 cases x with
 |one x=>simp only[At.kill,At.toV,AV.kill,wF]
 |tup xs=>
  simp_all[At.kill,At.toV,AV.kill,wF]
 |any=>rfl
variable{bad:Bool->Pl->Bool}
theorem iA{t:Tt}(h:t.hit bad=false):t.kill bad=t:=by
 cases t<;>grind [Tt.hit,Tt.kill]
theorem oR:∀{ts:List Tt},ts.any (·.hit bad)=false->ts.map (·.kill bad)=ts
 |[],_=>rfl
 |t::ts,h=>by
  simp only[List.any_cons,Bool.or_eq_false_iff]at h;rw[af3,iA h.1,oR h.2]
theorem yt{x:A1}(h:x.hit bad=false):x.kill bad=x:=by
 cases x with
 |c t=>simp only[A1.kill,iA (show t.hit bad=false from h)]
 |agg ts=>simp only[A1.kill,oR (show ts.any _=false from h)]
theorem K0(h:x.hit bad=false):x.kill bad=x:=by
 cases x with
 |one x=>simp only[At.kill,yt (show x.hit bad=false from h)]
 |tup xs=>
  simp only[At.hit]at h;simp only[At.kill]
  congr 1
  induction xs<;>grind [yt]
 |any=>rfl
theorem Mb(bad:Bool->Pl->Bool)(cells:List Tt)(hole:Option (Nat×Step×List Step)) :
  holed ((cells.map (·.kill bad)).map Tt.toT) hole=(holed (cells.map Tt.toT) hole).map (·.kill bad):=by
 rw[zb];cases hole with
 |none=>rfl
 |some h=>
  obtain⟨off,st,q⟩:=h;simp only[holed];rw[af5 (f:=fun t=>T.kill bad t)];cases hc:(cells.map Tt.toT)[off]? with
  |none=>rfl
  |some t=>
   simp only[Option.map_some];cases t<;>grind [T.kill,agR]
theorem wX(bad:Bool->Pl->Bool)(r:Rt):(r.kill bad).toR={ r.toR with cells:=r.toR.cells.map (·.kill bad) }:=by
 simp only[Rt.toR,Rt.kill,Mb]
theorem qu(bad:Bool->Pl->Bool)(nx:Nat)(t:List (Nat×Nat×At)):(oy bad nx t).map (fun x=>(x.1,x.2.2.toV))=oz bad (t.map fun x=>(x.1,x.2.2.toV)):=by
 grind [oy,oz,agJ,FT]
theorem fg(bad:Bool->Pl->Bool)(nx:Nat)(m:List (Nm×Nat×Rt)):toM (cN bad nx m)=aM bad (toM m):=by
 grind [cN,aM,agJ,wX]
variable{nx:Nat}
theorem D1{m:List (Nm×Nat×Rt)}:ND (cN bad nx m) ↔ ND m:=by
 grind [cN]
theorem Aw{k:Nm}:∀{m:List (Nm×Nat×Rt)},k∈(fM m n).map (·.1)->k∈m.map (·.1)/\k≠n
 |[],h=>by simp[fM]at h
 |(k',j,v)::m,h=>by
  simp only[fM]at h;split at h
  ·have:=Aw h;grind
  ·rename_i hk;simp only[af3,agC]at h;rcases h with rfl|h
   ·grind
   ·have:=Aw h;grind
theorem Ld{n:Nm}:∀{m:List (Nm×Nat×Rt)},ND m->ND (fM m n)
 |[],_=>by simp[ND,fM]
 |(k,j,v)::m,h=>by
  have h':k ∉ m.map (·.1)/\(m.map (·.1)).Nodup:=by grind
  simp only[fM];split
  ·exact Ld h'.2
  ·have:=Ld (n:=n) h'.2
   grind [Aw]
theorem Dd(n:Nm)(i:Nat)(r:Rt):∀m:List (Nm×Nat×Rt),(eA m n i r).map (·.1)=m.map (·.1)
 |[]=>rfl
 |(k,j,v)::m=>by
  simp only[eA];split
  ·rfl
  ·simp only[af3,Dd n i r m]
theorem gD{g:G}{s:St}{a:Act}{w:World}{H:FH}{γ:Gam}{F:Nm->Fp}(h:RX g s.toS a w H γ F):ND s.m:=by
 have:=h.mem.keys
 grind [St.toS]
theorem bV{s:St}(h:ND s.m):(s.drop n).toS=s.toS.drop n:=by
 have h1:=qu (bO n) s.nx s.t
 have h2:=fg (bO n) s.nx (fM s.m n)
 rw[oY n s.m h]at h2;exact S_ext h1 h2
where
 S_ext {t t':List (Nat×AV)} {m m':Mm} (h1:t=t') (h2:m=m'):(⟨t,m⟩:S)=⟨t',m'⟩:=by grind
theorem Oz{s:St}(h:ND s.m):ND (s.drop n).m:=D1.2 (Ld h)
theorem bw{s:St}(h:ND s.m):(s.fresh n).toS=s.toS.fresh n:=by
 unfold St.fresh S.fresh;have e:ae s.toS.m n=(cq s.m n).map Rt.toR:=tU n s.m
 grind [bV]
def SEq(s s':S):Prop:=(∀i,aY s.t i=aY s'.t i)/\s.m=s'.m
theorem bj{g:G}{s s':S}{a:Act}{w:World}{H:FH}{γ:Gam}{F:Nm->Fp}(e:SEq s s')(h:RX g s a w H γ F):RX g s' a w H γ F:=by
 obtain⟨t,m⟩:=s;obtain⟨t',m'⟩:=s';obtain⟨b,c⟩:=e;dsimp only at b c;subst c;exact⟨h.mem,h.fr,h.nt,h.df,fun i=>by rw[<- b i];exact h.t i⟩
theorem CM{g:G}{s s':S}{a:Act}{w:World}(e:SEq s s')(h:R g s a w):R g s' a w:=by
 obtain⟨H,γ,F,h⟩:=h;exact⟨H,γ,F,bj e h⟩
theorem aI(s:St)(d:Option Tmp)(v:At):SEq (s.toS.put d v.toV) (s.put d v).toS:=by
 cases d with
 |none=>exact⟨fun _=>rfl,rfl⟩
 |some d=>
  refine⟨fun i=>?_,rfl⟩;show aY (sP _ d v.toV) i=aY ((d,v.toV)::_) i
  rw[iI];rfl
theorem Dj(f:Nat×Nat×At->Nat×At)(k:Nat):∀t:List (Nat×Nat×At),cw (t.map fun x=>(x.1,f x)) k=(cw t k).map fun y=>f (k,y)
 |[]=>rfl
 |(i,j,v)::t=>by
  simp only[af3,cw];cases hb:Nat.beq i k with
  |true=>grind [af8]
  |false=>exact Dj f k t
theorem vT(f:Nm×Nat×Rt->Nat×Rt)(k:Nm):∀t:List (Nm×Nat×Rt),cU (t.map fun x=>(x.1,f x)) k=(cU t k).map fun y=>f (k,y)
 |[]=>rfl
 |(i,j,v)::t=>by
  simp only[af3,cU];by_cases hb:i=k
  ·grind
  ·rw[if_neg hb,if_neg hb];exact vT f k t
structure Ext (s0 s:St):Prop where
 nx:s0.nx<=s.nx
 t:∀k j v,cw s.t k=some (j,v)->j<s0.nx->cw s0.t k=some (j,v)
 m:∀n j r,cU s.m n=some (j,r)->j<s0.nx->cU s0.m n=some (j,r)
theorem Ext.refl(s:St):Ext s s:=⟨af2 _,fun _ _ _ h _=>h,fun _ _ _ h _=>h⟩
theorem Ext.trans{a b c:St}(h1:Ext a b)(h2:Ext b c):Ext a c:=
 ⟨ahK h1.nx h2.nx,fun k j v h hj=>h1.t k j v (h2.t k j v h (Nat.lt_of_lt_of_le hj h1.nx)) hj,fun k j v h hj=>h1.m k j v (h2.m k j v h (Nat.lt_of_lt_of_le hj h1.nx)) hj⟩
abbrev La(nx:Nat)(t t':List (Nat×Nat×At)):Prop:=∀k j v,cw t' k=some (j,v)->j<nx->cw t k=some (j,v)
abbrev FV(nx:Nat)(m m':List (Nm×Nat×Rt)):Prop:=∀n j r,cU m' n=some (j,r)->j<nx->cU m n=some (j,r)
theorem FV.trans{a b c:List (Nm×Nat×Rt)}(h1:FV nx a b)(h2:FV nx b c):FV nx a c:=fun n j r h hj=>h1 n j r (h2 n j r h hj) hj
theorem La.trans{a b c:List (Nat×Nat×At)}(h1:La nx a b)(h2:La nx b c):La nx a c:=fun n j r h hj=>h1 n j r (h2 n j r h hj) hj
theorem u6{t:List (Nat×Nat×At)}(d i:Nat)(v:At)(hi:nx<=i):La nx t ((d,i,v)::t):=by
 grind [cw]
theorem lW{t:List (Nm×Nat×Rt)}(d:Nm)(i:Nat)(v:Rt)(hi:nx<=i):FV nx t ((d,i,v)::t):=by
 grind [cU]
theorem s4{t:List (Nat×Nat×At)}(a:At->Bool)(f:At->At)(hf:∀v,a v=false->f v=v)(hi:nx<=i) :
  La nx t (t.map fun x=>(x.1,stp (a x.2.2) i x.2.1,f x.2.2)):=by
 intro k j v h hj;rw[Dj (fun x=>(stp (a x.2.2) i x.2.1,f x.2.2))]at h;cases hl:cw t k with
 |none=>grind
 |some y=>
  obtain⟨j',b⟩:=y;rw[hl]at h;simp only[Option.map_some,af0,Prod.mk.injEq]at h;cases hc:a b<;>grind [stp]
theorem ix{t:List (Nat×Nat×At)}(hi:nx<=i):La nx t (oy bad i t):=s4 (·.hit bad) (·.kill bad) (fun _ h=>K0 h) hi
theorem eJ{t:List (Nm×Nat×Rt)}(hi:nx<=i):FV nx t (cN bad i t):=by
 intro k j v h hj;unfold cN at h;rw[vT (fun x=>(stp (x.2.2.cells.any (·.hit bad)) i x.2.1,x.2.2.kill bad))]at h;cases hl:cU t k with
 |none=>grind
 |some y=>
  obtain⟨j',r⟩:=y;rw[hl]at h;simp only[Option.map_some,af0,Prod.mk.injEq]at h;cases hc:r.cells.any (·.hit bad)with
  |true=>grind [stp]
  |false=>
   rw[hc]at h;have:r.kill bad=r:=by unfold Rt.kill;rw[oR hc]
   grind [stp]
theorem sr(n k:Nm):∀m:List (Nm×Nat×Rt),cU (fM m n) k=if k=n then none else cU m k
 |[]=>by simp[fM,cU]
 |(i,j,v)::m=>by
  simp only[fM];by_cases h:i=n
  ·subst h;rw[if_pos rfl,sr i k m]
   grind [cU]
  ·rw[if_neg h];simp only[cU];by_cases hk:i=k
   ·grind
   ·rw[if_neg hk,if_neg hk,sr n k m]
theorem oJ{m:List (Nm×Nat×Rt)}(n:Nm):FV nx m (fM m n):=by
 grind [sr]
theorem dw(n:Nm)(r:Rt)(hi:nx<=i):∀m:List (Nm×Nat×Rt),FV nx m (eA m n i r)
 |[],_,_,_,h,_=>h
 |(a,b,c)::m,k,j,v,h,hj=>by
  simp only[eA]at h;split at h
  ·grind [cU]
  ·simp only[cU]at h⊢;split at h
   ·grind
   ·rename_i hk;rw[if_neg hk];exact dw n r hi m k j v h hj
theorem aA(s:St)(d:Option Tmp)(v:At):Ext s (s.put d v):=by
 cases d with
 |none=>exact Ext.refl s
 |some d=>exact⟨agU _,u6 d s.nx v (af2 _),fun _ _ _ h _=>h⟩
theorem s5(s:St)(n:Nm):Ext s (s.drop n):=⟨agU _,ix (af2 _),(oJ n).trans (eJ (af2 _))⟩
theorem bT(s:St)(n:Nm):Ext s (s.fresh n):=by
 grind [St.fresh,Ext.refl,s5]
theorem dh(s:St)(n:Nm)(r:Rt):Ext s (s.root n r):=⟨agU _,fun _ _ _ h _=>h,lW n s.nx r (af2 _)⟩
theorem Lr(q:Pl)(u:U)(l:List (El u))(t:Tt):(t.frz q u l).toT=t.toT.frz q (l.map (ap u)):=by
 cases t with
 |pl p=>exact dV (thr q) (.pl p)
 |rf p=>
  obtain⟨n,o,path⟩:=p;cases path with
  |nil=>
   show(if n=q.root/\o=q.off then Tt.d (.li u l)else(Tt.rf ⟨n,o,[]⟩).kill (thr q)).toT=if n=q.root/\o=q.off then T.d (.li (l.map (ap u)))else(T.rf ⟨n,o,[]⟩).kill (thr q)
   by_cases h:n=q.root/\o=q.off
   ·rw[if_pos h,if_pos h];rfl
   ·rw[if_neg h,if_neg h];exact dV (thr q) (.rf ⟨n,o,[]⟩)
  |cons st r=>exact dV (thr q) (.rf ⟨n,o,st::r⟩)
 |_=>rfl
theorem Lq(n:Nm)(c:C)(t:Tt):(t.frm n c).toT=t.toT.frm n c.toD:=by
 cases t with
 |pl p=>exact dV (bO n) (.pl p)
 |rf p=>
  obtain⟨r,o,path⟩:=p;by_cases h:r=n
  ·simp only[Tt.frm,Tt.toT,T.frm,if_pos h]
   grind
  simp_all[Tt.frm,Tt.toT,T.frm]
 |_=>rfl
variable{f:Tt->Tt}
theorem yu{f':T->T}(h:∀t,(f t).toT=f' t.toT)(x:A1):(x.map f).toV=x.toV.map f':=by
 cases x with
 |c t=>grind [A1.map,A1.toV,AV1.map]
 |agg ts=>
  simp_all[A1.map,A1.toV,AV1.map]
theorem rH{f':T->T}(h:∀t,(f t).toT=f' t.toT)(x:At):(x.map f).toV=x.toV.map f':=by
 cases x with
 |one x=>grind [At.map,At.toV,AV.map,yu]
 |tup xs=>
  simp_all[At.map,At.toV,AV.map,yu]
 |any=>rfl
variable{q:Pl}
theorem Qh{l:List (El u)}{t:Tt}(h:t.hit (NL q)=false):t.frz q u l=t:=by
 cases t with
 |pl p=>
  simp only[Tt.hit,NL,Bool.false_and,Bool.or_false]at h;exact iA (t:=.pl p) h
 |rf p=>
  simp only[Tt.hit,NL,ag1,Bool.or_eq_false_iff]at h;obtain⟨n,o,path⟩:=p;cases path with
  |nil=>
   simp only[Tt.frz];rw[if_neg (by grind)];exact iA (t:=.rf ⟨n,o,[]⟩) h.1
  |cons st r=>exact iA (t:=.rf ⟨n,o,st::r⟩) h.1
 |_=>rfl
theorem Qg{t:Tt}(h:t.hit (bO n)=false):t.frm n c=t:=by
 cases t with
 |pl p=>exact iA (t:=.pl p) h
 |rf p=>
  simp_all[Tt.hit,bO,Tt.frm]
 |_=>rfl
theorem u5(hf:∀{t:Tt},t.hit bad=false->f t=t)(h:x.hit bad=false):x.map f=x:=by
 have one:∀{y:A1},y.hit bad=false->y.map f=y:=by
  intro y hy;cases y with
  |c t=>simp only[A1.map,hf (show t.hit _=false from hy)]
  |agg ts=>
   simp only[A1.hit]at hy;simp only[A1.map]
   congr 1
   induction ts<;>grind
 cases x with
 |one y=>simp only[At.map,one (show y.hit _=false from h)]
 |tup xs=>
  simp only[At.hit]at h;simp only[At.map]
  congr 1
  induction xs<;>grind
 |any=>rfl
theorem PP{l:List (El u)}(h:x.hit (NL q)=false):x.map (Tt.frz q u l)=x:=u5 Qh h
theorem nE(n:Nm):∀m:List (Nm×Nat×Rt),cq m n=(cU m n).map (·.2)
 |[]=>rfl
 |(k,j,r)::m=>by
  simp only[cq,cU];by_cases h:k=n
  ·grind
  ·rw[if_neg h,if_neg h];exact nE n m
theorem u7(s:St)(q:Pl):Ext s (tT s q):=by
 unfold tT;split
 ·split
  ·rename_i u l _ _;refine⟨agU _,s4 (·.hit (NL q)) (·.map (Tt.frz q u l)) (fun _ h=>PP h) (af2 _),?_⟩
   grind [setCell,dw,eJ]
  ·split
   ·exact⟨agU _,s4 (·.hit (bO q.root)) (·.map (Tt.frm q.root _)) (fun _ h=>u5 Qg h) (af2 _),(oJ q.root).trans (eJ (af2 _))⟩
   ·exact Ext.refl s
  ·exact Ext.refl s
 ·exact Ext.refl s
variable{off:Nat}
theorem pJ{m:List (Nm×Nat×Rt)}{t:Tt}(hr:cq m n=some r)(a:r.hole=none) :
  toM (setCell m n i off t)=cE (toM m) n ⟨r.blk,(r.toR.cells).set off t.toT⟩:=by
 grind [setCell,fj,Rt.toR,holed,agR]
theorem Ey{m:List (Nm×Nat×Rt)}{t:Tt}(hr:cq m n=some r):cq (setCell m n i off t) n=some { r with cells:=r.cells.set off t }:=by
 unfold setCell;rw[hr];dsimp only;induction m<;>grind [eA,cq]
theorem C8(bad:Bool->Pl->Bool)(i:Nat)(n:Nm)(m:List (Nm×Nat×Rt)):cq (cN bad i m) n=(cq m n).map (·.kill bad):=by
 rw[nE,nE];unfold cN;rw[vT (fun x=>(stp (x.2.2.cells.any (·.hit bad)) i x.2.1,x.2.2.kill bad))];cases cU m n<;>rfl
theorem o4(h:leaf u=true)(x:El u):(ap u x).headD .any=(am u x).toD:=by cases u<;>first|rfl|cases h
theorem YO(ku vu:U)(l:List (El ku×El vu)):frL (l.map fun x=>((am ku x.1).toD,Sh.fr,(am vu x.2).toD))=true:=by
 grind [frL]
theorem ve{g:G}{s:St}{a:Act}{w:World}{H:FH}{γ:Gam}{F:Nm->Fp}(h:RX g s.toS a w H γ F)(q:Pl):∃H' F',RX g (tT s q).toS a w H' γ F':=by
 unfold tT;split
 ·rename_i r b hr;split
  ·rename_i sh u l c hc;obtain⟨H',F',h'⟩:=Lf h q;refine⟨H',F',?_⟩;have z:r.toR.cells[q.off]? = some (.ow sh (l.map (ap u))):=by
    show(holed (r.cells.map Tt.toT) r.hole)[q.off]? = _
    rw[c];show(r.cells.map Tt.toT)[q.off]? = _
    rw[af5,hc];rfl
   have y:ae s.toS.m q.root=some r.toR:=br hr
   have o:aW s.toS.m q=some (.ow sh (l.map (ap u))):=by
    grind [aW]
   have e:IL s.toS q=⟨sv (AV.map (T.frz q (l.map (ap u)))) s.toS.t,IK s.toS.m q (l.map (ap u))⟩:=by
    grind [IL]
   rw[e]at h';have key:(⟨s.nx+1,s.t.map fun x=>(x.1,stp (x.2.2.hit (NL q)) s.nx x.2.1,x.2.2.map (Tt.frz q u l)),
     setCell (cN (thr q) s.nx (setCell s.m q.root s.nx q.off .any)) q.root s.nx q.off (.d (.li u l))⟩:St).toS=⟨sv (AV.map (T.frz q (l.map (ap u)))) s.toS.t,IK s.toS.m q (l.map (ap u))⟩:=by
    refine bV.S_ext ?_ ?_
    ·simp only[St.toS,sv,ag6]
     grind [agJ,rH,Lr]
    ·have g1:=Ey (i:=s.nx) (off:=q.off) (t:=.any) hr
     have g2:cq (cN (thr q) s.nx (setCell s.m q.root s.nx q.off .any)) q.root=some (({ r with cells:=r.cells.set q.off .any }:Rt).kill (thr q)):=by grind [C8]
     show toM (setCell _ q.root s.nx q.off (.d (.li u l)))=_
     rw[pJ g2 c,fg,pJ hr c];unfold IK;have v:bh s.toS.m q .any=cE (toM s.m) q.root ⟨r.blk,r.toR.cells.set q.off Tt.any.toT⟩:=by
      unfold bh;rw[y,b];rfl
     rw[v];have g3:ae (aM (thr q) (cE (toM s.m) q.root ⟨r.blk,r.toR.cells.set q.off Tt.any.toT⟩)) q.root=some ⟨r.blk,(r.toR.cells.set q.off Tt.any.toT).map (·.kill (thr q))⟩:=by
      grind [br,fg,pJ,wX,Rt.toR,holed,agR]
     grind [bh,Rt.toR,Rt.kill,holed,agR,zb,Tt.toT,C.toD]
   grind
  ·rename_i ku vu l c hc;split
   ·rename_i x hb k j;simp only[afZ]at j;have n:q.off=0:=by
     grind
    have hx:x=.mp ku vu l:=by grind
    have f:ae s.toS.m q.root=some ⟨false,[.mp (l.map fun x=>((am ku x.1).toD,Sh.fr,(am vu x.2).toD))]⟩:=by
     have:=br hr
     unfold Rt.toR at this;rw[hb,k,c,hx]at this;exact this
    obtain⟨H',F',h'⟩:=XP h f (YO ku vu l);refine⟨H',F',?_⟩;have p:mpD (l.map fun x=>((am ku x.1).toD,Sh.fr,(am vu x.2).toD))=(C.mp ku vu (some l)).toD:=by
     show D.mp (some ((l.map _).map _))=D.mp (some (l.map _))
     grind [agJ,o4]
    rw[p]at h';have key:(Vr s q.root (.mp ku vu (some l))).toS=frzm s.toS q.root (C.mp ku vu (some l)).toD:=by
     refine bV.S_ext ?_ ?_
     ·simp_all[St.toS,Vr,sv,rH,Lq]
     ·have h2:=fg (bO q.root) s.nx (fM s.m q.root)
      rw[oY q.root s.m (gD h)]at h2;exact h2
    grind
   grind
  grind
 grind
variable{v:At}
section
variable {g:G} {a:Act} {w:World} {γ:Gam}
theorem CJ{s:St}{H:FH}{F:Nm->Fp}(h:RX g s.toS a w H γ F)(t:Tt):∃H' F',RX g (O1 s t).toS a w H' γ F':=by
 cases t with
 |rf p=>exact ve h p
 |_=>exact⟨H,F,h⟩
theorem yZ:∀(ts:List Tt)(s:St)(H:FH)(F:Nm->Fp),RX g s.toS a w H γ F->∃H' F',RX g (Ex s ts).toS a w H' γ F'
 |[],_,H,F,h=>⟨H,F,h⟩
 |t::ts,s,H,F,h=>by
  obtain⟨H1,F1,h1⟩:=CJ h t;exact yZ ts _ H1 F1 h1
theorem gE{s:St}{H:FH}{F:Nm->Fp}(h:RX g s.toS a w H γ F)(v:At):∃H' F',RX g (gL s v).toS a w H' γ F':=by
 cases v with
 |one x=>cases x with
  |c t=>exact CJ h t
  |agg ts=>exact yZ ts s H F h
 |_=>exact⟨H,F,h⟩
theorem ka:∀(vs:List At)(s:St)(H:FH)(F:Nm->Fp),RX g s.toS a w H γ F->∃H' F',RX g (eL s vs).toS a w H' γ F'
 |[],_,H,F,h=>⟨H,F,h⟩
 |v::vs,s,H,F,h=>by
  obtain⟨H1,F1,h1⟩:=gE h v;exact ka vs _ H1 F1 h1
theorem GD{s s':St}{H:FH}{F:Nm->Fp}(hX:RX g s.toS a w H γ F)(hf:∀(g':G) (H:FH) (F:Nm->Fp),RX g' s.toS a w H γ F->∃H' F',RX g' s'.toS a w H' γ F') :
  ∃H' F',RX g s'.toS a w H' γ F'/\∀b o y,H b o=some y->H' b o=some y:=by
 let g':G:=⟨g.nt,w,H,tot F s.toS.m,g.out,g.ex,g.dfs⟩
 have c:RX g' s.toS a w H γ F:=⟨hX.mem,Fr.refl' rfl rfl rfl rfl (fun _ h=>h),hX.nt,⟨hX.df.1,hX.df.2.1,j9 hX⟩,hX.t⟩
 obtain⟨H',F',h⟩:=hf g' H F c;exact⟨H',F',⟨h.mem,hX.fr.trans h.fr,h.nt,⟨h.df.1,h.df.2.1,hX.df.2.2⟩,h.t⟩,h.fr.hold⟩
theorem p7:∀(ts:List Tt)(s:St)(p:Pl)(H:FH)(F:Nm->Fp),RX g s.toS a w H γ F->∃H' F',RX g (xj s p ts).toS a w H' γ F'
 |[],s,_,H,F,h=>⟨H,F,h⟩
 |t::ts,s,p,H,F,h=>by
  cases t with
  |rf q=>
   simp only[xj];split
   ·obtain⟨H1,F1,h1⟩:=ve h q;exact p7 ts _ _ H1 F1 h1
   ·exact p7 ts _ _ H F h
  |_=>exact p7 ts s (p.add 1) H F h
theorem Qb{s:St}{H:FH}{F:Nm->Fp}(h:RX g s.toS a w H γ F)(x v:At):∃H' F',RX g (IM s x v).toS a w H' γ F':=by
 unfold IM;split
 ·exact p7 _ _ _ H F h
 grind
theorem Ch(s:St)(t:Tt):Ext s (O1 s t):=by
 cases t with
 |rf p=>exact u7 s p
 |_=>exact Ext.refl s
theorem yC:∀(ts:List Tt)(s:St),Ext s (Ex s ts)
 |[],s=>Ext.refl s
 |t::ts,s=>(Ch s t).trans (yC ts _)
theorem iy(s:St)(v:At):Ext s (gL s v):=by
 cases v with
 |one x=>cases x with
  |c t=>exact Ch s t
  |agg ts=>exact yC ts s
 |_=>exact Ext.refl s
theorem pX:∀(ts:List Tt)(s:St)(p:Pl),Ext s (xj s p ts)
 |[],s,_=>Ext.refl s
 |t::ts,s,p=>by
  cases t with
  |rf q=>
   simp only[xj];split
   ·exact(u7 s q).trans (pX ts _ _)
   ·exact pX ts _ _
  |_=>exact pX ts s (p.add 1)
theorem PU(s:St)(x v:At):Ext s (IM s x v):=by
 unfold IM
 grind [pX,Ext.refl]
theorem eX:∀(vs:List At)(s:St),Ext s (eL s vs)
 |[],s=>Ext.refl s
 |v::vs,s=>(iy s v).trans (eX vs _)
theorem y8{s:St}{H:FH}{F:Nm->Fp}(h:RX g s.toS a w H γ F)(o:Oper):∃H' F',RX g (JW s o).toS a w H' γ F':=by
 unfold JW;split
 ·exact gE h _
 ·exact gE h _
 grind
theorem FW(s:St)(o:Oper):Ext s (JW s o):=by
 grind [JW,iy,Ext.refl]
theorem C4{s:S}{t:Tt}(h:t.noRf=true):Vt s t.toT=s:=by
 cases t with
 |rf p=>cases h
 |_=>rfl
theorem zP{s:S}:∀{ts:List Tt},ts.all Tt.noRf=true->C5 s (ts.map Tt.toT)=s
 |[],_=>rfl
 |t::ts,h=>by
  simp only[agF,afZ]at h;simp only[af3,C5];rw[C4 h.1,zP h.2]
theorem vI{s:S}(h:v.noRf=true):IN s v.toV=s:=by
 cases v with
 |one x=>cases x with
  |c t=>exact C4 h
  |agg ts=>exact zP h
 |_=>rfl
theorem se{s:S}:∀{vs:List At},vs.all At.noRf=true->pe s (vs.map At.toV)=s
 |[],_=>rfl
 |v::vs,h=>by
  simp only[agF,afZ]at h;simp only[af3,pe];rw[vI h.1,se h.2]
theorem M0{s:St}{H:FH}{F:Nm->Fp}(hX:RX g s.toS a w H γ F){x:Operand}(hc:aG x=true) :
  (∀p,evA s x=.one (.c (.rf p))->okP (toM s.m) p)/\(∀p,evA s x=.one (.c (.pl p))->okP (toM s.m) p):=by
 have h:=aJ hX hc
 rw[af hc]at h;refine⟨fun p e=>?_,fun p e=>?_⟩
 ·rw[e]at h;obtain⟨_,h1,_⟩:=h;exact pz h1
 ·rw[e]at h;obtain⟨_,h1,_⟩:=h;exact M1 h1
theorem Rf{n:Nat}{q a:Prop}(hq:q->a)(h:gift gd n q):gift gd n a:=by
 cases gd with
 |none=>exact fun b=>hq (h b)
 |some _=>exact hq h
theorem Dg{m:List (Nm×Nat×Rt)}{k k':Nat->Prop}(hk:∀n,k n->k' n)(h:RT gd m x k):RT gd m x k':=by
 unfold RT at h⊢
 grind [Rf]
theorem Ru(x:At):qq x.toV=VO x:=by
 cases x with
 |one x=>cases x with
  |c t=>cases t with
   |d c=>cases c<;>rfl
   |_=>rfl
  |agg ts=>rfl
 |_=>rfl
theorem WO{e:En}{o:Oper}{s:St}{k:At->Prop}{H:FH}{F:Nm->Fp}(hX:RX g s.toS a w H γ F)(hc:opC g.nt o=true)(h:qT e o s k):qK e.P o s.toS (up k):=by
 unfold opC at hc;rw[afZ]at hc;obtain⟨_,hc⟩:=hc;unfold qT at h;unfold qK;cases ho:o.op with
 |move x=>grind [af]
 |assign x=>grind [af]
 |pick c x y=>
  grind [af,WC]
 |binOp op t x y z=>
  grind [af,X6]
 |unOp op t x=>grind [af,adQ]
 |load t x=>rw[ho]at h hc;dsimp only at hc⊢;rw[af hc];exact Aq (M0 hX hc).2 h
 |field t x i=>grind [af,Ra]
 |fieldAddr t x i=>rw[ho]at h hc;dsimp only at hc⊢;rw[af hc];exact BG h
 |indexAddr t x i=>
  rw[ho]at h hc;simp only[afZ]at hc;dsimp only;rw[af hc.1,af hc.2];exact rz (M0 hX hc.1).1 h
 |index t x i=>
  grind [af,SW]
 |extract x i=>grind [af,Iw]
 |convert p m x=>grind [af,Vc]
 |slice t x lo hi j=>
  rw[ho]at h hc;cases j with
  |some _=>omega
  |none=>
   dsimp only at h hc⊢;simp only[afZ]at hc;have l:∀(y:Option Operand),y.all aG=true->y.map (ev s.toS)=(y.map (evA s)).map At.toV:=by
    intro y hy;cases y<;>grind [af]
   grind [af,SL]
 |nilCheck x=>grind [af,EZ]
 |build t ps=>grind [wc,Qw]
 |call c=>
  rw[ho]at h hc;obtain⟨f,args,d⟩:=c;obtain⟨args⟩:=args;obtain⟨d⟩:=d;dsimp only at h hc⊢;cases f with
  |builtin b=>
   cases b with
   |len=>
    match args,d,h with
    |[x],[t],h=>
     have h1:aG x=true:=by grind
     dsimp only at h⊢;split at h
     ·rename_i hl;rw[af h1,Ru];refine⟨hl,?_⟩;exact Zb (M0 hX h1).1 (Dg (fun n hn=>⟨_,rfl,hn⟩) h)
     grind
   |_=>omega
  |_=>omega
 |_=>grind
end
theorem qR{x x':El u}(h:Kk u x off c=some x'):(∃d,(ap u x)[off]? = some d)/\ap u x'=(ap u x).set off c.toD:=by
 unfold Kk at h;split at h
 ·rename_i a hc;have e:=wD h
  refine⟨⟨a.toD,by grind [bX]⟩,?_⟩
  grind [bX,agR]
 grind
theorem Ku:∀{path:List Step}{sub:List Sh}{u:U}{l l':List (El u)}{t:Tt}{k:Prop}{K:List (List D)->Prop},sC sub u l path k->Ks sub u l t path=some l'->K (l'.map (ap u))->ik sub (l.map (ap u)) t.toT path K
 |[],_,_,_,_,_,_,_,h,_,_=>h.elim
 |[st],sub,u,l,l',t,k,K,h,a,b=>by
  obtain⟨h1,_⟩:=h;simp only[Ks]at a;simp only[ik];rw[lh l h1];dsimp only;split at a
  ·rename_i c hs;split at a
   ·rename_i x hx;simp only[af0]at a;subst a;obtain⟨⟨d,hd⟩,e⟩:=qR hx;rw[hs,hd];dsimp only;refine⟨trivial,?_⟩;rw[agR,e]at b;exact b
   grind
  ·rename_i hs;split at a
   ·rename_i u' g hf;split at a
    ·rename_i x hx;simp only[af0]at a;subst a;obtain⟨⟨d,hd⟩,e⟩:=qR hx;rw[hs,hd];dsimp only;refine⟨trivial,?_⟩;rw[agR,e]at b;exact b
    grind
   grind
  grind
 |st::m::r,sub,u,l,l',t,k,K,h,a,b=>by
  simp only[Ks]at a;simp only[ik];simp only[sC]at h;split at a
  ·rename_i s u' g i j;rw[i,j]at h;obtain⟨h1,h4⟩:=h;rw[lh l h1];dsimp only;split at a
   ·rename_i l2 f;split at a
    ·rename_i x hx;simp only[af0]at a;subst a;obtain⟨_,e⟩:=qR hx;have n:(ap u (l.getD st.idx (dflt u)))[st.off]? = some (.li (g.map (ap u'))):=by
      rw[<- bX,af5,j];rfl
     rw[i,n];dsimp only;refine Ku h4 f ?_;rw[agR,e]at b;exact b
    grind
   grind
  grind
mutual
theorem Xa:∀{a b:Sh},Kw a b=true->a=b
 |.fr,.fr,_=>rfl
 |.ow a,.ow b,h=>by simp only[Kw]at h;rw[jZ h]
 |.fr,.ow _,h=>by simp[Kw]at h
 |.ow _,.fr,h=>by simp[Kw]at h
theorem jZ:∀{a b:List Sh},lS a b=true->a=b
 |[],[],_=>rfl
 |a::r,b::q,h=>by
  simp only[lS,afZ]at h;rw[Xa h.1,jZ h.2]
 |[],_::_,h=>by simp[lS]at h
 |_::_,[],h=>by simp[lS]at h
end
theorem Iz:∀{path:List Step}{sub:List Sh}{u:U}{l l':List (El u)}{sh:List Sh}{v:U}{j:List (El v)}{k:Prop}{K:List (List D)->Prop},sC sub u l path k->Iy sub u l sh v j path=some l'->K (l'.map (ap u)) ->
  ik sub (cr sub (l.map (ap u)) .any path) (.ow sh (j.map (ap v))) path K
 |[],_,_,_,_,_,_,_,_,_,h,_,_=>h.elim
 |[st],sub,u,l,l',sh,v,j,k,K,h,a,i=>by
  obtain⟨h1,_⟩:=h;have h1':st.idx < (l.map (ap u)).length:=by grind
  simp only[Iy]at a;split at a
  ·rename_i s c hs hc;split at a
   ·rename_i x m hx;simp only[af0]at a;subst a;obtain⟨⟨d,hd⟩,e⟩:=qR hx;have f:st.off < (ap u (l.getD st.idx (dflt u))).length:=bY hd
    have b:cr sub (l.map (ap u)) .any [st]=(l.map (ap u)).set st.idx ((ap u (l.getD st.idx (dflt u))).set st.off .any):=by
     grind [cr]
    rw[b];simp only[ik];rw[agQ h1'];dsimp only;rw[hs,agQ f];dsimp only;refine⟨jZ m,?_⟩;rw[ahZ,ahZ];rw[agR,e]at i;exact i
   grind
  grind
 |st::g::r,sub,u,l,l',sh,v,j,k,K,h,a,i=>by
  simp only[Iy]at a;simp only[sC]at h;split at a
  ·rename_i s u' n p q;rw[p,q]at h;obtain⟨h1,h4⟩:=h;have h1':st.idx < (l.map (ap u)).length:=by grind
   split at a
   ·rename_i l2 o;split at a
    ·rename_i x hx;simp only[af0]at a;subst a;obtain⟨_,e⟩:=qR hx;have t:(ap u (l.getD st.idx (dflt u)))[st.off]? = some (.li (n.map (ap u'))):=by
      rw[<- bX,af5,q];rfl
     have f:st.off < (ap u (l.getD st.idx (dflt u))).length:=bY t
     have w:(ap u (l.getD st.idx (dflt u))).getD st.off default=.li (n.map (ap u')):=by grind
     have b:cr sub (l.map (ap u)) .any (st::g::r)=(l.map (ap u)).set st.idx ((ap u (l.getD st.idx (dflt u))).set st.off (.li (cr s (n.map (ap u')) .any (g::r)))):=by
      grind [cr]
     rw[b];simp only[ik];rw[agQ h1'];dsimp only;rw[p,agQ f];dsimp only;refine Iz h4 o ?_;rw[ahZ,ahZ];rw[agR,e]at i;exact i
    grind
   grind
  grind
theorem E7:∀{path:List Step}{sub:List Sh}{u:U}{l:List (El u)}{k:Prop},sC sub u l path k->k
 |[],_,_,_,_,h=>h.elim
 |[st],_,_,_,_,h=>h.2
 |st::a::r,sub,u,l,k,h=>by
  simp only[sC]at h;split at h
  ·exact E7 h.2
  grind
theorem qI:∀{path:List Step}{sub:List Sh}{u:U}{l:List (El u)}{k k':Prop},(k->k')->sC sub u l path k->sC sub u l path k'
 |[],_,_,_,_,_,_,h=>h.elim
 |[st],_,_,_,_,_,hk,h=>⟨h.1,hk h.2⟩
 |st::a::r,sub,u,l,k,k',hk,h=>by
  simp only[sC]at h⊢;split at h
  ·exact⟨h.1,qI hk h.2⟩
  omega
theorem CZ:∀{a b:List Step}{k:Prop},r8 a b k->a=b/\k
 |[],[],_,h=>⟨rfl,h⟩
 |x::r,y::q,k,h=>by
  simp only[r8]at h;split at h
  ·rename_i hb;rw[afZ]at hb;obtain⟨e,hk⟩:=CZ h.2;obtain⟨c,d,a3⟩:=x;simp_all
  grind
 |[],_::_,_,h=>h.elim
 |_::_,[],_,h=>h.elim
theorem xg:∀{a b:List Step}{k k':Prop},(k->k')->r8 a b k->r8 a b k'
 |[],[],_,_,hk,h=>hk h
 |x::r,y::q,k,k',hk,h=>by
  simp only[r8]at h⊢;split at h
  ·exact⟨h.1,xg hk h.2⟩
  omega
 |[],_::_,_,_,_,h=>h.elim
 |_::_,[],_,_,_,h=>h.elim
theorem Aa:∀{path:List Step}{sub:List Sh}{u:U}{l:List (El u)}{sh:List Sh}{v:U}{b:List (El v)},okO sub (l.map (ap u)) path->inT sub u l 1 path=some [.ow sh v b]->bD sub (l.map (ap u)) path=some (.ow sh,.li (b.map (ap v)))
 |[],_,_,_,_,_,_,h,_=>h.elim
 |[st],sub,u,l,sh,v,b,h,a=>by
  obtain⟨h1,h2,h3⟩:=h;rw[af7]at h1;simp only[inT]at a;split at a
  ·simp only[af0]at a;have d:sub[st.off]? = some sub[st.off]:=af1 h3
   cases hc:(flat u (l.getD st.idx (dflt u)))[st.off]? with
   |none=>
    simp_all[List.drop_eq_nil_of_le]
   |some c=>
    have m:=bY hc
    have o:(flat u (l.getD st.idx (dflt u)))[st.off]=c:=by
     grind
    have k:(sub.drop st.off).take 1=[sub[st.off]]:=by grind [agO]
    have g:((flat u (l.getD st.idx (dflt u))).drop st.off).take 1=[c]:=by grind [agO]
    rw[k,g]at a;simp only[List.zipWith_cons_cons,List.zipWith_nil_left,List.cons.injEq,and_true]at a;simp only[bD,d,Option.map_some,pf l h1];have f:(ap u (l.getD st.idx (dflt u))).getD st.off default=c.toD:=by
     grind [bX]
    rw[f];generalize sub[st.off]=s0 at a;cases s0 with
    |fr=>cases a
    |ow s1=>
     cases c with
     |li u1 l1=>
      simp only[Tt.ow.injEq]at a;obtain⟨rfl,rfl,e⟩:=a;rw[eq_of_heq e];rfl
     |_=>cases a
  grind
 |st::i::r,sub,u,l,sh,v,b,h,a=>by
  obtain⟨⟨h1,h2,h3⟩,h4⟩:=h;rw[af7]at h1;simp only[inT]at a;split at a
  ·rename_i s u' j d n;have f:(ap u (l.getD st.idx (dflt u))).getD st.off default=.li (j.map (ap u')):=by
    rw[List.getD,<- bX,af5,n];rfl
   rw[d,pf l h1,f]at h4;simp only[bD];rw[d,pf l h1,f];exact Aa h4 a
  grind
variable{sub:List Sh}
theorem IV{cells:List Tt}{l:List (El u)}(st:Step)(q:List Step)(h:cells[off]? = some (.ow sub u l)) :
  holed (cells.map Tt.toT) (some (off,st,q))=(cells.map Tt.toT).set off (.ow sub (cr sub (l.map (ap u)) .any (st::q))):=by
 unfold holed;dsimp only;rw[af5,h];rfl
def Dq(row:List D)(off:Nat):List D->List D
 |[]=>row
 |d::r=>Dq (row.set off d) (off+1) r
def jB(sub:List Sh)(l:List (List D)):List T->List Step->(List (List D)->Prop)->Prop
 |[],_,K=>K l
 |t::ts,path,K=>ik sub l t path fun l1=>jB sub l1 ts (aX path 1) K
theorem pK:∀{path:List Step}{sub:List Sh}{l:List (List D)}{t:T}{K K':List (List D)->Prop},(∀x,K x->K' x)->ik sub l t path K->ik sub l t path K'
 |[],_,_,_,_,_,_,h=>h.elim
 |[st],sub,l,t,K,K',hk,h=>by
  grind [ik]
 |st::a::r,sub,l,t,K,K',hk,h=>by
  simp only[ik]at h⊢;split at h
  ·split at h
   ·exact pK (fun x hx=>hk _ hx) h
   omega
  omega
def I0:T->Bool
 |.d _=>true
 |.nil=>true
 |_=>false
theorem Bg{idx esz:Nat}:∀{ts:List T}{l:List (List D)}{off:Nat}{row:List D}{K:List (List D)->Prop},l[idx]? = some row->ts.all I0=true->frs sub off ts.length=true->off+ts.length<=row.length ->
  K (l.set idx (Dq row off (ts.map T.toD)))->jB sub l ts [⟨idx,esz,off⟩] K
 |[],l,off,row,K,hl,_,_,_,c=>by
  have:l.set idx row=l:=by
   apply ag7
   grind
  simp only[ag5,Dq,this]at c;exact c
 |t::ts,l,off,row,K,hl,hd,hf,a,c=>by
  simp only[agF,afZ]at hd;simp only[af4]at a hf;simp only[frs]at hf;cases hs:sub[off]? with
  |none=>grind
  |some s=>
   rw[hs]at hf;cases s with
   |ow _=>cases hf
   |fr=>
    dsimp only at hf;have b:off<row.length:=by omega
    simp only[jB,ik];rw[hl];dsimp only;rw[hs,af1 b];dsimp only;refine⟨by have h0:=hd.1;cases t<;>first|trivial|(simp[I0]at h0),?_⟩;have d:=bY hl
    show jB sub _ ts [⟨idx,esz,off+1⟩] K
    refine Bg (row:=row.set off t.toD) (agQ d) hd.2 hf (by grind) ?_;rw[ahZ];exact c
theorem D9(st a:Step)(r:List Step)(n:Nat):aX (st::a::r) n=st::aX (a::r) n:=rfl
theorem xv{s:List Sh}{st c:Step}:∀{ts:List T}{r:List Step}{l l':List (List D)}{row:List D}{K:List (List D)->Prop},l[st.idx]? = some row->sub[st.off]? = some (.ow s)->row[st.off]? = some (.li l') ->
  jB s l' ts (c::r) (fun g=>K (l.set st.idx (row.set st.off (.li g))))->jB sub l ts (st::c::r) K
 |[],r,l,l',row,K,hl,hs,hc,h=>by
  have j:row.set st.off (.li l')=row:=by
   apply ag7
   grind
  have k:l.set st.idx row=l:=by
   apply ag7
   grind
  grind [jB]
 |t::ts,r,l,l',row,K,hl,hs,hc,h=>by
  simp only[jB,ik]at h⊢;rw[hl];dsimp only;rw[hs,hc];dsimp only;refine pK (fun l1 h1=>?_) h;rw[D9];have i:=bY hl
  have d:=bY hc
  obtain⟨f,r2,e⟩:∃f r2,aX (c::r) 1=f::r2:=by
   cases r with
   |nil=>exact⟨_,_,rfl⟩
   |cons a b=>exact⟨_,_,rfl⟩
  rw[e]at h1⊢;refine xv (row:=row.set st.off (.li l1)) (l':=l1) (agQ i) hs (agQ d) ?_
  grind [ahZ]
theorem AH:∀{ts:List Tt}{cs a:List C}{off:Nat},kq cs off ts=some a->a.map C.toD=Dq (cs.map C.toD) off ((ts.map Tt.toT).map T.toD)/\(ts.map Tt.toT).all I0=true/\(ts≠[]->off+ts.length<=cs.length)/\a.length=cs.length
 |[],cs,a,off,h=>by
  simp only[kq,af0]at h;subst h;exact⟨rfl,rfl,fun h=>(h rfl).elim,rfl⟩
 |t::r,cs,a,off,h=>by
  have step:∀{c:C},(∃e,cs[off]? = some e)->kq (cs.set off c) (off+1) r=some a->t.toT.toD=c.toD->I0 t.toT=true ->
    a.map C.toD=Dq (cs.map C.toD) off (((t::r).map Tt.toT).map T.toD)/\((t::r).map Tt.toT).all I0=true/\((t::r)≠[]->off+(t::r).length<=cs.length)/\a.length=cs.length:=by
   rintro c ⟨e,b⟩ h2 h3 h4
   obtain⟨k1,k2,k3,k4⟩:=AH h2;have f:=bY b
   refine⟨?_,by grind,fun _=>?_,by grind⟩
   ·grind [Dq,agR]
   ·simp only[af4]
    grind
  cases t with
  |d c=>
   simp only[kq]at h;split at h
   ·cases h
   ·rename_i hc;exact step ⟨_,hc⟩ h rfl rfl
   grind
  |nil=>
   simp only[kq]at h;split at h
   ·rename_i u' g hc;exact step ⟨_,hc⟩ h rfl rfl
   grind
  |_=>simp[kq]at h
theorem Kv:∀{path:List Step}{sub:List Sh}{u:U}{l l':List (El u)}{ts:List Tt}{k:Prop}{K:List (List D)->Prop},ts≠[]->sC sub u l path k->uH sub u l ts path=some l'->K (l'.map (ap u))->jB sub (l.map (ap u)) (ts.map Tt.toT) path K
 |[],_,_,_,_,_,_,_,_,h,_,_=>h.elim
 |[st],sub,u,l,l',ts,k,K,b,h,a,d=>by
  obtain⟨h1,_⟩:=h;simp only[uH]at a;split at a
  ·rename_i cs hf ho;split at a
   ·rename_i x hx;simp only[af0]at a;subst a;obtain⟨k1,k2,k3,k4⟩:=AH ho;have e:=wD hx
    obtain⟨idx,esz,off⟩:=st;refine Bg (lh l h1) k2 (by grind) ?_ ?_
    all_goals grind [bX,agR]
   grind
  grind
 |st::i::r,sub,u,l,l',ts,k,K,b,h,a,d=>by
  simp only[uH]at a;simp only[sC]at h;split at a
  ·rename_i s u' j f g;rw[f,g]at h;obtain⟨h1,h4⟩:=h;split at a
   ·rename_i l2 c;split at a
    ·rename_i x hx;simp only[af0]at a;subst a;obtain⟨_,e⟩:=qR hx;have m:(ap u (l.getD st.idx (dflt u)))[st.off]? = some (.li (j.map (ap u'))):=by
      rw[<- bX,af5,g];rfl
     refine xv (lh l h1) f m (Kv b h4 c ?_);rw[agR,e]at d;exact d
    grind
   grind
  grind
theorem DK:∀{m:Mm}{n:Nm}{r a:Root},cE (cE m n r) n a=cE m n a
 |[],_,_,_=>rfl
 |(k,x)::m,n,r,a=>by
  simp only[cE];by_cases h:k=n
  ·grind [cE]
  ·rw[if_neg h,if_neg h];simp only[cE,if_neg h,DK]
theorem DJ:∀{m:Mm}{n:Nm}{r:Root},ae m n=some r->cE m n r=m
 |[],_,_,h=>by rfl
 |(k,x)::m,n,r,h=>by
  simp only[ae]at h;simp only[cE];by_cases hk:k=n
  ·grind
  ·rw[if_neg hk]at h⊢;rw[DJ h]
variable{K:S->Prop}
theorem xD:∀{ts:List T}{s:S}{p:Pl}{r:Root}{sub:List Sh}{l:List (List D)}{st:Step}{q:List Step},ae s.m p.root=some r->p.path=st::q->r.cells[p.off]? = some (.ow sub l)->ts.all I0=true->(∀t∈ts,t≠.d .any) ->
  jB sub l ts (st::q) (fun l'=>K ⟨s.t,cE s.m p.root { r with cells:=r.cells.set p.off (.ow sub l') }⟩)->dC s p ts K
 |[],s,p,r,sub,l,st,q,hr,hp,hc,_,_,h=>by
  have i:r.cells.set p.off (.ow sub l)=r.cells:=by
   apply ag7
   grind
  simp only[jB,i]at h;have:cE s.m p.root r=s.m:=DJ hr
  rw[show({ blk:=r.blk,cells:=r.cells }:Root)=r from rfl,this]at h;exact h
 |t::ts,s,p,r,sub,l,st,q,hr,hp,hc,hd,hn,h=>by
  simp only[agF,afZ]at hd;have key:dC s p (t::ts) K=sH s.m p t fun m'=>dC ⟨s.t,m'⟩ (p.add 1) ts K:=by
   cases t with
   |d c=>cases c with
    |any=>grind
    |_=>rfl
   |nil=>rfl
   |_=>grind [I0]
  rw[key];unfold sH;rw[hr];dsimp only;rw[hp,hc];dsimp only;simp only[jB]at h;refine pK (fun l1 h1=>?_) h;have k:=bY hc
  have j:(p.add 1).root=p.root/\(p.add 1).off=p.off/\(p.add 1).path=aX (st::q) 1:=by
   obtain⟨pr,o,n⟩:=p;dsimp only at hp;subst hp;exact⟨rfl,rfl,rfl⟩
  obtain⟨f,q2,e⟩:∃f r2,aX (st::q) 1=f::r2:=by
   cases q with
   |nil=>exact⟨_,_,rfl⟩
   |cons a b=>exact⟨_,_,rfl⟩
  rw[e]at h1;refine xD (s:=⟨s.t,cE s.m p.root { r with cells:=r.cells.set p.off (.ow sub l1) }⟩) (p:=p.add 1) (r:={ r with cells:=r.cells.set p.off (.ow sub l1) }) (sub:=sub) (l:=l1) (st:=f) (q:=q2) ?_ (j.2.2.trans e) ?_ hd.2 (fun t g=>hn t (by simp[g])) ?_
  all_goals grind [fC,DK,ahZ]
theorem vZ:∀{ts:List Tt}{cs a:List C}{off:Nat},kq cs off ts=some a->∀t∈ts.map Tt.toT,t≠.d .any
 |[],_,_,_,_,t,g=>by grind
 |t::r,cs,a,off,h,x,hx=>by
  cases t with
  |d c=>
   have f:c≠.any:=by rintro rfl;simp[kq]at h
   have h':∃b o,kq b o r=some a:=by
    simp only[kq]at h
    grind
   obtain⟨b,o,h'⟩:=h';rcases agC.1 hx with rfl|hx
   ·intro e;simp only[Tt.toT,T.d.injEq]at e;cases c<;>first|exact f rfl|grind [C.toD]
   ·exact vZ h' x hx
  |nil=>
   simp only[kq]at h;split at h
   ·rcases agC.1 hx with rfl|hx
    ·intro e;cases e
    ·exact vZ h x hx
   grind
  |_=>simp[kq]at h
theorem DL:∀{path:List Step}{sub:List Sh}{u:U}{l l':List (El u)}{ts:List Tt},uH sub u l ts path=some l'->(∀t∈ts.map Tt.toT,t≠.d .any)/\(ts.map Tt.toT).all I0=true
 |[],_,_,_,_,_,h=>by simp[uH]at h
 |[st],_,_,_,_,_,h=>by
  simp only[uH]at h;split at h
  ·rename_i ho;exact⟨vZ ho,(AH ho).2.1⟩
  grind
 |st::a::r,_,_,_,_,_,h=>by
  simp only[uH]at h;split at h
  ·split at h
   ·rename_i hl;exact DL hl
   grind
  grind
def tz(P:Program)(s:S)(t u:TypeId)(x y:Operand)(d:Tmp)(k:S->Prop):Prop:=
 match(ty P t).k with
 |.sl e=>(ty P e).ok=true/\(ty P u).k.isSS=true/\((zcells P e).map (·.length))=some (ty P e).size /\
  match ja s (ty P e).size (ev s y)with
  |some (s1,a,ys)=>match ja s1 (ty P e).size (ev s1 x)with
   |some (s2,sub,l)=>a=sub/\E6 a.length ys/\l.length+ys.length<=4611686018427387904/\(l.length+ys.length)*(ty P e).bytes<=140737488355328 /\
    k (((s2.fresh (.gh d)).root (.gh d) ⟨false,[.ow sub (l++ys)]⟩).put (some d) (.one (.c (.rf ⟨.gh d,0,[]⟩))))
   |none=>False
  |none=>False
 |_=>False
variable{d:Tmp}{l:List (List D)}{y:Operand}
section
variable {P:Program} {g:G} {s:S} {a:Act} {w:World} {H:FH} {γ:Gam} {F:Nm->Fp}
theorem abF{k:Nat}{sh:Sh}{x:D}{f:Fp}{y:Value}(hs:x.sure=true)(h:OD w H k sh x f y):oF y=true:=by
 cases sh with
 |fr=>grind [N5,fK]
 |ow sub=>
  cases k with
  |zero=>cases x<;>first|(simp[OD]at h;done)|grind [D.sure]
  |succ k=>
   cases x with
   |li l=>
    obtain⟨a,c,_,_,rfl,_⟩:=lZ h;rfl
   |any=>grind [D.sure]
   |_=>simp[OD]at h
theorem Tm{k:Nat}:∀{b:List Sh}{xs:List D}{f:Fp}{vs:List Value},vs.length=xs.length->(∀x∈xs,x.sure=true)->Cs (OD w H k) b xs f vs->∀u∈vs,oF u=true
 |[],[],_,vs,hl,_,_=>by
  grind
 |s::b,x::xs,f,vs,hl,hx,h=>by
  obtain⟨v,r,f1,c,rfl,_,h1,h2⟩:=h;intro u a;rcases agC.1 a with rfl|a
  ·exact abF (hx x (by simp)) h1
  ·exact Tm (by grind) (fun y hy=>hx y (by simp[hy])) h2 u a
 |[],_::_,_,_,_,_,h=>h.elim
 |_::_,[],_,_,_,_,h=>h.elim
theorem ZU{k:Nat}{ys:List (List D)}{f:Fp}{v:Value}(h:OD w H k (.ow sub) (.li ys) f v)(g:E6 sub.length ys) :
  ∃(kx:Nat)(gx:Fp)(ws:List Value),Src P w sub.length v ys.length ws/\Cs (OD w H kx) (List.replicate ys.length sub).flatten ys.flatten gx ws/\(∀u∈ws,oF u=true)/\∀b,gx b<=f b:=by
 cases k with
 |zero=>simp[OD]at h
 |succ k=>
  obtain⟨ad,c,n,vs,rfl,hlc,m,l,i,d,a⟩:=lZ h;refine⟨k,n,vs,?_,d,?_,?_⟩
  ·rcases a with⟨rfl,rfl,rfl,_⟩|⟨b,cs,ty,fz,rfl,hb,hfz,hcsz,rfl,hf⟩
   ·simp_all[oP]
   ·refine vg i (fun j u hj=>?_)
    grind [World.cell?]
  ·refine Tm (by grind [cM]) (fun x hx=>?_) d;rw[List.mem_flatten]at hx;obtain⟨y,hy,e⟩:=hx;exact(g y hy).2 x e
  grind [Cs]
theorem l9(h:RX g s a w H γ F){size:Nat}{x:AV}{v:Value}{s1:S}(hx:AR w H γ s.m x v)(hb:ja s size x=some (s1,sub,l)) :
  ∃k f F1,OD w H k (.ow sub) (.li l) f v/\RX g s1 a w H γ F1/\sub.length=size/\(∀b,tot F1 s1.m b+f b=tot F s.m b)/\(∀b,f b≠0->b<w.heap.size/\(∀o,H b o=none)/\(g.own0 b≠0\/g.w0.heap.size<=b)):=by
 match x,hb with
 |.one (.c .nil),hb=>
  simp only[ja,af0,Prod.mk.injEq]at hb;obtain⟨rfl,rfl,rfl⟩:=hb;obtain⟨_,rfl⟩:=hx;refine⟨1,fun _=>0,F,?_,h,by simp,fun b=>rfl,fun b hb=>absurd rfl hb⟩
  grind [e9]
 |.one (.c (.rf q)),hb=>
  simp only[ja]at hb;cases j:aW s.m q with
  |none=>grind
  |some t=>
   rw[j]at hb;cases t with
   |ow n l'=>
    dsimp only at hb;split at hb
    ·rename_i e;simp only[af0,Prod.mk.injEq]at hb;obtain⟨rfl,rfl,rfl⟩:=hb;obtain⟨_,i,hv⟩:=hx;obtain⟨y,f,F',r,⟨k,z⟩,u,p⟩:=GC h (fh i) j;rw[hv]at r;obtain rfl:v=y:=by grind
     exact⟨k,f,F',z,u,e,p,fun b hb=>by
      have d:tot F s.m b≠0:=by grind
      exact⟨h.mem.lt b d,h.mem.nofz b d,h.fr.tt b d⟩⟩
    grind
   |_=>grind
theorem GO(h:RX g s a w H γ F){t u tt:TypeId}{x:Operand}{k:S->Prop}(hd:okD g.nt (some d)=true)(hx:aG x=true)(hy:aG y=true)(c:tz P s t u x y d k) :
  ∃s' z w' H' γ' F',(Builtin.append_ #[t,u] tt #[a.eval x,a.eval y]).run P w=.ok z w'/\k s'/\RX g s' (a.put (some d) z) w' H' γ' F':=by
 unfold tz at c;cases hk:(ty P t).k with
 |sl e=>
  rw[hk]at c;obtain⟨R,M,A,c⟩:=c;obtain⟨_,td,hit,W,aa,_⟩:=aV hk (by simp);have:=oD aa
  subst this;obtain⟨L,de,D,_,_,j,p,_⟩:=jq R;rw[j,p]at c;rw[j]at A;obtain⟨zs,ab,A⟩:=agG.1 A;obtain⟨Q,z,Z,hz,ad,_⟩:=j6 ab;rw[D]at Z;obtain rfl:L=Q:=by grind
  have J:z.cells.size=L.size:=by grind
  obtain⟨B,huu,hudd⟩:∃B,P.underlying u=some B/\isSS B=true:=by
   have N:(ty P u).k≠.ot:=fun e=>by grind [TK.isSS]
   obtain⟨_,B,_,h2,h3,_⟩:=aV rfl N;refine⟨B,h2,?_⟩;rw[<- h3]at M;cases B<;>first|rfl|grind [fX,TK.isSS]
  cases G:ja s L.size (ev s y)with
  |none=>grind
  |some q1=>
   obtain⟨s1,r,ys⟩:=q1;rw[G]at c;dsimp only at c;obtain⟨k1,f1,F1,d1,h1,d3,d4,d5⟩:=l9 h (aJ h hy) G;cases I:ja s1 L.size (ev s1 x)with
   |none=>grind
   |some q=>
    obtain⟨s2,sub,l⟩:=q;rw[I]at c;obtain⟨K,i,E,X,c⟩:=c;subst K;obtain⟨kb,f,C,b1,b2,b3,Y,b5⟩:=l9 h1 (aJ h1 hx) I;have b4:∀b,tot C s2.m b+f b+f1 b<=1:=fun b=>by have:=Y b;have:=d4 b;have:=h.mem.le1 b;omega
    obtain⟨kx,gx,ws,r1,r2,r3,r4⟩:=ZU (P:=P) d1 i;rw[d3]at r1;obtain⟨z',w',f',c1,⟨k',c2⟩,c3,c4,c5,c6,c7,c8,c9⟩:=A9 (tt:=tt) W huu hudd D hz J (gx:=gx) (kx:=kx) b3 b1 r1 (fun y hy=>(i y hy).1)
     r2 r3 (fun b=>by grind) (fun b hb=>by grind) E X
    have hX:=oN b2 c3 c4 c5 c6 (fun b hb=>by
     grind)
    have T:=cR hX (.gh d)
    have hn:=cv hX (.gh d)
    have O:∀b,w.heap.size<=b->∀o,H b o=none:=by
     intro b hb o;cases hc:H b o with
     |none=>rfl
     |some y=>have:=(h1.mem.agree _ _ _ hc).lt;omega
    have ag:∀b,tot C (s2.fresh (.gh d)).m b<=tot C s2.m b:=by
     intro b;unfold S.fresh;split
     ·omega
     ·show tot C (aM _ _) b<=_
      rw[bk];exact fY
    have ac:tot C s2.m w.heap.size=0:=by
     rcases agY (tot C s2.m w.heap.size)with h'|h'
     ·exact h'
     ·have:=b2.mem.lt w.heap.size kQ1;omega
    have own:∀b,f' b≠0->b≠w.heap.size->b<w.heap.size/\(∀o,H b o=none)/\(g.own0 b≠0\/g.w0.heap.size<=b):=by
     grind
    obtain⟨γ',F',V,U⟩:=dL T (n:=.gh d) rfl hn (v:=z') (t:=.ow r (l++ys)) (f:=f') ⟨k',c2⟩ (fun b=>by
      grind)
     (fun b hb=>⟨c9 b hb,by
      grind⟩)
     (fun b hb=>by
      by_cases af:b=w.heap.size
      ·right;have:=b2.fr.size;omega
      grind)
    refine⟨_,z',w',H,γ',F',c1,c,RX.put V hd (gQ (sub:=r) (l:=l++ys) ?_ U)⟩;simp[ae]
 |_=>grind
end
def fzS:List Sh->List T->Option (List D)
 |[],[]=>some []
 |.fr::a,t::ts=>match fzS a ts with
  |some r=>some (t.fz::r)
  |none=>none
 |.ow _::a,.nil::ts=>match fzS a ts with
  |some r=>some (.li []::r)
  |none=>none
 |_,_=>none
section
variable {P:Program} {g:G} {s:S} {a:Act} {w:World} {H:FH} {γ:Gam} {F:Nm->Fp}
theorem DX{k:Nat}{m:Mm}:∀{a:List Sh}{ts:List T}{xs:List D}{f:Fp}{vs:List Value},(∀b,f b=0)->fzS a ts=some xs->Ts (TR w H γ m) ts f vs ->
  Cs (OD w H (k+1)) a xs f vs
 |[],[],xs,_,_,hf,hz,_=>by
  simp only[fzS,af0]at hz;subst hz;exact hf
 |.fr::a,t::ts,xs,f,vs,hf,hz,h=>by
  simp only[fzS]at hz;cases h5:fzS a ts with
  |none=>grind
  |some r0=>
   rw[h5]at hz;simp only[af0]at hz;subst hz;obtain⟨v,r,f1,c,h1,h2,h3,h4⟩:=h;refine⟨v,r,f1,c,h1,h2,?_,DX (fun b=>by grind) h5 h4⟩;rw[fK];refine⟨fun b=>by grind,?_⟩;cases t with
   |d x=>exact h3.2
   |nil=>obtain⟨_,rfl⟩:=h3;exact kX
   |_=>exact⟨0,trivial⟩
 |.ow sub::a,.nil::ts,xs,f,vs,hf,hz,h=>by
  simp only[fzS]at hz;cases h5:fzS a ts with
  |none=>grind
  |some r0=>
   rw[h5]at hz;simp only[af0]at hz;subst hz;obtain⟨v,r,f1,c,h1,h2,h3,h4⟩:=h;refine⟨v,r,f1,c,h1,h2,?_,DX (fun b=>by grind) h5 h4⟩;obtain⟨_,rfl⟩:=h3
   grind [e9]
 |[],_::_,_,_,_,_,hz,_=>by grind [fzS]
 |.fr::_,[],_,_,_,_,hz,_=>by grind [fzS]
 |.ow _::_,[],_,_,_,_,hz,_=>by grind [fzS]
 |.ow _::_,.d _::_,_,_,_,_,hz,_=>by grind [fzS]
 |.ow _::_,.ow _ _::_,_,_,_,_,hz,_=>by grind [fzS]
 |.ow _::_,.el _ _::_,_,_,_,_,hz,_=>by grind [fzS]
 |.ow _::_,.pl _::_,_,_,_,_,hz,_=>by grind [fzS]
 |.ow _::_,.rf _::_,_,_,_,_,hz,_=>by grind [fzS]
 |.ow _::_,.any::_,_,_,_,_,hz,_=>by grind [fzS]
theorem yY(h:RX g s a w H γ F)(hno:n.isOut=false)(hn:ae s.m n=none){cs:Array Value}{ty':TypeId}{len cap:Nat}(hl:l.length=len)(j:len<=cap)(e:len<=BIG)
  (hx:∀x∈l,x.length=sub.length) (f:cs.size=cap*sub.length) (p:∀k,Cs (OD w H (k+1)) (List.replicate len sub).flatten l.flatten (fun _=>0) cs.toList) :
  ∃γ' F',RX g (s.root n ⟨false,[.ow sub l]⟩) a (w.alloc (.cells cs ty')) H γ' F'/\γ' n=.gh (.slice (some ⟨w.heap.size,0,none⟩) len cap):=by
 obtain⟨r,hf,q,z⟩:=pZ h.mem cs ty' false;simp only[agA,false_and,if_false]at r hf q z;have hX:RX g s a (w.alloc (.cells cs ty')) H γ F:=jE h r hf (fun i=>dv q (fun _ _ _ h=>h) (h.t i)) (fun _=>rfl)
 have hz:tot F s.m w.heap.size=0:=by
  rcases agY (tot F s.m w.heap.size)with h'|h'
  ·exact h'
  ·have:=h.mem.lt w.heap.size kQ1;omega
 have B:∀o,H w.heap.size o=none:=by
  intro o;cases hc:H w.heap.size o with
  |none=>rfl
  |some y=>have:=(h.mem.agree _ _ _ hc).lt;omega
 have d:∀k,Cs (OD (w.alloc (.cells cs ty')) H (k+1)) (List.replicate len sub).flatten l.flatten (fun _=>0) cs.toList:=by
  intro k;refine kW _ _ _ _ (fun s x g v A c=>?_) (p k);exact cH (fun _ _ _ h=>h) (k+1) (k+1) _ _ _ _ (af2 _) (fun b hb=>absurd (Nat.le_zero.1 (A b)) hb) c
 subst hl;have c:TR (w.alloc (.cells cs ty')) H γ s.m (.ow sub l) (fun b=>0+if b=w.heap.size then 1 else 0) (.slice (some ⟨w.heap.size,0,none⟩) l.length cap):=
  ⟨2,yU (bu) rfl f j e hx (d 0)⟩
 exact dL hX hno hn c (fun b=>by
   grind [Mem.le1])
  (fun b hb=>by
   simp_all)
  (fun b hb=>by
   have u:b=w.heap.size:=by
    grind
   right;have:=h.fr.size;omega)
def jH(P:Program)(s0:S)(t:TypeId)(len:Nat)(sub:List Sh)(ps:Array (Nat×Operand))(d:Tmp)(k:S->Prop):Prop:=
 match(ty P t).k with
 |.sl e=>(ty P e).ok=true/\(zcells P e).isSome=true/\len*(ty P e).size<=16777216/\len<=16777216/\sub.length=(ty P e).size /\
  let s:=(pe s0 (ps.toList.map fun x=>ev s0 x.2)).fresh (.gh d)
  match jD (fun i=>some (i*(ty P e).size,(ty P e).size)) (List.replicate (len*(ty P e).size) .any) (kw s ps)with
  |some ts=>match fzS (List.replicate len sub).flatten ts with
   |some xs=>k ((s.root (.gh d) ⟨false,[.ow sub (chunk (ty P e).size len xs)]⟩).put (some d) (.one (.c (.rf ⟨.gh d,0,[]⟩))))
   |none=>False
  |none=>False
 |_=>False
theorem xI(h:RX g s a w H γ F){t:TypeId}{len:Nat}{sub:List Sh}{k:S->Prop}(hd:okD g.nt (some d)=true)(hp:(ps.toList.all fun x=>aG x.2)=true)(b:jH P s t len sub ps d k) :
  ∃s' y w' H' γ' F',(Instr.buildSlice t len (ps.map fun(i,x)=>(i,a.eval x))).run P w=.ok y w'/\k s'/\RX g s' (a.put (some d) y) w' H' γ' F':=by
 unfold jH at b;cases hk:(ty P t).k with
 |sl e=>
  rw[hk]at b;obtain⟨u,A,c,O,E,b⟩:=b;obtain⟨_,td,hit,C,J,_⟩:=aV hk (by simp);have:=oD J
  subst this;obtain⟨f,T,p,_⟩:=jq u;have o:(ty P e).size=f.size:=by
   omega
  obtain⟨zs,K⟩:=Option.isSome_iff_exists.1 A;obtain⟨r,z,G,hz,_⟩:=j6 K;rw[p]at G;obtain rfl:f=r:=by grind
  obtain⟨H1,F1,h1⟩:=yX (ps.toList.map fun x=>ev s x.2) s H F h;have h2:=cR h1 (.gh d)
  have hn:=cv h1 (.gh d)
  dsimp only at b;generalize(pe s (ps.toList.map fun x=>ev s x.2)).fresh (.gh d)=s2 at b h2 hn;cases hf:jD (fun i=>some (i*(ty P e).size,(ty P e).size)) (List.replicate (len*(ty P e).size) .any) (kw s2 ps)with
  |none=>grind
  |some ts=>
   rw[hf]at b;dsimp only at b;rw[o]at hf b c E;have v:PR w H1 γ s2.m (kw s2 ps) (ps.map fun(i,x)=>(i,a.eval x)).toList:=by
    rw[Array.toList_map];exact tb (m:=s2.m) h2 hp
   have j:∀us:Array Value,us.size=len*f.size->∃cs,Instr.fill (fun i=>some (i*f.size,f.size)) us (ps.map fun(i,x)=>(i,a.eval x)).toList=some cs/\cs.size=ts.length/\Ts (TR w H1 γ s2.m) ts (fun _=>0) cs.toList:=by
    intro us hus;refine yb h2.mem _ _ _ us ts v (by grind) ?_ hf;have:=Lo (w:=w) (H:=H1) (γ:=γ) (m:=s2.m) (vs:=us.toList)
    grind
   have M:ts.length=len*f.size:=by rw[nv hf];simp
   obtain⟨us,cs,u1,Q,R⟩:=jz (P:=P) (w:=w) (t:=t) (e:=e) (len:=len) (vs:=ps.map fun(i,x)=>(i,a.eval x)) (cells:=#[]) C p hz kQ1 (fun us hus=>by
    grind)
   obtain⟨I,N,c2,c3⟩:=j us u1;rw[Q]at N;obtain rfl:cs=I:=by grind
   cases q:fzS (List.replicate len sub).flatten ts with
   |none=>grind
   |some xs=>
    rw[q]at b;dsimp only at b;have D:∀k,Cs (OD w H1 (k+1)) (List.replicate len sub).flatten xs (fun _=>0) cs.toList:=fun k=>DX (fun _=>rfl) q c3
    have L:xs.length=len*f.size:=by
     have h5:=(Cf _ _ _ _ (D 0)).1
     grind [cM,ah4]
    obtain⟨γ',F',hX,B⟩:=yY h2 (n:=.gh d) rfl hn (cs:=cs) (ty':=e) (len:=len) (cap:=len) (sub:=sub) (l:=chunk f.size len xs) np (af2 _) (by
      show len<=2 ^ 62
      omega) (by grind [vz]) (by grind) (fun k=>by
       grind [rX])
    refine⟨_,_,_,H1,γ',F',R,b,RX.put hX hd (gQ (sub:=sub) (l:=chunk f.size len xs) ?_ B)⟩;simp[S.root,ae]
 |_=>grind
end
abbrev upS(k:St->Prop):S->Prop:=fun s'=>∃t:St,SEq s' t.toS/\k t
theorem NS{P:Program}(h:zcells P t=some zs):zs.all okT=true:=by
 grind [zcells]
variable{E:Ut}{u0:TypeId}
section
variable {P:Program} {s:St} {k:St->Prop}
theorem Qj(hn:ND s.m)(h:vi P s t d k):vh P s.toS t d (upS k):=by
 unfold vi at h;split at h
 ·rename_i z zs hz;split at h
  ·rename_i hd;unfold vh;rw[hz];refine⟨by simp,agD hd,_,?_,h⟩;have e:((s.fresh (nQ t d)).root (nQ t d) ⟨true,(z::zs).map tP,none⟩).toS=(s.toS.fresh (nQ t d)).root (nQ t d) ⟨true,(z::zs).map ra⟩:=by
    rw[<- bw hn,<- OU (NS hz)];rfl
   rw[<- e];exact aI ((s.fresh (nQ t d)).root (nQ t d) ⟨true,(z::zs).map tP,none⟩) (some d) (.one (.c (.pl ⟨nQ t d,0,[]⟩)))
  grind
 grind
theorem X8{x:Operand}(hn:ND s.m)(hx:aG x=true)(h:Qu s x d k):Qt s.toS x d (upS k):=by
 unfold Qu at h;split at h
 ·rename_i t ts hc;split at h
  ·rename_i hd;simp only[afZ]at hd;unfold Qt;rw[<- bw hn,af hx,rV,hc];dsimp only[Option.map_some];refine⟨by simp,?_,agD hd.2,_,?_,h⟩
   ·grind [KD]
   ·exact aI ((s.fresh (.loc d)).root (.loc d) ⟨true,t::ts,none⟩) (some d) (.one (.c (.pl ⟨.loc d,0,[]⟩)))
  grind
 grind
theorem O2{t:Tt}{x:El u}(h:BB u t=some x):t.toT.fz=(am u x).toD:=by
 unfold BB at h;split at h
 ·split at h
  ·simp only[af0]at h;subst h;rfl
  grind
 ·rename_i c _;rw[dS h];rfl
 ·split at h
  ·simp only[af0]at h;subst h;rfl
  grind
 grind
theorem IP:∀{us:List U}{ts:List Tt}{x:Fl us},la us ts=some x->ts.map (fun t=>t.toT.fz)=(fb us x).map C.toD
 |[],[],_,_=>rfl
 |u::r,c::cs,x,h=>by
  simp only[la]at h;cases h1:BB u c with
  |none=>grind
  |some y=>
   cases h2:la r cs with
   |none=>grind
   |some z=>
    rw[h1,h2]at h;simp only[af0]at h;subst h;rw[fb,tW,uO,af3,af3,O2 h1,IP h2]
 |[],_::_,_,h=>by simp[la]at h
 |_::_,[],_,h=>by simp[la]at h
theorem YP{x:El u}(h:nk u ts=some x):ts.map (fun t=>t.toT.fz)=ap u x:=by
 rw[<- bX];cases u with
 |st n=>
  simp only[nk]at h;cases h1:la (sd n).fs ts with
  |none=>grind
  |some y=>
   rw[h1]at h;have:=Option.some.inj h
   subst this;show _=(fb (sd n).fs ((sd n).un ((sd n).mkF y))).map C.toD
   rw[(sd n).l2,IP h1]
 |_=>
  cases ts with
  |nil=>cases h
  |cons t r=>cases r with
   |nil=>rw[jU rfl];simp only[af3,ag5];rw[O2 h]
   |cons _ _=>cases h
theorem nD:∀{rows:List (List Tt)}{l:List (El u)},lb u rows=some l->rows.map (fun r=>r.map fun t=>t.toT.fz)=l.map (ap u)
 |[],l,h=>by grind [lb]
 |r::rs,l,h=>by
  simp only[lb]at h;cases h1:nk u r with
  |none=>grind
  |some x=>
   cases h2:lb u rs with
   |none=>grind
   |some xs=>
    rw[h1,h2]at h;simp only[af0]at h;subst h;rw[af3,af3,YP h1,nD h2]
theorem vw{α β:Type}(f:α->β)(size:Nat):∀(n:Nat)(l:List α),chunk size n (l.map f)=(chunk size n l).map (·.map f)
 |0,_=>rfl
 |n+1,l=>by simp only[chunk,af3,ah0];rw[<- ah9,vw f size n]
theorem GM(h:(kz s ps).all (fun x=>x.2.noRf)=true):(ps.toList.map fun x=>evA s x.2).all At.noRf=true:=by
 grind [kz,List.all_map]
theorem OY{xs:List (Nat×Operand)}(h:(xs.all fun x=>aG x.2)=true):(xs.map fun x=>ev s.toS x.2)=(xs.map fun x=>evA s x.2).map At.toV:=by
 grind [agJ,af]
theorem zi{len:Nat}(b:(ps.toList.all fun x=>aG x.2)=true)
  (hn:ND (eL s (ps.toList.map fun x=>evA s x.2)).m) (h:gH P E s t len ps d k):gG P (eL s (ps.toList.map fun x=>evA s x.2)).toS t len ps d (upS k):=by
 unfold gH at h;split at h
 ·rename_i e j;split at h
  ·rename_i u z he hz;split at h
   ·rename_i hc;simp only[afZ]at hc;obtain⟨⟨⟨g,c2⟩,c3⟩,c4⟩:=hc;have f:=af8 c2
    dsimp only at h;generalize hs1:eL s (ps.toList.map fun x=>evA s x.2)=s1 at h hn;split at h
    ·rename_i ts hf hno;split at h
     ·rename_i l hl;unfold gG;rw[j];dsimp only;refine⟨g,by grind,by simp_all,agD c4,?_⟩;rw[OY b,se (GM hno),<- bw hn,wc b,<- f];have a:=ql hf
      rw[List.map_replicate]at a;have e0:Tt.any.toT=T.any:=rfl
      rw[e0]at a;rw[a];dsimp only;refine⟨_,?_,h⟩;have i:(⟨false,[.ow (List.replicate (nc u) .fr) u l],none⟩:Rt).toR=⟨false,[.ow (List.replicate (nc u) .fr) (chunk (nc u) len ((ts.map Tt.toT).map T.fz))]⟩:=by
       have n:chunk (nc u) len ((ts.map Tt.toT).map T.fz)=l.map (ap u):=by rw[ag6,vw];exact nD hl
       rw[n];rfl
      rw[<- i];exact aI ((s1.fresh (.gh d)).root (.gh d) ⟨false,[.ow (List.replicate (nc u) .fr) u l],none⟩) (some d) (.one (.c (.rf ⟨.gh d,0,[]⟩)))
     grind
    grind
   grind
  grind
 grind
theorem uM:∀{a:List Sh}{ts:List Tt},pN a ts=true->fzS a (ts.map Tt.toT)=some (ts.map fun t=>t.toT.fz)
 |[],[],_=>rfl
 |.fr::r,t::ts,h=>by
  simp only[af3,fzS];rw[uM (show pN r ts=true from h)]
 |.ow sub::r,t::ts,h=>by
  cases t with
  |nil=>
   simp only[af3,Tt.toT,fzS];rw[uM (show pN r ts=true from h)];rfl
  |_=>simp[pN]at h
 |[],_::_,h=>by simp[pN]at h
 |.fr::_,[],h=>by simp[pN]at h
 |.ow _::_,[],h=>by simp[pN]at h
theorem xJ{len:Nat}(b:(ps.toList.all fun x=>aG x.2)=true)
  (hn:ND (eL s (ps.toList.map fun x=>evA s x.2)).m) (h:fu P E sub s t len ps d k):jH P (eL s (ps.toList.map fun x=>evA s x.2)).toS t len sub ps d (upS k):=by
 unfold fu at h;split at h
 ·rename_i e n;split at h
  ·rename_i u z he hz;split at h
   ·rename_i hc;simp only[afZ]at hc;obtain⟨⟨⟨⟨i,c2⟩,c3⟩,c4⟩,c5⟩:=hc;have g:=af8 c2
    dsimp only at h;generalize hs1:eL s (ps.toList.map fun x=>evA s x.2)=s1 at h hn;split at h
    ·rename_i ts hf hno;split at h
     ·rename_i l hl f;unfold jH;rw[n];dsimp only;refine⟨i,by grind,by simp_all,agD c4,by grind [af8],?_⟩;rw[OY b,se (GM hno),<- bw hn,wc b,<- g];have a:=ql hf
      rw[List.map_replicate]at a;have e0:Tt.any.toT=T.any:=rfl
      rw[e0]at a;rw[a];dsimp only;rw[uM f];dsimp only;refine⟨_,?_,h⟩;have j:(⟨false,[.ow sub u l],none⟩:Rt).toR=⟨false,[.ow sub (chunk (nc u) len (ts.map fun t=>t.toT.fz))]⟩:=by
       have o:chunk (nc u) len (ts.map fun t=>t.toT.fz)=l.map (ap u):=by grind [vw,nD]
       rw[o];rfl
      rw[<- j];exact aI ((s1.fresh (.gh d)).root (.gh d) ⟨false,[.ow sub u l],none⟩) (some d) (.one (.c (.rf ⟨.gh d,0,[]⟩)))
     grind
    grind
   grind
  grind
 grind
theorem yT{m:List (Nm×Nat×Rt)}(h:ND m):ND (eA m n i r):=by
 grind [Dd]
theorem Sj(t:Tt):t.toT.owned=t.owned:=by cases t<;>rfl
theorem Pw{t:Tt}(h:J0 s p t k)(hn:ND s.m):∃m',(∀K:Mm->Prop,K m'->sH s.toS.m p t.toT K)/\∃s':St,s'.toS=⟨s.toS.t,m'⟩/\ND s'.m/\k s':=by
 unfold J0 at h;split at h
 ·grind
 ·rename_i r hr;split at h
  ·rename_i t0 a f hc;split at h
   ·rename_i ho;have c:r.toR.cells=r.cells.map Tt.toT:=by show holed _ r.hole=_;rw[f];rfl
    refine⟨cE s.toS.m p.root ⟨r.blk,(r.cells.map Tt.toT).set p.off t.toT⟩,fun K d=>?_,_,?_,yT hn,h⟩
    ·unfold sH;rw[show ae s.toS.m p.root=some r.toR from br hr];dsimp only;rw[a,c,af5,hc];exact⟨by grind [Sj],d⟩
    refine bV.S_ext rfl ?_;show toM (eA s.m p.root s.nx _)=_
    rw[fj]
    congr 1
    grind [Rt.toR,holed,agR]
   grind
  ·rename_i st q sub u l a f hc;split at h
   ·rename_i l' hl;have c:r.toR.cells=r.cells.map Tt.toT:=by show holed _ r.hole=_;rw[f];rfl
    refine⟨cE s.toS.m p.root ⟨r.blk,(r.cells.map Tt.toT).set p.off (.ow sub (l'.map (ap u)))⟩,fun K d=>?_,_,?_,yT hn,E7 h⟩
    ·unfold sH;rw[show ae s.toS.m p.root=some r.toR from br hr];dsimp only;rw[a,c,af5,hc];exact Ku h hl d
    refine bV.S_ext rfl ?_;show toM (eA s.m p.root s.nx _)=_
    rw[fj]
    congr 1
    grind [Rt.toR,holed,agR,Tt.toT]
   grind
  ·rename_i st q off g j sub u l a f hc;split at h
   ·rename_i sh v n hb;split at h
    ·rename_i l' hl;have e:off=p.off:=af8 hb
     subst e;obtain⟨b,hk⟩:=CZ (E7 h);have i:p.off < (r.cells.map Tt.toT).length:=by grind
     simp only[List.cons.injEq]at b;obtain⟨rfl,rfl⟩:=b;have c:r.toR.cells=(r.cells.map Tt.toT).set p.off (.ow sub (cr sub (l.map (ap u)) .any (g::j))):=by
      show holed _ r.hole=_
      grind [IV]
     refine⟨cE s.toS.m p.root ⟨r.blk,(r.cells.map Tt.toT).set p.off (.ow sub (l'.map (ap u)))⟩,fun K d=>?_,_,?_,yT hn,hk⟩
     ·unfold sH;rw[show ae s.toS.m p.root=some r.toR from br hr];dsimp only;rw[a,c,agQ i];refine Iz h hl ?_;rw[ahZ];exact d
     refine bV.S_ext rfl ?_;show toM (eA s.m p.root s.nx _)=_
     rw[fj]
     congr 1
     simp only[Rt.toR,holed,agR,Tt.toT]
    grind
   grind
  grind
theorem Wi(n:Nm)(t:Tt):t.toT.ment n=t.ment n:=by cases t<;>rfl
theorem sR(g:∀t:St,k t->K t.toS):∀{ts:List Tt}{s:St}{p:Pl},ND s.m->jP s p ts k->dC s.toS p (ts.map Tt.toT) K
 |[],s,p,hn,h=>g s h
 |t::ts,s,p,hn,h=>by
  have b:∀t:Tt,(∀q,t≠.rf q)->t≠.any->t≠.d .any->J0 s p t (fun s'=>jP s' (p.add 1) ts k)->dC s.toS p (t.toT::ts.map Tt.toT) K:=by
   intro t h1 h2 h3 h;obtain⟨m',hp,s',e,hn',hk⟩:=Pw h hn;have key:dC s.toS p (t.toT::ts.map Tt.toT) K=sH s.toS.m p t.toT fun m'=>dC ⟨s.toS.t,m'⟩ (p.add 1) (ts.map Tt.toT) K:=by
    cases t with
    |rf q=>grind
    |any=>grind
    |d c=>cases c with
     |any=>grind
     |_=>rfl
    |_=>rfl
   rw[key];refine hp _ ?_;rw[<- e];exact sR g hn' hk
  cases t with
  |rf q=>
   simp only[jP]at h;split at h
   ·rename_i sub u l hr;split at h
    ·rename_i a f i;simp only[af3,Tt.toT,dC];rw[show ae s.toS.m q.root=some (⟨false,[.ow sub u l],none⟩:Rt).toR from br hr];refine⟨a,by grind,?_,?_⟩
     ·grind [Wi]
     ·rw[<- bV hn];obtain⟨m',hp,s',e,hn',hk⟩:=Pw h (Oz hn);refine hp _ ?_;rw[<- e];exact sR g hn' hk
    grind
   grind
  |any=>exact h.elim
  |d c=>cases c with
   |any=>exact h.elim
   |_=>exact b _ (fun _ h=>by cases h) (fun h=>by cases h) (fun h=>by cases h) h
  |_=>exact b _ (fun _ h=>by cases h) (fun h=>by cases h) (fun h=>by cases h) h
theorem Nl(g:∀t:St,k t->K t.toS)(b:ts≠[])(h:qN s p ts k):dC s.toS p (ts.map Tt.toT) K:=by
 unfold qN at h;split at h
 ·grind
 ·rename_i r hr;split at h
  ·rename_i st q sub u l a c hc;split at h
   ·rename_i l' hl;have d:r.toR.cells=r.cells.map Tt.toT:=by show holed _ r.hole=_;rw[c];rfl
    obtain⟨i,f⟩:=DL hl;refine xD (br hr) a (sub:=sub) (l:=l.map (ap u)) (by rw[d,af5,hc];rfl) f i (Kv b h hl ?_);have hk:=g _ (E7 h)
    have e:(⟨s.nx+1,s.t,eA s.m p.root s.nx { r with cells:=r.cells.set p.off (.ow sub u l') }⟩:St).toS=⟨s.toS.t,cE s.toS.m p.root { r.toR with cells:=r.toR.cells.set p.off (.ow sub (l'.map (ap u))) }⟩:=by
     refine bV.S_ext rfl ?_;show toM (eA s.m p.root s.nx _)=_
     rw[fj]
     congr 1
     grind [Rt.toR,holed,agR,Tt.toT]
    grind
   grind
  grind
theorem SU(b:∀t:St,k t->K t.toS)(hn:ND s.m)(h:wy P s t x v k):wx P s.toS t x.toV v.toV K:=by
 unfold wy at h;split at h
 ·rename_i p ts hv;split at h
  ·rename_i hc;simp only[afZ]at hc;unfold wx;rw[rV,hv];refine⟨hc.1.1,by grind [af8],by rw[af7];exact pj hc.2,?_⟩;split at h
   ·rename_i a;refine Nl b (fun e=>?_) h;subst e;simp[aa5,Nat.blt]at a
   grind [sR]
  grind
 grind
theorem ZT{l:List (El u)}{size:Nat}(hs:nc u=size)(h:adL u v=some l):jO size v.toV=some (l.map (ap u))/\v.noRf=true:=by
 unfold adL at h;split at h
 ·simp only[af0]at h;subst h;exact⟨rfl,rfl⟩
 ·rename_i u' l';obtain⟨e,rfl⟩:=mh h;subst e;exact⟨rfl,rfl⟩
 ·rename_i b;split at h
  ·simp only[af0]at h;subst h;have:size=1:=hs.symm
   simp only[At.toV,A1.toV,Tt.toT,C.toD,jO];rw[if_pos this];exact⟨rfl,rfl⟩
  grind
 grind
theorem Im{m:List (Nm×Nat×Rt)}{t:Tt}(hr:cq m q.root=some r)(hp:q.path=[])(h:atT m q 1=some [t]):r.cells[q.off]? = some t:=by
 unfold atT at h;rw[hr]at h;dsimp only at h;rw[hp]at h;dsimp only at h;split at h
 ·rename_i hb;simp only[af0]at h;have:=congrArg (·[0]?) h
  grind
 grind
theorem l8{s':St}{l:List (El u)}{size:Nat}(hs:nc u=size)(hn:ND s.m)(hop:∀q,v=.one (.c (.rf q))->okP (toM s.m) q)(h:oT s u v=some (s',sub,l)) :
  ja s.toS size v.toV=some (s'.toS,sub,l.map (ap u))/\ND s'.m/\Ext s s':=by
 unfold oT at h;split at h
 ·simp only[af0,Prod.mk.injEq]at h;obtain⟨rfl,rfl,rfl⟩:=h;exact⟨by rw[<- hs];rfl,hn,Ext.refl _⟩
 ·rename_i q;split at h
  ·rename_i d u' l' x;split at h
   ·rename_i l2 s2 k w a;simp only[af0,Prod.mk.injEq]at h;obtain⟨rfl,rfl,rfl⟩:=h;obtain⟨e,rfl⟩:=mh k;subst e;unfold Xh at a;split at a
    ·grind
    ·rename_i r hr;split at a
     ·rename_i b n;simp only[af0]at a;have i:atT s.m q 1=some [.ow d u' l']:=by
       grind [sliceAt]
      have hc:=Im hr b i
      have f:ae s.toS.m q.root=some r.toR:=br hr
      have g:r.toR.cells=r.cells.map Tt.toT:=by show holed _ r.hole=_;rw[n];rfl
      have j:aW s.toS.m q=some (.ow d (l'.map (ap u'))):=by
       unfold aW;rw[f,b];dsimp only;rw[g,af5,hc];rfl
      refine⟨?_,?_,?_⟩
      ·simp only[At.toV,A1.toV,Tt.toT,ja];rw[j];dsimp only;rw[if_pos (by grind [af8])]
       congr 2
       rw[<- a];refine bV.S_ext (qu _ _ _).symm ?_;show _=toM (cN (thr q) s.nx (eA s.m q.root s.nx _))
       rw[fg,fj]
       congr 1
       unfold bh;rw[f,b];dsimp only;show cE (toM s.m) q.root _=_
       grind [Rt.toR,holed,agR,Tt.toT]
      ·grind [D1,yT]
      ·rw[<- a];exact⟨agU _,ix (af2 _),(dw _ _ (af2 _) s.m).trans (eJ (af2 _))⟩
     ·rename_i st A b n;simp only[af0]at a;have i:atT s.m q 1=some [.ow d u' l']:=by
       grind [sliceAt]
      have f:ae s.toS.m q.root=some r.toR:=br hr
      have g:r.toR.cells=r.cells.map Tt.toT:=by show holed _ r.hole=_;rw[n];rfl
      have hq:=hop q rfl
      unfold okP at hq;rw[b]at hq;obtain⟨r2,t,l2,g1,g2,g3⟩:=hq;have o:r2=r.toR:=Option.some.inj (g1.symm.trans f)
      subst o;unfold atT at i;rw[hr]at i;dsimp only at i;rw[b]at i;dsimp only at i;split at i
      ·rename_i p u0 z _ hc;rw[g,af5,hc]at g2;simp only[Option.map_some,af0,Tt.toT,T.ow.injEq]at g2;obtain⟨rfl,rfl⟩:=g2;have y:=Aa g3 i
       have j:aW s.toS.m q=some (.ow d (l'.map (ap u'))):=by
        grind [aW,Tt.toT]
       refine⟨?_,?_,?_⟩
       ·simp only[At.toV,A1.toV,Tt.toT,ja];rw[j];dsimp only;rw[if_pos (by grind [af8])]
        congr 2
        rw[<- a];refine bV.S_ext (qu _ _ _).symm ?_;show _=toM (cN (thr q) s.nx (eA s.m q.root s.nx _))
        rw[fg,fj]
        congr 1
        unfold bh;rw[f];dsimp only;rw[b];dsimp only;rw[g,af5,hc];show cE (toM s.m) q.root _=_
        grind [Rt.toR,Tt.toT,T.toD,IV]
       ·grind [D1,yT]
       ·rw[<- a];exact⟨agU _,ix (af2 _),(dw _ _ (af2 _) s.m).trans (eJ (af2 _))⟩
      grind
     grind
   grind
  grind
 grind
theorem ZM:∀n:Sn,(sd n).fs.all leaf=true:=by intro n;cases n<;>rfl
theorem QW(h:leaf u=true)(x:El u):(am u x).toD.sure=true:=by
 cases u with
 |st n=>cases h
 |_=>rfl
theorem zC:∀{us:List U}(_:us.all leaf=true)(x:Fl us),∀d∈(fb us x).map C.toD,d.sure=true
 |[],_,_,d,hd=>by grind [fb]
 |u::r,h,x,d,hd=>by
  simp only[agF,afZ]at h;simp only[fb,af3,agC]at hd;rcases hd with rfl|hd
  ·exact QW h.1 _
  ·exact zC h.2 _ d hd
theorem Ir(x:El u):∀d∈ap u x,d.sure=true:=by
 rw[<- bX];cases u with
 |st n=>exact zC (ZM n) _
 |_=>intro d hd;rw[jU rfl]at hd;simp only[af3,ag5,agI]at hd;subst hd;rfl
theorem Lw{x:Operand}(hx:aG x=true)(hy:aG y=true)(hn:ND (gL s (evA s y)).m)(hop:∀q,evA (gL s (evA s y)) x=.one (.c (.rf q))->okP (toM (gL s (evA s y)).m) q)(h:qc P E s t u0 x y d k):qb P (gL s (evA s y)).toS t u0 x y d (upS k):=by
 unfold qc at h;dsimp only at h;generalize hs1:gL s (evA s y)=s1 at h hn hop;split at h
 ·rename_i e n;split at h
  ·rename_i u z he hz;split at h
   ·rename_i hc;simp only[afZ]at hc;obtain⟨⟨⟨i,c2⟩,c3⟩,c4⟩:=hc;have g:=af8 c4
    split at h
    ·rename_i ys s2 sub l f a;split at h
     ·rename_i b;obtain⟨⟨h1,h2⟩,h3⟩:=h;obtain⟨k1,k2⟩:=ZT g f;obtain⟨b1,b2,_⟩:=l8 g hn hop a;unfold qb;dsimp only;rw[af hy,vI k2,n];dsimp only;refine⟨i,c2,by grind [af8],?_⟩;rw[af hy,af hx,k1,b1];dsimp only;refine⟨b,?_,by grind,by grind,_,?_,h3⟩
      ·intro r hr
       grind [lg,Ir]
      ·rw[<- bw b2];have j:(⟨false,[.ow sub u (l++ys)],none⟩:Rt).toR=⟨false,[.ow sub (l.map (ap u)++ys.map (ap u))]⟩:=by
        rw[<- ahQ];rfl
       rw[<- j];exact aI ((s2.fresh (.gh d)).root (.gh d) ⟨false,[.ow sub u (l++ys)],none⟩) (some d) (.one (.c (.rf ⟨.gh d,0,[]⟩)))
     grind
    grind
   grind
  grind
 grind
theorem GP{x:Operand}(hx:aG x=true)(hy:aG y=true)(hn:ND s.m)(b:∀q,evA s y=.one (.c (.rf q))->okP (toM s.m) q)
  (g:∀(size:Nat)(s1:St)(sub:List Sh)(l:List (List D))q,ND s1.m->ja s.toS size (evA s y).toV=some (s1.toS,sub,l)->evA s1 x=.one (.c (.rf q))->okP (toM s1.m) q) (h:l6 P E s t u0 x y d k):tz P s.toS t u0 x y d (upS k):=by
 unfold l6 at h;split at h
 ·rename_i e B;split at h
  ·rename_i u z he hz;split at h
   ·rename_i hc;simp only[afZ]at hc;obtain⟨⟨⟨w,c2⟩,c3⟩,c4⟩:=hc;have j:=af8 c4
    split at h
    ·rename_i s1 f ys a;split at h
     ·rename_i s2 sub l n;split at h
      ·rename_i i;obtain⟨⟨h1,h2⟩,h3⟩:=h;obtain⟨p,o,_⟩:=l8 j hn b a;obtain⟨b1,b2,_⟩:=l8 j o (fun q hq=>g _ s1 _ _ q o p hq) n;unfold tz;rw[B];dsimp only;refine⟨w,c2,by grind [af8],?_⟩;rw[af hy,p];dsimp only;rw[af hx,b1];dsimp only;have v:f.length=nc u:=by
        unfold oT at a;split at a
        all_goals grind [af8]
       refine⟨jZ i,?_,by grind,by grind,_,?_,h3⟩
       ·intro r hr
        grind [lg,Ir]
       ·rw[<- bw b2];have A:(⟨false,[.ow sub u (l++ys)],none⟩:Rt).toR=⟨false,[.ow sub (l.map (ap u)++ys.map (ap u))]⟩:=by
         rw[<- ahQ];rfl
        rw[<- A];exact aI ((s2.fresh (.gh d)).root (.gh d) ⟨false,[.ow sub u (l++ys)],none⟩) (some d) (.one (.c (.rf ⟨.gh d,0,[]⟩)))
      grind
     grind
    grind
   grind
  grind
 grind
end
end Go.Am
end
