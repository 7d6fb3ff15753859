/-
  Part 14: AmIter · AmE3 · AmE3b · AmE3c · AmE3d · AmE20 · AmAppTwo · AmBuildTwo · AmE3e.
-/
import Derived.Test.YteooihiebpbaiaaGreatDoorVk13
import Derived.Shelf.SlIter.Nil
import Derived.Shelf.SortM.Plain
import Derived.Shelf.SortM.SortNone
import Derived.Shelf.SlMaps.Clone
set_option linter.unusedSimpArgs false
set_option linter.unusedVariables false
set_option linter.unusedSectionVars false
set_option linter.unnecessarySimpa false
open Go.Proofs.Tryz
section
namespace Go.Proofs
open Go.RowKit Go.Maps Go.Sort Go.Shelf
def Tryz.keys210_ren:Go.Shelf.Ren:=⟨fun|7=>234|10=>248|n=>n,fun|23=>253|26=>9|3=>4|28=>284|0=>0|27=>283|33=>92|4=>4|n=>n,fun|n=>n⟩
theorem Tryz.keys210:Go.Proofs.SlLaysZ.n7 prog Tryz.keys210_ren:={
 mixed:=by kernel_rfl
 f7:=⟨f234.name,by decide,func234.trans (congrArg some Z0)⟩
 f10:=⟨f248.name,by decide,func248.trans (congrArg some Z0)⟩
 t0:=underlying0
 a0:=isAgg0
 z0:=sizeOf0
 v0:=zeroValue0
 t4:=underlying4
 a4:=isAgg4
 z4:=sizeOf4
 v4:=zeroValue4
 t23:=underlying253
 a23:=isAgg253
 z23:=sizeOf253
 v23:=zeroValue253
 t26:=underlying9
 a26:=isAgg9
 z26:=sizeOf9
 v26:=zeroValue9
 t27:=underlying283
 a27:=isAgg283
 z27:=sizeOf283
 v27:=zeroValue283
 t28:=underlying284
 a28:=isAgg284
 z28:=sizeOf284
 v28:=zeroValue284
 t33:=underlying92
 a33:=isAgg92
 z33:=sizeOf92
 v33:=zeroValue92 }
def Tryz.sorted209_ren:Go.Shelf.Ren:=⟨fun|6=>233|8=>246|9=>247|11=>251|13=>253|12=>252|23=>265|24=>266|14=>256|15=>257|16=>258|17=>259|18=>260|19=>261|20=>262|21=>263|22=>264|25=>268|26=>269|27=>270|28=>271|29=>272|30=>273|31=>275|n=>n,fun|26=>9|28=>284|24=>57|0=>0|3=>3|37=>273|48=>289|50=>127|4=>4|40=>305|39=>304|45=>120|5=>5|9=>9|51=>312|55=>316|57=>318|58=>319|33=>92|n=>n,fun|n=>n⟩
theorem Tryz.sorted209:Go.Proofs.SlLaysZ.n6 prog Tryz.sorted209_ren:={
 mixed:=by kernel_rfl
 f6:=⟨f233.name,by decide,func233.trans (congrArg some Z0)⟩
 f8:=⟨f246.name,by decide,func246.trans (congrArg some Z0)⟩
 f11:=⟨f251.name,by decide,func251.trans (congrArg some Z0)⟩
 t0:=underlying0
 a0:=isAgg0
 z0:=sizeOf0
 v0:=zeroValue0
 t24:=underlying57
 a24:=isAgg57
 z24:=sizeOf57
 v24:=zeroValue57
 t26:=underlying9
 a26:=isAgg9
 z26:=sizeOf9
 v26:=zeroValue9
 t28:=underlying284
 a28:=isAgg284
 z28:=sizeOf284
 v28:=zeroValue284
 i26:=by kernel_rfl }
def Tryz.sort236_ren:Go.Shelf.Ren:=⟨fun|6=>247|8=>253|9=>252|19=>265|20=>266|21=>256|22=>257|23=>258|24=>259|25=>260|26=>261|27=>262|28=>263|29=>264|36=>268|31=>269|32=>270|37=>271|38=>272|39=>273|41=>275|n=>n,fun|27=>57|29=>9|3=>3|32=>273|26=>57|0=>0|44=>289|46=>127|4=>4|36=>305|35=>304|41=>120|5=>5|9=>9|53=>312|57=>316|63=>318|64=>319|n=>n,fun|n=>n⟩
theorem Tryz.sort236:Go.Proofs.SlLaysM.n6 prog Tryz.sort236_ren:={
 mixed:=by kernel_rfl
 f6:=⟨f247.name,by decide,func247.trans (congrArg some Z0)⟩
 f8:=func253.trans (congrArg some Z0)
 f9:=⟨f252.name,by decide,func252.trans (congrArg some Z0)⟩
 f19:=func265.trans (congrArg some Z0)
 f20:=func266.trans (congrArg some Z0)
 f21:=⟨f256.name,by decide,func256.trans (congrArg some Z0)⟩
 f22:=⟨f257.name,by decide,func257.trans (congrArg some Z0)⟩
 f23:=⟨f258.name,by decide,func258.trans (congrArg some Z0)⟩
 f24:=⟨f259.name,by decide,func259.trans (congrArg some Z0)⟩
 f25:=⟨f260.name,by decide,func260.trans (congrArg some Z0)⟩
 f26:=⟨f261.name,by decide,func261.trans (congrArg some Z0)⟩
 f27:=⟨f262.name,by decide,func262.trans (congrArg some Z0)⟩
 f28:=⟨f263.name,by decide,func263.trans (congrArg some Z0)⟩
 f29:=⟨f264.name,by decide,func264.trans (congrArg some Z0)⟩
 f31:=func269.trans (congrArg some Z0)
 f32:=func270.trans (congrArg some Z0)
 f36:=⟨f268.name,by decide,func268.trans (congrArg some Z0)⟩
 f37:=⟨f271.name,by decide,func271.trans (congrArg some Z0)⟩
 f38:=⟨f272.name,by decide,func272.trans (congrArg some Z0)⟩
 f39:=⟨f273.name,by decide,func273.trans (congrArg some Z0)⟩
 f41:=⟨f275.name,by decide,func275.trans (congrArg some Z0)⟩
 t0:=underlying0
 a0:=isAgg0
 z0:=sizeOf0
 v0:=zeroValue0
 t3:=underlying3
 a3:=isAgg3
 z3:=sizeOf3
 v3:=zeroValue3
 t4:=underlying4
 a4:=isAgg4
 z4:=sizeOf4
 v4:=zeroValue4
 t5:=underlying5
 a5:=isAgg5
 z5:=sizeOf5
 v5:=zeroValue5
 t9:=underlying9
 a9:=isAgg9
 z9:=sizeOf9
 v9:=zeroValue9
 t26:=underlying57
 a26:=isAgg57
 z26:=sizeOf57
 v26:=zeroValue57
 t27:=underlying57
 a27:=isAgg57
 z27:=sizeOf57
 v27:=zeroValue57
 t29:=underlying9
 a29:=isAgg9
 z29:=sizeOf9
 v29:=zeroValue9
 t32:=underlying273
 a32:=isAgg273
 z32:=sizeOf273
 v32:=zeroValue273
 t35:=underlying304
 a35:=isAgg304
 z35:=sizeOf304
 v35:=zeroValue304
 t36:=underlying305
 a36:=isAgg305
 z36:=sizeOf305
 v36:=zeroValue305
 t41:=underlying120
 a41:=isAgg120
 z41:=sizeOf120
 v41:=zeroValue120
 t44:=underlying289
 a44:=isAgg289
 z44:=sizeOf289
 v44:=zeroValue289
 t46:=underlying127
 a46:=isAgg127
 z46:=sizeOf127
 v46:=zeroValue127
 t53:=underlying312
 a53:=isAgg312
 z53:=sizeOf312
 v53:=zeroValue312
 t57:=underlying316
 a57:=isAgg316
 z57:=sizeOf316
 v57:=zeroValue316
 t63:=underlying318
 a63:=isAgg318
 z63:=sizeOf318
 v63:=zeroValue318
 t64:=underlying319
 a64:=isAgg319
 z64:=sizeOf319
 v64:=zeroValue319 }
def Tryz.clone106_ren:Go.Shelf.Ren:=⟨fun|5=>166|7=>204|n=>n,fun|23=>167|25=>9|3=>4|4=>4|20=>20|n=>n,fun|n=>n⟩
theorem Tryz.clone106:Go.Proofs.SlLaysW.n5 prog Tryz.clone106_ren:={
 mixed:=by kernel_rfl
 f5:=⟨f166.name,by decide,func166.trans (congrArg some Z0)⟩
 f7:=func204.trans (congrArg some Z0)
 t4:=underlying4
 a4:=isAgg4
 z4:=sizeOf4
 v4:=zeroValue4
 t20:=underlying20
 a20:=isAgg20
 z20:=sizeOf20
 v20:=zeroValue20
 t23:=underlying167
 a23:=isAgg167
 z23:=sizeOf167
 v23:=zeroValue167 }
theorem Tryz.sorts209(m:Nat):AnyZ.SortsIn prog Tryz.sorted209_ren Fence.wide m:=
 ⟨fun blk off cap ss W hH hblk hsz=>callsIn_wide.2 (AnyM.slices_Sort_string Tryz.sort236 blk off cap ss W hH hblk hsz),
  fun p cap W=>callsIn_wide.2 (AnyM.slices_Sort_string_none Tryz.sort236 p cap W)⟩
theorem Tryz.maps_Keys_210(mb:Option Nat)(W:World):CallsIn Fence.wide 5 prog 234 #[.map mb] W fun e w'=>e=.returned (.func (.func 248) #[] #[.pointer (some ⟨W.heap.size,0,none⟩)])/\w'=W.alloc (.cells #[.map mb] 253):=
 AnyZ.keys_in Tryz.keys210 Fence.wide 5 trivial rfl mb W
set_option maxHeartbeats 1000000 in
theorem Tryz.slices_Sorted_keys_209_210{H:Type}(b nn:Nat)(D0:DataW H)(R:Value->Option (DataW H×List MemPlace))(w:World)(hown:w.ownsMap prog 9 R b nn D0)(hmax:Maps.size D0<=maxLen)(hbytes:Maps.size D0*16<=140737488355328) :
  CallsIn Fence.wide 5 prog 233 #[.func (.func 248) #[] #[.pointer (some ⟨w.heap.size,0,none⟩)]] (w.alloc (.cells #[.map (some b)] 253)) fun e w'=>∃(v:Value)(ss:List (List UInt8)),e=.returned v/\ss.Perm (strKeys D0) /\
   w'.ownsRow (w.alloc (.cells #[.map (some b)] 253)).heap.size 9 1 v ss.length ((ss.mergeSort (fun x y=>decide (x<=y))).map encStr)/\(v=.slice none 0 0 ↔ ss=[])/\Below (w.alloc (.cells #[.map (some b)] 253)).heap.size (w.alloc (.cells #[.map (some b)] 253)) w':=by
 have hbl:=hown.lt
 have hseq:SeqGives Fence.wide 2 prog 248 #[.pointer (some ⟨w.heap.size,0,none⟩)] encStr (fun ss=>ss.Perm (strKeys D0)) (Maps.size D0) (w.alloc (.cells #[.map (some b)] 253)):=
  AnyZ.keys_gives (ρ:=Tryz.keys210_ren) { Tryz.keys210 with } Fence.wide _ trivial rfl Z1 w.heap.size b nn D0 _ (by simp) (by simp) (by
   obtain⟨es,clock,hb,Ft,hs,hD⟩:=hown;exact⟨es,clock,(Below.heap_alloc _ _ b hbl).trans hb,Ft,hs,hD⟩)
 exact AnyZ.sorted_in Tryz.sorted209 Fence.wide 5 trivial trivial trivial trivial rfl Z1 (Tryz.sorts209 _) (enters_of func247 Z0 rfl) 248 #[.pointer (some ⟨w.heap.size,0,none⟩)] trivial (enters_of func248 Z0 rfl) _ _ hmax hbytes _ hseq
end Go.Proofs
end

section
namespace Go.Am
theorem Jx(c:C):(sct c).toV=sc c.toD:=rfl
theorem uy{n:Int}(h:0<=n/\n < 256):(((UInt8.ofNat n.toNat).toNat:Nat):Int)=n:=by
 have:n.toNat < 256:=by omega
 simp only[UInt8.toNat_ofNat',Nat.reducePow];omega
theorem QJ(x:UInt8):0<=((x.toNat:Nat):Int)/\((x.toNat:Nat):Int) < 256:=by
 have:=x.toNat_lt
 omega
theorem zI{k:IntKind}{n:Int}(h:k=.u8->0<=n/\n < 256):(mkC k n).toD=.int k n:=by
 cases k with
 |u8=>show D.int .u8 _=_;rw[uy (h rfl)]
 |_=>rfl
theorem VX(n:Int):0<=IntKind.u8.wrap n/\IntKind.u8.wrap n < 256:=by
 have:=wf_wrap (k:=.u8) n
 simp only[Lit.wf,WI,decide_eq_true_eq]at this;have h1:IntKind.u8.min=0:=by decide
 have h2:IntKind.u8.max=255:=by decide
 rw[h1,h2]at this;omega
theorem dp{k:IntKind}{n:Int}:(mkC k (k.wrap n)).toD=.int k (k.wrap n):=zI fun h=>by subst h;exact VX n
theorem fU{c:C}{k:IntKind}{n:Int}(h:iT c=some (k,n)):c.toD=.int k n/\(k=.u8->0<=n/\n < 256):=by
 unfold iT at h;split at h
 ·rename_i k' n';cases k'<;>simp only[WG,Prod.mk.injEq,reduceCtorEq]at h<;>(obtain⟨rfl,rfl⟩:=h;exact⟨rfl,fun h=>by cases h⟩)
 ·rename_i x;simp only[WG,Prod.mk.injEq]at h;obtain⟨rfl,rfl⟩:=h;exact⟨rfl,fun _=>QJ x⟩
 ·cases h
theorem Ow{k:Nat}{row:List D}(h:og k=some row):row=gw.map D.str:=by
 unfold og at h;split at h
 ·first|(cases h;done)|(simp only[WG]at h;exact h.symm)
 ·cases h
theorem ru{v:Value}(h:okT v=true):(my v).toT=nW v:=by
 cases v with
 |int k n=>
  simp only[my,nW];cases k with
  |u8=>
   simp only[okT,Lit.wf,WI,decide_eq_true_eq]at h;have h1:IntKind.u8.min=0:=by decide
   have h2:IntKind.u8.max=255:=by decide
   rw[h1,h2]at h;have h':0<=n/\n < 256:=by omega
   simp only[h',and_self,if_true,Tt.toT,C.toD,uy h']
  |_=>rfl
 |slice a l c=>cases a with
  |none=>match l,c with
   |0,0=>rfl
   |0,_+1=>rfl
   |_+1,_=>rfl
  |some _=>rfl
 |pointer p=>cases p<;>rfl
 |map p=>cases p<;>rfl
 |_=>rfl
theorem af{s:St}{x:Operand}(h:ax x=true):ev s.toS x=(evA s x).toV:=by
 cases x with
 |tmp t=>exact cj t s.t
 |const v=>
  simp only[ax]at h;cases v with
  |agg cs=>
   simp only[ev,evA,cst,Us,At.toV,A1.toV]
   congr 2
   rw[WZ];refine W1 fun x hx=>?_
   simp only[okC]at h;exact(ru (Array.all_eq_true_iff_forall_mem.1 h x (by simpa using hx))).symm
  |_=>
   simp only[ev,evA,cst,Us,At.toV,A1.toV];rw[ru (by simpa[okC]using h)]
 |func f=>rfl
 |global g=>
  simp only[ax]at h;simp only[ev,evA,Tw];cases hg:og g with
  |none=>rw[hg]at h;cases h
  |some row=>
   simp only[At.toV,A1.toV,Tt.toT,Ow hg];rfl
section
variable {k:At->Prop}
abbrev up(k:At->Prop):AV->Prop:=fun v=>∃v',v=v'.toV/\k v'
theorem GK{c:C}{d:D}(h:k (sct c))(e:c.toD=d):up k (sc d):=⟨sct c,by rw[Jx,e],h⟩
theorem Pm{c x y:At}(h:sM c x y k):Di c.toV x.toV y.toV (up k):=by
 unfold sM at h;split at h
 ·rename_i b;cases b
  ·rw[if_neg (by simp)]at h;exact⟨y,rfl,h⟩
  ·rw[if_pos rfl]at h;exact⟨x,rfl,h⟩
 ·exact h.elim
theorem VS{a b:Int}(ha:0<=a/\a < 256):0<=a.tmod b/\a.tmod b < 256:=by
 refine⟨Int.tmod_nonneg _ ha.1,?_⟩;rcases Int.lt_or_le b 0 with h|h
 ·rw[<- Int.tmod_neg];rcases Int.lt_or_le a (-b)with h'|h'
  ·rw[Int.tmod_eq_of_lt ha.1 h'];exact ha.2
  ·have:=Int.tmod_lt_of_pos a (show 0 < -b by omega);omega
 ·rcases Int.lt_or_le a b with h'|h'
  ·rw[Int.tmod_eq_of_lt ha.1 h'];exact ha.2
  ·rcases Int.lt_or_eq_of_le h with h''|h''
   ·have:=Int.tmod_lt_of_pos a h'';omega
   ·subst h'';rw[Int.tmod_zero];exact ha.2
theorem VE{a:Int}{m:Nat}(ha:0<=a/\a < 256):0<=a.fdiv (2 ^ m)/\a.fdiv (2 ^ m) < 256:=by
 have hp:(0:Int) < 2 ^ m:=Int.pow_pos (by decide)
 rw[Int.fdiv_eq_ediv_of_nonneg _ Z1];refine⟨Int.ediv_nonneg ha.1 Z1,?_⟩;have:=Int.ediv_le_self (2 ^ m) ha.1
 omega
theorem QC{op:BinOp}{x y:C}{K:C->Prop}(h:wB op x y K):q9 op x.toD y.toD (fun d=>∃c:C,c.toD=d/\K c):=by
 unfold wB at h;split at h
 ·rename_i a b;cases op<;>first|exact h.elim|exact⟨_,rfl,h⟩|exact⟨h.1,_,rfl,h.2⟩
 ·split at h
  ·rename_i k a k' b hx hy;obtain⟨ex,rx⟩:=fU hx;obtain⟨ey,ry⟩:=fU hy;rw[ex,ey];split at h
   ·rename_i hk;unfold FW at h;cases op<;>simp only[UC,WP,false_or,true_or]at hk<;>simp only[q9]
    case add=>exact⟨hk,_,dp,h⟩
    case sub=>exact⟨hk,_,dp,h⟩
    case mul=>exact⟨hk,_,dp,h⟩
    case quo=>exact⟨hk,h.1,_,dp,h.2⟩
    case rem=>exact⟨hk,h.1,_,zI fun e=>VS (rx e),h.2⟩
    case and=>exact⟨hk,_,dp,h⟩
    case or=>exact⟨hk,_,dp,h⟩
    case xor=>exact⟨hk,_,dp,h⟩
    case andNot=>exact⟨hk,_,dp,h⟩
    case shl=>exact⟨h.1,_,dp,h.2⟩
    case shr=>exact⟨h.1,_,zI fun e=>VE (rx e),h.2⟩
    case eql=>exact⟨hk,_,rfl,h⟩
    case neq=>exact⟨hk,_,rfl,h⟩
    case lss=>exact⟨hk,_,rfl,h⟩
    case leq=>exact⟨hk,_,rfl,h⟩
    case gtr=>exact⟨hk,_,rfl,h⟩
    case geq=>exact⟨hk,_,rfl,h⟩
   ·exact h.elim
  ·exact h.elim
theorem EL{op:BinOp}{x y:D}{K K':D->Prop}(hk:∀d,K d->K' d)(h:q9 op x y K):q9 op x y K':=by
 cases x<;>cases y<;>try exact h.elim
 ·cases op<;>simp only[q9]at h⊢<;>first|exact⟨h.1,h.2.1,hk _ h.2.2⟩|exact⟨h.1,hk _ h.2⟩
 ·cases op<;>simp only[q9]at h⊢<;>first|exact⟨h.1,hk _ h.2⟩|exact hk _ h|exact h.elim
theorem Uv{ck:CK}{x y:C}{b:Bool}(h:eqC ck x y=some b):eqD ck x.toD y.toD=some b:=by
 unfold eqC at h;cases ck with
 |i=>
  dsimp only at h;split at h
  ·rename_i k a k' b' hx hy;rw[(fU hx).1,(fU hy).1];exact h
  ·cases h
 |s=>
  dsimp only at h;split at h
  ·exact h
  ·cases h
 |b=>
  dsimp only at h;split at h
  ·exact h
  ·cases h
theorem zh:∀{l:List (Nat×CK)}{xs ys:List C}{b:Bool},K0 l xs ys=some b->gJ l (xs.map C.toD) (ys.map C.toD)=some b
 |[],_,_,_,h=>h
 |(o,ck)::l,xs,ys,b,h=>by
  unfold K0 at h;unfold gJ;rw[WK,WK];cases hx:xs[o]? with
  |none=>rw[hx]at h;cases h
  |some x=>
   cases hy:ys[o]? with
   |none=>rw[hx,hy]at h;cases h
   |some y=>
    rw[hx,hy]at h;dsimp only[Option.map_some]at h⊢;cases he:eqC ck x y with
    |none=>rw[he]at h;cases h
    |some c=>
     rw[he]at h;rw[Uv he];cases l with
     |nil=>exact h
     |cons z l=>
      dsimp only at h⊢;cases hr:K0 (z::l) xs ys with
      |none=>rw[hr]at h;cases h
      |some r=>rw[hr]at h;rw[zh hr];exact h
theorem Nn(t:Tt)(h:TD t.toT≠.any\/True):(TC t).toD=TD t.toT:=by
 cases t<;>rfl
theorem T6{op:BinOp}{x y:C}{K:C->Prop}(h:wB op x y K):(∃b,y=.s b)\/∃k n,iT y=some (k,n):=by
 unfold wB at h;split at h
 ·exact .inl ⟨_,rfl⟩
 ·split at h
  ·rename_i h2;exact .inr ⟨_,_,h2⟩
  ·exact h.elim
theorem QF{P:Program}{op:BinOp}{t:TypeId}{x y:At}(h:By P op t x y k):EM P op t x.toV y.toV (up k):=by
 unfold By at h;split at h
 ·rename_i a b;split at h
  ·rename_i ht;refine⟨ht,?_⟩;cases op<;>first|exact h.elim|exact⟨_,rfl,h⟩
  ·exact h.elim
 ·rename_i q;split at h
  ·rename_i kt et z ht hz;have e:UH q.toD=some z:=by
    unfold UG at hz;split at hz
    ·rename_i ku vu z';rw[<- hz];cases z'<;>rfl
    ·rw[<- hz];rfl
    ·cases hz
   have key:UI P op t q.toD (up k):=⟨⟨_,_,ht⟩,by
    rw[e];cases op<;>first|exact h.elim|exact⟨_,rfl,h⟩⟩
   cases q<;>exact key
  ·exact h.elim
 ·rename_i a b hne hne2;have h':=QC h
  have key:q9 op a.toD b.toD (fun d=>up k (sc d)):=by
   refine EL ?_ h';rintro d ⟨c,rfl,hc⟩
   exact⟨sct c,rfl,hc⟩
  rcases T6 h with⟨b',rfl⟩|⟨κ,n,hb⟩
  ·cases a with
   |mp ku vu l=>exact h.elim
   |_=>exact key
  ·cases b with
   |i k n=>cases a with
    |mp ku vu l=>exact h.elim
    |_=>exact key
   |b x=>cases a with
    |mp ku vu l=>exact h.elim
    |_=>exact key
   |_=>cases hb
 ·rename_i xs ys;split at h
  ·rename_i l hl;have e1:(xs.map Tt.toT).map TD=(xs.map TC).map C.toD:=by
    rw[WZ,WZ];exact W1 fun t _=>(Nn t (.inr trivial)).symm
   have e2:(ys.map Tt.toT).map TD=(ys.map TC).map C.toD:=by
    rw[WZ,WZ];exact W1 fun t _=>(Nn t (.inr trivial)).symm
   simp only[At.toV,A1.toV,EM];rw[hl,e1,e2];dsimp only;split at h
   ·rename_i b hb;rw[zh hb];exact⟨_,rfl,h⟩
   ·rename_i b hb;rw[zh hb];exact⟨_,rfl,h⟩
   ·exact h.elim
  ·exact h.elim
 ·exact h.elim
theorem U1{op:UnOp}{x:At}(h:unT op x k):unK op x.toV (up k):=by
 unfold unT at h;split at h
 ·exact⟨_,rfl,h⟩
 ·rename_i c;split at h
  ·rename_i κ n hc;simp only[At.toV,A1.toV,Tt.toT,(fU hc).1];exact GK h dp
  ·exact h.elim
 ·rename_i c;split at h
  ·rename_i κ n hc;simp only[At.toV,A1.toV,Tt.toT,(fU hc).1];exact GK h dp
  ·exact h.elim
 ·exact h.elim
theorem BZ{x:At}{i:Nat}(h:gL x i k):iO x.toV i (up k):=by
 unfold gL at h;split at h
 ·rename_i vs;split at h
  ·rename_i v hv;simp only[At.toV,iO,WK,hv,Option.map_some];exact⟨.one v,rfl,h⟩
  ·exact h.elim
 ·exact h.elim
theorem Me{x i:At}(h:m5 x i k):r8 x.toV i.toV (up k):=by
 unfold m5 at h;split at h
 ·rename_i l κ n;obtain⟨⟨h1,h2⟩,h3⟩:=h;simp only[At.toV,A1.toV,Tt.toT,C.toD,r8];refine⟨h1,?_⟩;rw[WH h2];dsimp only;refine⟨_,?_,h3⟩;rw[Jx];simp only[C.toD];rw[List.getD,WH h2];rfl
 ·exact h.elim
theorem zM{x:At}(h:fg x k):kM x.toV (up k):=by
 unfold fg at h;split at h
 ·exact⟨_,rfl,h⟩
 ·exact⟨_,rfl,h⟩
 ·exact⟨_,rfl,h⟩
 ·exact h.elim
theorem K4{P:Program}{t:TypeId}{x:At}{i:Nat}(h:mA P t x i k):rz P t x.toV i (up k):=by
 unfold mA at h;split at h
 ·rename_i fs ts hk;simp only[At.toV,A1.toV,rz];rw[hk];dsimp only;cases hf:fs[i]? with
  |none=>rw[hf]at h;exact h.elim
  |some f=>
   obtain⟨off,size,ag⟩:=f;rw[hf]at h
   match ag,h with
   |some false,h=>
    dsimp only at h⊢;rw[WK];cases ht:ts[off]? with
    |none=>rw[ht]at h;exact h.elim
    |some t'=>rw[ht]at h;exact⟨_,rfl,h⟩
   |some true,h=>
    dsimp only at h⊢;split at h
    ·rename_i hb;refine⟨by rw[WJ];exact WT hb,.one (.agg ((ts.drop off).take size)),?_,h⟩;simp only[At.toV,A1.toV,X6,Yf]
    ·exact h.elim
   |none,h=>exact h.elim
 ·exact h.elim
theorem Ob{P:Program}{su du:TypeId}{x:At}(h:sD P su du x k):pS P su du x.toV (up k):=by
 unfold sD at h;split at h
 ·rename_i κ0 κ h1 h2;split at h
  ·rename_i c;split at h
   ·rename_i κ1 n hc;simp only[At.toV,A1.toV,Tt.toT,(fU hc).1,pS,h1,h2];exact GK h dp
   ·exact h.elim
  ·exact h.elim
 ·rename_i e h1 h2;split at h
  ·rename_i h3;split at h
   ·rename_i l;simp only[At.toV,A1.toV,Tt.toT,C.toD,pS,h1,h2];refine⟨h3,?_⟩;have:∀l:List UInt8,mz (l.map (al .b8))=some l:=by
     intro l;induction l with
     |nil=>rfl
     |cons a l ih=>
      simp only[List.map_cons,al,mz];have ih':mz (l.map (al .b8))=some l:=ih
      simp only[al]at ih'
      first
       |rw[ih']
       |(show(mz (l.map (al .b8))).map _=_;rw[ih])
      simp
    rw[this l];exact⟨_,rfl,h⟩
   ·simp only[At.toV,A1.toV,Tt.toT,pS,h1,h2];exact⟨h3,_,rfl,h⟩
   ·exact h.elim
  ·exact h.elim
 ·exact h.elim
end
theorem DM(t:Tt):t.toT.sure=t.sure:=by
 cases t with
 |d c=>cases c<;>rfl
 |_=>rfl
def RH(t:Tt)(t':T):Prop:=t'=t.toT\/∃sh u l,∃l':List (List D),t=.ow sh u l/\t'=.ow sh l'/\l'.length=l.length
structure HL (ts:List Tt) (ts':List T):Prop where
 len:ts'.length=ts.length
 nth:∀(i:Nat)(t:Tt)(t':T),ts[i]? = some t->ts'[i]? = some t'->RH t t'
theorem qS(ts:List Tt):HL ts (ts.map Tt.toT):=by
 refine⟨by simp,fun i t t' h h'=>?_⟩;rw[WK,h]at h';exact .inl (Option.some.inj h').symm
theorem HL.drop{ts:List Tt}{ts':List T}(h:HL ts ts')(n:Nat):HL (ts.drop n) (ts'.drop n):=
 ⟨by simp[h.len],fun i t t' h1 h2=>by rw[Xc]at h1 h2;exact h.nth _ t t' h1 h2⟩
theorem HL.take{ts:List Tt}{ts':List T}(h:HL ts ts')(n:Nat):HL (ts.take n) (ts'.take n):=
 ⟨by simp[h.len],fun i t t' h1 h2=>by
  rw[List.getElem?_take]at h1 h2;split at h1
  ·rename_i hi;rw[if_pos hi]at h2;exact h.nth _ t t' h1 h2
  ·cases h1⟩
theorem jA:∀(q:List Step)(sub:List Sh)(l:List (List D))(x:D),(bF sub l x q).length=l.length
 |[],_,_,_=>rfl
 |[st],_,_,_=>by simp[bF]
 |st::st'::r,sub,l,x=>by
  simp only[bF];split
  ·simp
  ·rfl
theorem t7(cells:List Tt)(hole:Option (Nat×Step×List Step)):HL cells (holed (cells.map Tt.toT) hole):=by
 cases hole with
 |none=>exact qS cells
 |some h=>
  obtain⟨off,st,q⟩:=h;simp only[holed];split
  ·rename_i sub l hc;refine⟨by simp,fun i t t' h1 h2=>?_⟩;by_cases hi:off=i
   ·subst hi;rw[WK,h1]at hc;have hc':=Option.some.inj hc
    have hlt:off < (cells.map Tt.toT).length:=by
     have:=(Xh.1 h1).1
     simpa using this
    rw[W5 hlt]at h2;have h2':=Option.some.inj h2
    cases t with
    |ow sh u l0=>
     simp only[Tt.toT,T.ow.injEq]at hc';obtain⟨rfl,rfl⟩:=hc';exact .inr ⟨_,_,_,_,rfl,h2'.symm,by rw[jA];simp⟩
    |_=>simp[Tt.toT]at hc'
   ·rw[W2 hi]at h2;exact(qS cells).nth i t t' h1 h2
  ·exact qS cells
theorem M4{t:Tt}{t':T}(h:RH t t')(q:Pl):xa q t'=(Ds q t).toT:=by
 rcases h with rfl|⟨sh,u,l,l',rfl,rfl,_⟩
 ·cases t<;>rfl
 ·rfl
theorem Qk{ts:List Tt}{ts':List T}(h:HL ts ts')(p:Pl):qq p ts'=(vW p ts).map Tt.toT:=by
 refine XI fun i=>?_
 simp only[qq,vW,WK,List.getElem?_zipIdx,Xy,Option.map_map];cases h1:ts[i]? with
 |none=>
  have:ts'[i]? = none:=by rw[List.getElem?_eq_none_iff]at h1⊢;rw[h.len];exact h1
  rw[this];rfl
 |some t=>
  have hlt:i<ts'.length:=by rw[h.len];exact(Xh.1 h1).1
  rw[WH hlt];simp only[Option.map_some,Function.comp,WG];exact M4 (h.nth i t _ h1 (WH hlt)) _
theorem gN{u:U}(l:List (El u)){i:Nat}(h:i<l.length):(l.map (al u)).getD i []=al u (l.getD i (dflt u)):=by
 rw[List.getD,List.getD,WK,WH h];rfl
theorem ij{u:U}(l:List (El u)){i:Nat}(h:i<l.length):(l.map (al u))[i]? = some (al u (l.getD i (dflt u))):=by
 rw[List.getD,WK,WH h];rfl
def O2(s:Sh)(c:C):Tt:=match s,c with
 |Sh.fr,x=>Tt.d x
 |Sh.ow s,C.li u' l'=>Tt.ow s u' l'
 |_,_=>Tt.any
theorem O3(s:Sh)(c:C):mkT s c.toD=(O2 s c).toT:=by
 cases s with
 |fr=>rfl
 |ow s=>cases c<;>rfl
theorem tG:∀(s:List Sh)(c:List C),List.zipWith mkT s (c.map C.toD)=(List.zipWith O2 s c).map Tt.toT
 |[],_=>by simp
 |_::_,[]=>by simp
 |s::ss,c::cs=>by simp only[List.map_cons,List.zipWith_cons_cons,O3,tG ss cs]
theorem E8:∀{path:List Step}{sub:List Sh}{u:U}{l:List (El u)}{n:Nat}{ts:List Tt}{K:List T->Prop},okO sub (l.map (al u)) path->inT sub u l n path=some ts->K (ts.map Tt.toT)->inK sub (l.map (al u)) n path K
 |[],_,_,_,_,_,_,h,_,_=>h.elim
 |[st],sub,u,l,n,ts,K,h,ht,hK=>by
  obtain⟨h1,h2,h3⟩:=h;rw[WJ]at h1;simp only[inT]at ht;split at ht
  ·rename_i hb;simp only[WG]at ht;refine⟨WT hb,?_⟩;rw[ij l h1];dsimp only;rw[<- bq,<- Yf,<- X6,tG];subst ht;exact hK
  ·cases ht
 |st::st'::r,sub,u,l,n,ts,K,h,ht,hK=>by
  obtain⟨⟨h1,h2,h3⟩,h4⟩:=h;rw[WJ]at h1;simp only[inT]at ht;split at ht
  ·rename_i s u' l' e1 e2;simp only[inK];rw[ij l h1];dsimp only;have e3:(al u (l.getD st.idx (dflt u)))[st.off]? = some (.li (l'.map (al u'))):=by
    rw[<- bq,WK,e2];rfl
   rw[e1,e3];dsimp only;rw[e1,gN l h1,List.getD,e3]at h4;exact E8 h4 ht hK
  ·cases ht
def okP(m:Mm)(p:Pl):Prop:=match p.path with
 |[]=>True
 |st::q=>∃r sub l,ab m p.root=some r/\r.cells[p.off]? = some (.ow sub l)/\okO sub l (st::q)
theorem F6{m:Mm}{p:Pl}(h:bD m p):okP m p:=by
 unfold okP;split
 ·trivial
 ·rename_i st q hp;unfold bD at h;split at h
  ·exact h.elim
  ·rename_i r hr;rw[hp]at h;dsimp only at h;split at h
   ·rename_i sub l hc;exact⟨r,sub,l,hr,hc,h⟩
   ·exact h.elim
theorem mK{m:Mm}{p:Pl}(h:fh m p):okP m p:=by
 unfold okP;split
 ·trivial
 ·rename_i st q hp;unfold fh at h;split at h
  ·exact h.elim
  ·rename_i r hr;rw[hp]at h;split at h
   ·simp_all
   ·simp_all
   ·simp_all
   ·rename_i sub l st' q' hc he;simp only[List.cons.injEq]at he;obtain⟨rfl,rfl⟩:=he;exact⟨r,sub,l,hr,hc,h.1⟩
   ·exact h.elim
theorem aR{m:List (Nm×Nat×Rt)}{n:Nm}{r:Rt}(h:bj m n=some r):ab (toM m) n=some r.toR:=by rw[pW,h];rfl
theorem JB{ss:List Sh}{xs:List D}{i:Nat}{t:T}(h:(List.zipWith mkT ss xs)[i]? = some t):∃s x,ss[i]? = some s/\xs[i]? = some x/\t=mkT s x:=by
 rw[List.getElem?_zipWith]at h;cases h1:ss[i]? with
 |none=>rw[h1]at h;simp at h
 |some s=>cases h2:xs[i]? with
  |none=>rw[h1,h2]at h;simp at h
  |some x=>rw[h1,h2]at h;exact⟨s,x,rfl,rfl,(Option.some.inj h).symm⟩
theorem OA:∀{path hp:List Step}{sub:List Sh}{u:U}{l:List (El u)}{n:Nat}{ts:List Tt}{K:List T->Prop},path.length<hp.length->okO sub (bF sub (l.map (al u)) .any hp) path->inT sub u l n path=some ts->(∀ts',HL ts ts'->K ts')->inK sub (bF sub (l.map (al u)) .any hp) n path K
 |[],_,_,_,_,_,_,_,_,h,_,_=>h.elim
 |_::_,[],_,_,_,_,_,_,hlt,_,_,_=>by simp at hlt
 |[_],[_],_,_,_,_,_,_,hlt,_,_,_=>by simp at hlt
 |_::_::_,[_],_,_,_,_,_,_,hlt,_,_,_=>by simp at hlt
 |[st],h::h'::hr,sub,u,l,n,ts,K,hlt,hok,ht,hK=>by
  have hlen:(bF sub (l.map (al u)) .any (h::h'::hr)).length=l.length:=by rw[jA,WJ]
  have hok1:=hok.1
  rw[hlen]at hok1;simp only[inT]at ht;split at ht
  ·rename_i hb;simp only[WG]at ht;refine⟨WT hb,?_⟩;have base:((l.map (al u))[st.idx]?)=some (al u (l.getD st.idx (dflt u))):=ij l hok1
   have key:∀x,(bF sub (l.map (al u)) .any (h::h'::hr))[st.idx]? = some x->(x=al u (l.getD st.idx (dflt u))\/∃s l1,sub[h.off]? = some (.ow s)/\(al u (l.getD st.idx (dflt u)))[h.off]? = some (.li l1)/\x=(al u (l.getD st.idx (dflt u))).set h.off (.li (bF s l1 .any (h'::hr)))):=by
    intro x hx;simp only[bF]at hx;split at hx
    ·rename_i s l1 e1 e2;rw[XA]at hx;split at hx
     ·rename_i ei;split at hx
      ·have hx':=Option.some.inj hx
       rw[ei,gN l hok1]at e2 hx';refine .inr ⟨s,l1,e1,?_,hx'.symm⟩;rw[List.getD]at e2;cases h3:(al u (l.getD st.idx (dflt u)))[h.off]? with
       |none=>rw[h3]at e2;cases e2
       |some d=>rw[h3]at e2;simp only[Xb]at e2;rw[e2]
      ·cases hx
     ·rw[base]at hx;exact .inl (Option.some.inj hx).symm
    ·rw[base]at hx;exact .inl (Option.some.inj hx).symm
   have hlt2:st.idx < (bF sub (l.map (al u)) .any (h::h'::hr)).length:=by rw[hlen];exact hok1
   rw[WH hlt2];dsimp only;rcases key _ (WH hlt2)with e|⟨s,l1,e1,e2,e⟩
   ·rw[e,<- bq,<- Yf,<- X6,tG];subst ht;exact hK _ (qS _)
   ·rw[e];refine hK _ ?_;subst ht;have hbase:List.zipWith mkT ((sub.drop st.off).take n) (((al u (l.getD st.idx (dflt u))).drop st.off).take n)=(List.zipWith O2 ((sub.drop st.off).take n) (((flat u (l.getD st.idx (dflt u))).drop st.off).take n)).map Tt.toT:=by
     rw[<- bq,<- Yf,<- X6,tG]
    refine⟨?_,fun i t t' a1 a2=>?_⟩
    ·have hl:=congrArg List.length hbase
     simp only[WJ]at hl;have hx:∀ys:List D,(List.zipWith mkT ((sub.drop st.off).take n) ((ys.drop st.off).take n)).length=min (min n (sub.length-st.off)) (min n (ys.length-st.off)):=by
      intro ys;simp
     refine Eq.trans ?_ hl;rw[hx,hx,List.length_set]
    ·obtain⟨s0,x0,b1,b2,b3⟩:=JB a2;have a1':((List.zipWith O2 ((sub.drop st.off).take n) (((flat u (l.getD st.idx (dflt u))).drop st.off).take n)).map Tt.toT)[i]? = some t.toT:=by
      rw[WK];have:(List.zipWith O2 ((sub.drop st.off).take n) (((flat u (l.getD st.idx (dflt u))).drop st.off).take n))[i]? = some t:=a1
      rw[this];rfl
     rw[<- hbase]at a1';obtain⟨s1,x1,c1,c2,c3⟩:=JB a1';rw[b1]at c1;obtain rfl:=Option.some.inj c1;rw[List.getElem?_take]at b1 b2 c2;split at b2
     ·rename_i hin;rw[if_pos hin]at b1 c2;rw[Xc]at b1 b2 c2;rw[XA]at b2;split at b2
      ·rename_i eo;rw[<- eo]at b1 c2;rw[e1]at b1;obtain rfl:=Option.some.inj b1;rw[e2]at c2;obtain rfl:=Option.some.inj c2;split at b2
       ·obtain rfl:=Option.some.inj b2;rw[b3];cases t with
        |ow sh2 u2 l2=>
         simp only[mkT,Tt.toT,T.ow.injEq]at c3;obtain⟨rfl,e5⟩:=c3;refine .inr ⟨_,_,_,_,rfl,rfl,?_⟩;rw[jA,<- e5,WJ]
        |_=>simp[mkT,Tt.toT]at c3
       ·cases b2
      ·rw[b2]at c2;obtain rfl:=Option.some.inj c2;rw[b3,<- c3];exact .inl rfl
     ·cases b2
  ·cases ht
 |st::st'::r,h::h'::hr,sub,u,l,n,ts,K,hlt,hok,ht,hK=>by
  have hlen:(bF sub (l.map (al u)) .any (h::h'::hr)).length=l.length:=by rw[jA,WJ]
  obtain⟨⟨hi,hz,ho⟩,hok2⟩:=hok;rw[hlen]at hi;simp only[inT]at ht;split at ht
  ·rename_i s u' l' e1 e2;have base:((l.map (al u))[st.idx]?)=some (al u (l.getD st.idx (dflt u))):=ij l hi
   have e3:(al u (l.getD st.idx (dflt u)))[st.off]? = some (.li (l'.map (al u'))):=by
    rw[<- bq,WK,e2];rfl
   have key:∃x,(bF sub (l.map (al u)) .any (h::h'::hr))[st.idx]? = some x/\(x[st.off]? = some (.li (l'.map (al u')))\/x[st.off]? = some (.li (bF s (l'.map (al u')) .any (h'::hr)))):=by
    simp only[bF];split
    ·rename_i s1 l1 f1 f2;rw[XA];split
     ·rename_i ei;rw[if_pos (by rw[WJ,ei];exact hi)];refine⟨_,rfl,?_⟩;rw[ei,gN l hi]at f2⊢;rw[XA];split
      ·rename_i eo;rw[eo]at f1 f2;rw[e1]at f1;simp only[WG,Sh.ow.injEq]at f1;subst f1;rw[List.getD,e3,Xb]at f2;simp only[D.li.injEq]at f2;subst f2;rw[if_pos (by rw[eo];exact ah e3)];exact .inr rfl
      ·exact .inl e3
     ·exact⟨_,base,.inl e3⟩
    ·exact⟨_,base,.inl e3⟩
   obtain⟨x,hx,hx2⟩:=key;have hg:(bF sub (l.map (al u)) .any (h::h'::hr)).getD st.idx []=x:=by rw[List.getD,hx];rfl
   rw[e1,hg]at hok2;simp only[inK];rw[hx];dsimp only;rw[e1];rcases hx2 with hx2|hx2
   ·rw[List.getD,hx2]at hok2;rw[hx2];dsimp only at hok2⊢;exact E8 hok2 ht (hK _ (qS _))
   ·rw[List.getD,hx2]at hok2;rw[hx2];dsimp only at hok2⊢;exact OA (by simpa using hlt) hok2 ht hK
  ·cases ht
theorem EJ{m:List (Nm×Nat×Rt)}{p:Pl}{n:Nat}{ts:List Tt}{K:List T->Prop}(hp:okP (toM m) p)(h:atT m p n=some ts)(hK:∀ts',HL ts ts'->K ts'):atK (toM m) p n K:=by
 unfold atT at h;split at h
 ·cases h
 ·rename_i r hr;unfold atK;rw[aR hr];dsimp only;unfold okP at hp;split at h
  ·rename_i hpath;rw[hpath];split at h
   ·rename_i hb;simp only[WG]at h;have hH:=t7 r.cells r.hole
    refine⟨?_,hK _ ?_⟩
    ·show p.off+n<=(holed (r.cells.map Tt.toT) r.hole).length
     rw[hH.len];exact WT hb
    ·subst h;exact(hH.drop _).take _
   ·cases h
  ·rename_i st q hpath;rw[hpath]at hp⊢;split at h
   ·rename_i sub u l hhole hc;obtain⟨r',sub',l',e1,e2,e3⟩:=hp;rw[aR hr]at e1;obtain rfl:=Option.some.inj e1;have plain:r.toR.cells[p.off]? = some (.ow sub (l.map (al u)))->(match st::q,r.toR.cells[p.off]? with
      |[],_=>p.off+n<=r.toR.cells.length/\K ((r.toR.cells.drop p.off).take n)
      |st::q,some (.ow sub l)=>inK sub l n (st::q) K
      |_,_=>False):=by
     intro ec;rw[ec]at e2⊢;have e2':=Option.some.inj e2
     simp only[T.ow.injEq]at e2';obtain⟨rfl,rfl⟩:=e2';exact E8 e3 h (hK _ (qS ts))
    cases hho:r.hole with
    |none=>
     refine plain ?_;show(holed (r.cells.map Tt.toT) r.hole)[p.off]? = _
     rw[hho];show(r.cells.map Tt.toT)[p.off]? = _
     rw[WK,hc];rfl
    |some hh=>
     obtain⟨off,st',q'⟩:=hh;rw[hho]at hhole;have hlt:(st::q).length < (st'::q').length:=WT hhole
     by_cases hoff:off=p.off
     ·subst hoff;have hlt2:p.off < (r.cells.map Tt.toT).length:=by rw[WJ];exact(Xh.1 hc).1
      have ec:r.toR.cells[p.off]? = some (.ow sub (bF sub (l.map (al u)) .any (st'::q'))):=by
       show(holed (r.cells.map Tt.toT) r.hole)[p.off]? = _
       rw[hho];simp only[holed];rw[WK,hc];simp only[Option.map_some,Tt.toT];rw[W5 hlt2]
      rw[ec]at e2⊢;have e2':=Option.some.inj e2
      simp only[T.ow.injEq]at e2';obtain⟨rfl,rfl⟩:=e2';exact OA hlt e3 h hK
     ·refine plain ?_;show(holed (r.cells.map Tt.toT) r.hole)[p.off]? = _
      rw[hho];simp only[holed];split
      ·rw[W2 hoff,WK,hc];rfl
      ·rw[WK,hc];rfl
   ·cases h
theorem wj{m:List (Nm×Nat×Rt)}{p:Pl}{sh:List Sh}{u:U}{l:List (El u)}{K:List T->Prop}(hp:okP (toM m) p)(h:sliceAt m p=some ⟨sh,u,l⟩)(hK:∀l':List (List D),l'.length=l.length->K [.ow sh l']):atK (toM m) p 1 K:=by
 unfold sliceAt at h;split at h
 ·rename_i sh' u' l' ht;cases h;refine EJ hp ht (fun ts' hH=>?_);have hl:=hH.len
  match ts',hl with
  |[t'],_=>
   rcases hH.nth 0 _ _ rfl rfl with e|⟨sh2,u2,l2,l3,e1,e2,e3⟩
   ·rw[e];exact hK _ (by simp)
   ·simp only[Tt.ow.injEq]at e1;obtain⟨rfl,rfl,e5⟩:=e1;have e5':=eq_of_heq e5
    subst e5';rw[e2];exact hK _ e3
 ·cases h
section
variable {k:At->Prop} {m:List (Nm×Nat×Rt)}
theorem zn{gd:Option (Nat×Bool)}{n:Nat}{q:Prop}(h:gift gd n q):n<=4611686018427387904->q:=by
 cases gd with
 |none=>exact h
 |some _=>exact fun _=>h
theorem RS{gd:Option (Nat×Bool)}{x:At}{k:Nat->Prop}(hp:∀p,x=.one (.c (.rf p))->okP (toM m) p)(h:CR gd m x k):CQ (toM m) x.toV k:=by
 unfold CR at h;split at h
 ·exact zn h
 ·simp only[At.toV,A1.toV,Tt.toT,C.toD,CQ,WJ];exact zn h
 ·exact h
 ·rename_i p;split at h
  ·rename_i sh u l hs;simp only[At.toV,A1.toV,Tt.toT,CQ];refine wj (hp p rfl) hs (fun l' hl=>?_);dsimp only;rw[hl];exact zn h
  ·exact h.elim
 ·exact h.elim
theorem iy{x:Option At}{d:Nat}{k:Nat->Prop}(h:dX x d k):fq (x.map At.toV) d k:=by
 unfold dX at h;split at h
 ·exact h
 ·exact h
 ·exact h.elim
theorem L7{P:Program}{t:TypeId}{x:At}{lo hi:Option At}(h:mZ P t x lo hi k):kc P t x.toV (lo.map At.toV) (hi.map At.toV) (up k):=by
 have bmono:∀{y:Option At}{d:Nat}{k1 k2:Nat->Prop},(∀n,k1 n->k2 n)->dX y d k1->dX y d k2:=by
  intro y d k1 k2 hk hb;unfold dX at hb⊢;split at hb
  ·exact hk _ hb
  ·exact⟨hb.1,hk _ hb.2⟩
  ·exact hb.elim
 unfold mZ at h;split at h
 ·rename_i l;split at h
  ·rename_i ht;refine⟨ht,iy (bmono (fun a ha=>iy (bmono (fun b hb=>?_) ha)) h)⟩;exact⟨hb.1,_,rfl,hb.2⟩
  ·exact h.elim
 ·rename_i u l;split at h
  ·rename_i e ht;split at h
   ·rename_i hc;simp only[WI]at hc;simp only[At.toV,A1.toV,Tt.toT,C.toD,kc,ht];refine⟨hc.1,fun y hy=>?_,iy (bmono (fun a ha=>?_) h)⟩
    ·obtain⟨z,_,rfl⟩:=Xa.1 hy;rw[gH];exact WS hc.2
    ·rw[WJ];refine iy (bmono (fun b hb=>?_) ha);exact⟨hb.1,_,by simp only[At.toV,A1.toV,Tt.toT,C.toD,X6,Yf],hb.2⟩
   ·exact h.elim
  ·exact h.elim
 ·split at h
  ·rename_i e ht;split at h
   ·rename_i hc;simp only[At.toV,A1.toV,Tt.toT,kc,ht];refine⟨hc,iy (bmono (fun a ha=>iy (bmono (fun b hb=>?_) ha)) h)⟩;exact⟨hb.1,hb.2.1,_,rfl,hb.2.2⟩
   ·exact h.elim
  ·exact h.elim
 ·exact h.elim
theorem mF{p:Pl}{n:Nat}(h:gP m p n=true):gk (toM m) p n:=by
 unfold gP at h;split at h
 ·cases h
 ·rename_i r hr;unfold gk room;rw[aR hr];dsimp only;have hH:=t7 r.cells r.hole
  split at h
  ·rename_i hpath;rw[hpath];show n < (holed (r.cells.map Tt.toT) r.hole).length-p.off
   rw[hH.len];exact WT h
  ·rename_i st q sub u l hpath hc;rw[hpath];split at h
   ·rename_i k hk;have hlt:=(Xh.1 hc).1
    have hlt':p.off < (holed (r.cells.map Tt.toT) r.hole).length:=by rw[hH.len];exact hlt
    have:=hH.nth p.off _ _ hc (WH hlt')
    have e:∃l',r.toR.cells[p.off]? = some (.ow sub l'):=by
     rcases this with e|⟨sh,u2,l2,l3,e1,e2,_⟩
     ·exact⟨_,by show(holed _ _)[p.off]? = _;rw[WH hlt',e];rfl⟩
     ·simp only[Tt.ow.injEq]at e1;obtain⟨rfl,_,_⟩:=e1;exact⟨l3,by show(holed _ _)[p.off]? = _;rw[WH hlt',e2]⟩
    obtain⟨l',e⟩:=e;rw[e];dsimp only;rw[hk];exact WT h
   ·cases h
  ·cases h
theorem wJ{P:Program}{t:TypeId}{x:At}{i:Nat}(h:dD P m t x i k):eQ P (toM m) t x.toV i (up k):=by
 unfold dD at h;split at h
 ·rename_i fs ht;unfold eQ;rw[ht];dsimp only;cases hf:fs[i]? with
  |none=>rw[hf]at h;exact h.elim
  |some f=>
   obtain⟨off,size,ag⟩:=f;rw[hf]at h;cases size with
   |zero=>exact h.elim
   |succ size=>
    dsimp only at h⊢;refine⟨by omega,?_⟩;split at h
    ·split at h
     ·rename_i hr;exact⟨mF hr,_,rfl,h⟩
     ·exact h.elim
    ·exact⟨_,rfl,h⟩
    ·exact h.elim
 ·exact h.elim
theorem oh{P:Program}{t:TypeId}{x i:At}(hp:∀p,x=.one (.c (.rf p))->okP (toM m) p)(h:db P m t x i k):eV P (toM m) t x.toV i.toV (up k):=by
 unfold db at h;split at h
 ·rename_i κ n;simp only[At.toV,A1.toV,Tt.toT,C.toD,eV];split at h
  ·rename_i e ht;rw[ht];split at h
   ·rename_i u l;split at h
    ·rename_i hc;simp only[WI]at hc;obtain⟨⟨h1,h2⟩,h3⟩:=h;simp only[At.toV,A1.toV,Tt.toT,C.toD];refine⟨hc.1,h1,?_⟩;rw[ij l h2];dsimp only;refine⟨by rw[gH];exact WS hc.2,_,?_,h3⟩;simp only[At.toV,A1.toV,Tt.toT,bq]
    ·exact h.elim
   ·rename_i p;split at h
    ·rename_i hc;simp only[WI]at hc;split at h
     ·rename_i sh u l hs;split at h
      ·rename_i hb;obtain⟨h1,h2⟩:=h;simp only[At.toV,A1.toV,Tt.toT];refine⟨hc.1,by have:=WT hc.2;omega,wj (hp p rfl) hs (fun l' hl=>?_)⟩;dsimp only;exact⟨⟨h1.1,by rw[hl];exact h1.2⟩,WS hb,_,rfl,h2⟩
      ·exact h.elim
     ·exact h.elim
    ·exact h.elim
   ·exact h.elim
  ·rename_i N e ht;rw[ht];split at h
   ·rename_i u l i;split at h
    ·rename_i hc;simp only[WI]at hc;obtain⟨h1,h2⟩:=h;simp only[At.toV,A1.toV,Tt.toT];refine⟨hc.1.1,h1,_,?_,h2⟩;simp only[At.toV,A1.toV,Tt.toT];rw[WS hc.1.2,Nat.mul_one,Nat.add_comm];rfl
    ·exact h.elim
   ·rename_i p;split at h
    ·rename_i hc;simp only[WI]at hc;obtain⟨h1,h2⟩:=h;simp only[At.toV,A1.toV,Tt.toT];exact⟨hc.1,h1,mF hc.2,_,rfl,h2⟩
    ·exact h.elim
   ·exact h.elim
  ·exact h.elim
 ·exact h.elim
theorem vi{P:Program}{t:TypeId}{x:At}(hp:∀p,x=.one (.c (.pl p))->okP (toM m) p)(h:iU P m t x k):p5 P (toM m) t x.toV (up k):=by
 unfold iU at h;split at h
 ·rename_i hok;refine⟨hok,?_⟩;split at h
  ·rename_i row o;simp only[At.toV,A1.toV,Tt.toT];split at h
   ·rename_i ha;rw[if_pos ha];split at h
    ·rename_i hb;refine⟨by rw[WJ];exact WT hb,fun _=>⟨_,?_,h⟩⟩;simp only[At.toV,A1.toV,AV.one.injEq,AV1.agg.injEq];rw[WZ,<- Yf,<- X6,WZ];rfl
    ·exact h.elim
   ·rename_i ha;rw[if_neg (by rw[ha];simp),WK];split at h
    ·rename_i c hc;rw[hc];exact fun _=>⟨_,rfl,h⟩
    ·exact h.elim
  ·rename_i u l i;simp only[At.toV,A1.toV,Tt.toT];split at h
   ·rename_i ha hl;have e:l[i]? = some (l.getD i (dflt u)):=by rw[List.getD_eq_getElem?_getD,WH h.1];rfl
    rw[if_neg (by rw[ha];simp),WK,e];exact fun _=>⟨_,rfl,h.2⟩
   ·exact h.elim
  ·rename_i p;simp only[At.toV,A1.toV,Tt.toT];split at h
   ·rename_i ha;rw[if_pos ha];split at h
    ·rename_i ts hts;refine EJ (hp p rfl) hts (fun ts' hH=>fun _=>⟨_,?_,h⟩);simp only[At.toV,A1.toV,Qk hH]
    ·exact h.elim
   ·rename_i ha;rw[if_neg (by rw[ha];simp)];split at h
    ·rename_i t' hts;refine EJ (hp p rfl) hts (fun ts' hH=>?_);have hl:=hH.len
     match ts',hl with
     |[t''],_=>
      dsimp only;refine fun _=>⟨_,?_,h⟩
      simp only[At.toV,A1.toV];rw[M4 (hH.nth 0 _ _ rfl rfl)]
    ·exact h.elim
  ·exact h.elim
 ·exact h.elim
theorem oL(x:At):dx x.toV=(jr x).map (·.map Tt.toT):=by
 cases x with
 |one x=>cases x<;>rfl
 |_=>rfl
theorem LO{α β:Type}(f:α->β)(ts cs:List α)(off:Nat):(overw ts off cs).map f=overw (ts.map f) off (cs.map f):=by
 simp only[overw,XC,X6,Yf,WJ]
theorem nB{pl:Nat->Option (Nat×Nat)}:∀{parts:List (Nat×At)}{ts ts':List Tt},jY pl ts parts=some ts'->ic pl (ts.map Tt.toT) (parts.map fun x=>(x.1,x.2.toV))=some (ts'.map Tt.toT)
 |[],ts,ts',h=>by simp only[jY,WG]at h;subst h;rfl
 |(i,x)::r,ts,ts',h=>by
  simp only[jY]at h;simp only[List.map_cons,ic];cases hpl:pl i with
  |none=>rw[hpl]at h;cases h
  |some q=>
   obtain⟨off,size⟩:=q;cases hc:jr x with
   |none=>rw[hpl,hc]at h;cases h
   |some cs=>
    rw[hpl,hc]at h;dsimp only at h;split at h
    ·rename_i hb;simp only[WI]at hb;rw[oL,hc];dsimp only[Option.map_some];have hs:(cs.map Tt.toT).all T.sure=true:=by
      rw[Yk];rw[<- hb.2]
      congr 1
      funext t;exact DM t
     rw[if_pos ⟨by rw[WJ];exact WS hb.1.1,by rw[WJ,WJ];exact WT hb.1.2,hs⟩];rw[<- LO];exact nB h
    ·cases h
theorem rT{s:St}{ps:Array (Nat×Operand)}(h:(ps.toList.all fun x=>ax x.2)=true):iX s.toS ps=(dI s ps).map fun x=>(x.1,x.2.toV):=by
 unfold iX dI;rw[WZ];refine W1 fun x hx=>?_
 simp only[Function.comp];rw[af (WY.1 h x hx)]
theorem IT{zs:List Value}(h:zs.all okT=true):(zs.map my).map Tt.toT=zs.map nW:=by
 rw[WZ];exact W1 fun x hx=>ru (WY.1 h x hx)
theorem S5{P:Program}{t:TypeId}{zs:List Value}{pl:List (Nat×Nat)}(h:zst P t=some (zs,pl)):zs.all okT=true:=by
 unfold zst at h;split at h
 ·split at h
  ·split at h
   ·rename_i hall;simp only[WG,Prod.mk.injEq]at h;obtain⟨rfl,_⟩:=h;simpa using hall
   ·cases h
  ·cases h
 ·split at h
  ·split at h
   ·rename_i hall;simp only[WG,Prod.mk.injEq]at h;obtain⟨rfl,_⟩:=h;simpa using hall
   ·cases h
  ·cases h
 ·cases h
theorem Ku{P:Program}{t:TypeId}{parts:List (Nat×At)}(h:mr P t parts k):oJ P t (parts.map fun x=>(x.1,x.2.toV)) (up k):=by
 unfold mr at h;split at h
 ·rename_i zs places hz;split at h
  ·rename_i ts hf;unfold oJ;rw[hz];dsimp only;have:=nB hf
   rw[IT (S5 hz)]at this;rw[this];exact⟨.one (.agg ts),rfl,h⟩
  ·exact h.elim
 ·exact h.elim
end
theorem cU(bad:Bool->Pl->Bool)(t:Tt):(t.kill bad).toT=t.toT.kill bad:=by
 cases t with
 |pl p=>
  show(if bad false p=true then Tt.any else Tt.pl p).toT=if bad false p=true then T.any else T.pl p
  by_cases h:bad false p=true<;>simp[h,Tt.toT]
 |rf p=>
  show(if bad true p=true then Tt.any else Tt.rf p).toT=if bad true p=true then T.any else T.rf p
  by_cases h:bad true p=true<;>simp[h,Tt.toT]
 |_=>rfl
theorem uj(bad:Bool->Pl->Bool)(ts:List Tt):(ts.map (·.kill bad)).map Tt.toT=(ts.map Tt.toT).map (·.kill bad):=by
 rw[WZ,WZ];exact W1 fun t _=>cU bad t
theorem sf(bad:Bool->Pl->Bool)(x:A1):(x.kill bad).toV=x.toV.kill bad:=by
 cases x with
 |c t=>simp only[A1.kill,A1.toV,AV1.kill,cU]
 |agg ts=>simp only[A1.kill,A1.toV,AV1.kill,uj]
theorem Ay(bad:Bool->Pl->Bool)(x:At):(x.kill bad).toV=x.toV.kill bad:=by
 cases x with
 |one x=>simp only[At.kill,At.toV,AV.kill,sf]
 |tup xs=>
  simp only[At.kill,At.toV,AV.kill]
  congr 1
  rw[WZ,WZ];exact W1 fun t _=>sf bad t
 |any=>rfl
theorem fO{bad:Bool->Pl->Bool}{t:Tt}(h:t.hit bad=false):t.kill bad=t:=by
 cases t with
 |pl p=>simp only[Tt.hit]at h;simp[Tt.kill,h]
 |rf p=>simp only[Tt.hit]at h;simp[Tt.kill,h]
 |_=>rfl
theorem mj{bad:Bool->Pl->Bool}:∀{ts:List Tt},ts.any (·.hit bad)=false->ts.map (·.kill bad)=ts
 |[],_=>rfl
 |t::ts,h=>by
  simp only[List.any_cons,Yd]at h;rw[List.map_cons,fO h.1,mj h.2]
theorem tH{bad:Bool->Pl->Bool}{x:A1}(h:x.hit bad=false):x.kill bad=x:=by
 cases x with
 |c t=>simp only[A1.kill,fO (show t.hit bad=false from h)]
 |agg ts=>simp only[A1.kill,mj (show ts.any _=false from h)]
theorem D6{bad:Bool->Pl->Bool}{x:At}(h:x.hit bad=false):x.kill bad=x:=by
 cases x with
 |one x=>simp only[At.kill,tH (show x.hit bad=false from h)]
 |tup xs=>
  simp only[At.hit]at h;simp only[At.kill]
  congr 1
  induction xs with
  |nil=>rfl
  |cons x xs ih=>
   simp only[List.any_cons,Yd]at h;rw[List.map_cons,tH h.1,ih h.2]
 |any=>rfl
theorem E7(bad:Bool->Pl->Bool)(cells:List Tt)(hole:Option (Nat×Step×List Step)) :
  holed ((cells.map (·.kill bad)).map Tt.toT) hole=(holed (cells.map Tt.toT) hole).map (·.kill bad):=by
 rw[uj];cases hole with
 |none=>rfl
 |some h=>
  obtain⟨off,st,q⟩:=h;simp only[holed];rw[WK (f:=fun t=>T.kill bad t)];cases hc:(cells.map Tt.toT)[off]? with
  |none=>rfl
  |some t=>
   simp only[Option.map_some];cases t with
   |ow sub l=>simp only[T.kill,Xp]
   |pl p=>by_cases h:bad false p=true<;>simp[T.kill,h]
   |rf p=>by_cases h:bad true p=true<;>simp[T.kill,h]
   |_=>rfl
theorem sy(bad:Bool->Pl->Bool)(r:Rt):(r.kill bad).toR={ r.toR with cells:=r.toR.cells.map (·.kill bad) }:=by
 simp only[Rt.toR,Rt.kill,E7]
theorem kE(bad:Bool->Pl->Bool)(nx:Nat)(t:List (Nat×Nat×At)):(kD bad nx t).map (fun x=>(x.1,x.2.2.toV))=kG bad (t.map fun x=>(x.1,x.2.2.toV)):=by
 simp only[kD,kG,WZ];exact W1 fun x _=>by simp only[Function.comp,Ay]
theorem dc(bad:Bool->Pl->Bool)(nx:Nat)(m:List (Nm×Nat×Rt)):toM (bP bad nx m)=aC bad (toM m):=by
 simp only[toM,bP,aC,WZ];exact W1 fun x _=>by simp only[Function.comp,sy]
theorem yK{bad:Bool->Pl->Bool}{nx:Nat}{m:List (Nm×Nat×Rt)}:ND (bP bad nx m) ↔ ND m:=by
 simp only[ND,bP,WZ];exact Iff.rfl
theorem vm{n k:Nm}:∀{m:List (Nm×Nat×Rt)},k∈(dC m n).map (·.1)->k∈m.map (·.1)/\k≠n
 |[],h=>by simp[dC]at h
 |(k',j,v)::m,h=>by
  simp only[dC]at h;split at h
  ·have:=vm h;exact⟨WV _ this.1,this.2⟩
  ·rename_i hk;simp only[List.map_cons,WR]at h;rcases h with rfl|h
   ·exact⟨by simp,hk⟩
   ·have:=vm h;exact⟨WV _ this.1,this.2⟩
theorem Ei{n:Nm}:∀{m:List (Nm×Nat×Rt)},ND m->ND (dC m n)
 |[],_=>by simp[ND,dC]
 |(k,j,v)::m,h=>by
  have h':k ∉ m.map (·.1)/\(m.map (·.1)).Nodup:=by simpa[ND]using h
  simp only[dC];split
  ·exact Ei h'.2
  ·have:=Ei (n:=n) h'.2
   simp only[ND,List.map_cons,Xl];exact⟨fun hm=>h'.1 (vm hm).1,this⟩
theorem ya(n:Nm)(i:Nat)(r:Rt):∀m:List (Nm×Nat×Rt),(cn m n i r).map (·.1)=m.map (·.1)
 |[]=>rfl
 |(k,j,v)::m=>by
  simp only[cn];split
  ·rfl
  ·simp only[List.map_cons,ya n i r m]
theorem d9{g:G}{s:St}{a:Act}{w:World}{H:FH}{γ:Gam}{F:Nm->Fp}(h:RX g s.toS a w H γ F):ND s.m:=by
 have:=h.mem.keys
 have e:s.toS.m.map (·.1)=s.m.map (·.1):=by simp only[St.toS,WZ];rfl
 rw[e]at this;exact this
theorem bb{s:St}{n:Nm}(h:ND s.m):(s.drop n).toS=s.toS.drop n:=by
 have h1:=kE (aX n) s.nx s.t
 have h2:=dc (aX n) s.nx (dC s.m n)
 rw[kz n s.m h]at h2;exact S_ext h1 h2
where
 S_ext {t t':List (Nat×AV)} {m m':Mm} (h1:t=t') (h2:m=m'):(⟨t,m⟩:S)=⟨t',m'⟩:=by rw[h1,h2]
theorem Iw{s:St}{n:Nm}(h:ND s.m):ND (s.drop n).m:=yK.2 (Ei h)
theorem bk{s:St}{n:Nm}(h:ND s.m):(s.fresh n).toS=s.toS.fresh n:=by
 unfold St.fresh S.fresh;have e:ab s.toS.m n=(bj s.m n).map Rt.toR:=pW n s.m
 rw[e];cases hm:bj s.m n with
 |none=>rfl
 |some r=>exact bb h
def SEq(s s':S):Prop:=(∀i,aL s.t i=aL s'.t i)/\s.m=s'.m
theorem aS{g:G}{s s':S}{a:Act}{w:World}{H:FH}{γ:Gam}{F:Nm->Fp}(e:SEq s s')(h:RX g s a w H γ F):RX g s' a w H γ F:=by
 obtain⟨t,m⟩:=s;obtain⟨t',m'⟩:=s';obtain⟨e1,e2⟩:=e;dsimp only at e1 e2;subst e2;exact⟨h.mem,h.fr,h.nt,h.df,fun i=>by rw[<- e1 i];exact h.t i⟩
theorem xG{g:G}{s s':S}{a:Act}{w:World}(e:SEq s s')(h:R g s a w):R g s' a w:=by
 obtain⟨H,γ,F,h⟩:=h;exact⟨H,γ,F,aS e h⟩
theorem aB(s:St)(d:Option Tmp)(v:At):SEq (s.toS.put d v.toV) (s.put d v).toS:=by
 cases d with
 |none=>exact⟨fun _=>rfl,rfl⟩
 |some d=>
  refine⟨fun i=>?_,rfl⟩;show aL (l6 _ d v.toV) i=aL ((d,v.toV)::_) i
  rw[fS];rfl
theorem yf(f:Nat×Nat×At->Nat×At)(k:Nat):∀t:List (Nat×Nat×At),bJ (t.map fun x=>(x.1,f x)) k=(bJ t k).map fun y=>f (k,y)
 |[]=>rfl
 |(i,j,v)::t=>by
  simp only[List.map_cons,bJ];cases hb:Nat.beq i k with
  |true=>have:=WS hb;subst this;rfl
  |false=>exact yf f k t
theorem rJ(f:Nm×Nat×Rt->Nat×Rt)(k:Nm):∀t:List (Nm×Nat×Rt),bZ (t.map fun x=>(x.1,f x)) k=(bZ t k).map fun y=>f (k,y)
 |[]=>rfl
 |(i,j,v)::t=>by
  simp only[List.map_cons,bZ];by_cases hb:i=k
  ·subst hb;rw[if_pos rfl,if_pos rfl];rfl
  ·rw[if_neg hb,if_neg hb];exact rJ f k t
structure Ext (s0 s:St):Prop where
 nx:s0.nx<=s.nx
 t:∀k j v,bJ s.t k=some (j,v)->j<s0.nx->bJ s0.t k=some (j,v)
 m:∀n j r,bZ s.m n=some (j,r)->j<s0.nx->bZ s0.m n=some (j,r)
theorem Ext.refl(s:St):Ext s s:=⟨WN _,fun _ _ _ h _=>h,fun _ _ _ h _=>h⟩
theorem Ext.trans{a b c:St}(h1:Ext a b)(h2:Ext b c):Ext a c:=
 ⟨Xo h1.nx h2.nx,fun k j v h hj=>h1.t k j v (h2.t k j v h (Nat.lt_of_lt_of_le hj h1.nx)) hj,fun k j v h hj=>h1.m k j v (h2.m k j v h (Nat.lt_of_lt_of_le hj h1.nx)) hj⟩
abbrev Ee(nx:Nat)(t t':List (Nat×Nat×At)):Prop:=∀k j v,bJ t' k=some (j,v)->j<nx->bJ t k=some (j,v)
abbrev yI(nx:Nat)(m m':List (Nm×Nat×Rt)):Prop:=∀n j r,bZ m' n=some (j,r)->j<nx->bZ m n=some (j,r)
theorem yI.trans{nx:Nat}{a b c:List (Nm×Nat×Rt)}(h1:yI nx a b)(h2:yI nx b c):yI nx a c:=fun n j r h hj=>h1 n j r (h2 n j r h hj) hj
theorem Ee.trans{nx:Nat}{a b c:List (Nat×Nat×At)}(h1:Ee nx a b)(h2:Ee nx b c):Ee nx a c:=fun n j r h hj=>h1 n j r (h2 n j r h hj) hj
theorem qQ{nx:Nat}{t:List (Nat×Nat×At)}(d i:Nat)(v:At)(hi:nx<=i):Ee nx t ((d,i,v)::t):=by
 intro k j w h hj;simp only[bJ]at h;split at h
 ·simp only[WG,Prod.mk.injEq]at h;omega
 ·exact h
theorem kg{nx:Nat}{t:List (Nm×Nat×Rt)}(d:Nm)(i:Nat)(v:Rt)(hi:nx<=i):yI nx t ((d,i,v)::t):=by
 intro k j w h hj;simp only[bZ]at h;split at h
 ·simp only[WG,Prod.mk.injEq]at h;omega
 ·exact h
theorem px{nx i:Nat}{t:List (Nat×Nat×At)}(chg:At->Bool)(f:At->At)(hf:∀v,chg v=false->f v=v)(hi:nx<=i) :
  Ee nx t (t.map fun x=>(x.1,stp (chg x.2.2) i x.2.1,f x.2.2)):=by
 intro k j v h hj;rw[yf (fun x=>(stp (chg x.2.2) i x.2.1,f x.2.2))]at h;cases hl:bJ t k with
 |none=>rw[hl]at h;cases h
 |some y=>
  obtain⟨j',v'⟩:=y;rw[hl]at h;simp only[Option.map_some,WG,Prod.mk.injEq]at h;cases hc:chg v' with
  |true=>rw[hc]at h;simp only[stp]at h;omega
  |false=>rw[hc,hf v' hc]at h;simp only[stp]at h;obtain⟨rfl,rfl⟩:=h;rfl
theorem fM{nx i:Nat}{t:List (Nat×Nat×At)}{bad:Bool->Pl->Bool}(hi:nx<=i):Ee nx t (kD bad i t):=px (·.hit bad) (·.kill bad) (fun _ h=>D6 h) hi
theorem dt{nx i:Nat}{t:List (Nm×Nat×Rt)}{bad:Bool->Pl->Bool}(hi:nx<=i):yI nx t (bP bad i t):=by
 intro k j v h hj;unfold bP at h;rw[rJ (fun x=>(stp (x.2.2.cells.any (·.hit bad)) i x.2.1,x.2.2.kill bad))]at h;cases hl:bZ t k with
 |none=>rw[hl]at h;cases h
 |some y=>
  obtain⟨j',r⟩:=y;rw[hl]at h;simp only[Option.map_some,WG,Prod.mk.injEq]at h;cases hc:r.cells.any (·.hit bad)with
  |true=>rw[hc]at h;simp only[stp]at h;omega
  |false=>
   rw[hc]at h;have:r.kill bad=r:=by unfold Rt.kill;rw[mj hc]
   rw[this]at h;simp only[stp]at h;obtain⟨rfl,rfl⟩:=h;rfl
theorem oW(n k:Nm):∀m:List (Nm×Nat×Rt),bZ (dC m n) k=if k=n then none else bZ m k
 |[]=>by simp[dC,bZ]
 |(i,j,v)::m=>by
  simp only[dC];by_cases h:i=n
  ·subst h;rw[if_pos rfl,oW i k m];by_cases hk:k=i
   ·rw[if_pos hk,if_pos hk]
   ·rw[if_neg hk,if_neg hk];simp only[bZ];rw[if_neg (fun e=>hk e.symm)]
  ·rw[if_neg h];simp only[bZ];by_cases hk:i=k
   ·subst hk;rw[if_pos rfl,if_neg h,if_pos rfl]
   ·rw[if_neg hk,if_neg hk,oW n k m]
theorem l9{nx:Nat}{m:List (Nm×Nat×Rt)}(n:Nm):yI nx m (dC m n):=by
 intro k j r h _;rw[oW]at h;split at h
 ·cases h
 ·exact h
theorem cq{nx i:Nat}(n:Nm)(r:Rt)(hi:nx<=i):∀m:List (Nm×Nat×Rt),yI nx m (cn m n i r)
 |[],_,_,_,h,_=>h
 |(a,b,c)::m,k,j,v,h,hj=>by
  simp only[cn]at h;split at h
  ·rename_i ha;simp only[bZ]at h⊢;split at h
   ·simp only[WG,Prod.mk.injEq]at h;omega
   ·rename_i hk;rw[if_neg hk];exact h
  ·simp only[bZ]at h⊢;split at h
   ·rename_i hk;rw[if_pos hk];exact h
   ·rename_i hk;rw[if_neg hk];exact cq n r hi m k j v h hj
theorem aw(s:St)(d:Option Tmp)(v:At):Ext s (s.put d v):=by
 cases d with
 |none=>exact Ext.refl s
 |some d=>exact⟨Xt _,qQ d s.nx v (WN _),fun _ _ _ h _=>h⟩
theorem py(s:St)(n:Nm):Ext s (s.drop n):=⟨Xt _,fM (WN _),(l9 n).trans (dt (WN _))⟩
theorem bB(s:St)(n:Nm):Ext s (s.fresh n):=by
 unfold St.fresh;split
 ·exact Ext.refl s
 ·exact py s n
theorem cf(s:St)(n:Nm)(r:Rt):Ext s (s.root n r):=⟨Xt _,fun _ _ _ h _=>h,kg n s.nx r (WN _)⟩
theorem EA(q:Pl)(u:U)(l:List (El u))(t:Tt):(t.frz q u l).toT=t.toT.frz q (l.map (al u)):=by
 cases t with
 |pl p=>exact cU (thr q) (.pl p)
 |rf p=>
  obtain⟨n,o,path⟩:=p;cases path with
  |nil=>
   show(if n=q.root/\o=q.off then Tt.d (.li u l)else(Tt.rf ⟨n,o,[]⟩).kill (thr q)).toT=if n=q.root/\o=q.off then T.d (.li (l.map (al u)))else(T.rf ⟨n,o,[]⟩).kill (thr q)
   by_cases h:n=q.root/\o=q.off
   ·rw[if_pos h,if_pos h];rfl
   ·rw[if_neg h,if_neg h];exact cU (thr q) (.rf ⟨n,o,[]⟩)
  |cons st r=>exact cU (thr q) (.rf ⟨n,o,st::r⟩)
 |_=>rfl
theorem Ez(n:Nm)(c:C)(t:Tt):(t.frm n c).toT=t.toT.frm n c.toD:=by
 cases t with
 |pl p=>exact cU (aX n) (.pl p)
 |rf p=>
  obtain⟨r,o,path⟩:=p;by_cases h:r=n
  ·simp only[Tt.frm,Tt.toT,T.frm,if_pos h];cases o<;>cases path<;>rfl
  ·simp only[Tt.frm,Tt.toT,T.frm,if_neg h]
 |_=>rfl
theorem tJ{f:Tt->Tt}{f':T->T}(h:∀t,(f t).toT=f' t.toT)(x:A1):(x.map f).toV=x.toV.map f':=by
 cases x with
 |c t=>simp only[A1.map,A1.toV,AV1.map,h]
 |agg ts=>
  simp only[A1.map,A1.toV,AV1.map]
  congr 1
  rw[WZ,WZ];exact W1 fun t _=>h t
theorem oA{f:Tt->Tt}{f':T->T}(h:∀t,(f t).toT=f' t.toT)(x:At):(x.map f).toV=x.toV.map f':=by
 cases x with
 |one x=>simp only[At.map,At.toV,AV.map,tJ h]
 |tup xs=>
  simp only[At.map,At.toV,AV.map]
  congr 1
  rw[WZ,WZ];exact W1 fun t _=>tJ h t
 |any=>rfl
theorem J8{q:Pl}{u:U}{l:List (El u)}{t:Tt}(h:t.hit (GI q)=false):t.frz q u l=t:=by
 cases t with
 |pl p=>
  simp only[Tt.hit,GI,XQ,Bool.or_false]at h;exact fO (t:=.pl p) h
 |rf p=>
  simp only[Tt.hit,GI,Xn,Yd]at h;obtain⟨n,o,path⟩:=p;cases path with
  |nil=>
   simp only[Tt.frz];rw[if_neg (by simpa using h.2)];exact fO (t:=.rf ⟨n,o,[]⟩) h.1
  |cons st r=>exact fO (t:=.rf ⟨n,o,st::r⟩) h.1
 |_=>rfl
theorem J0{n:Nm}{c:C}{t:Tt}(h:t.hit (aX n)=false):t.frm n c=t:=by
 cases t with
 |pl p=>exact fO (t:=.pl p) h
 |rf p=>
  simp only[Tt.hit,aX,decide_eq_false_iff_not]at h;simp only[Tt.frm];rw[if_neg h]
 |_=>rfl
theorem qP{bad:Bool->Pl->Bool}{f:Tt->Tt}(hf:∀{t:Tt},t.hit bad=false->f t=t){x:At}(h:x.hit bad=false):x.map f=x:=by
 have one:∀{y:A1},y.hit bad=false->y.map f=y:=by
  intro y hy;cases y with
  |c t=>simp only[A1.map,hf (show t.hit _=false from hy)]
  |agg ts=>
   simp only[A1.hit]at hy;simp only[A1.map]
   congr 1
   induction ts with
   |nil=>rfl
   |cons t ts ih=>
    simp only[List.any_cons,Yd]at hy;rw[List.map_cons,hf hy.1,ih hy.2]
 cases x with
 |one y=>simp only[At.map,one (show y.hit _=false from h)]
 |tup xs=>
  simp only[At.hit]at h;simp only[At.map]
  congr 1
  induction xs with
  |nil=>rfl
  |cons y ys ih=>
   simp only[List.any_cons,Yd]at h;rw[List.map_cons,one h.1,ih h.2]
 |any=>rfl
theorem JD{q:Pl}{u:U}{l:List (El u)}{x:At}(h:x.hit (GI q)=false):x.map (Tt.frz q u l)=x:=qP J8 h
theorem lD(n:Nm):∀m:List (Nm×Nat×Rt),bj m n=(bZ m n).map (·.2)
 |[]=>rfl
 |(k,j,r)::m=>by
  simp only[bj,bZ];by_cases h:k=n
  ·rw[if_pos h,if_pos h];rfl
  ·rw[if_neg h,if_neg h];exact lD n m
theorem qR(s:St)(q:Pl):Ext s (pV s q):=by
 unfold pV;split
 ·split
  ·rename_i u l _ _;refine⟨Xt _,px (·.hit (GI q)) (·.map (Tt.frz q u l)) (fun _ h=>JD h) (WN _),?_⟩;have hset:∀(m:List (Nm×Nat×Rt))off t,yI s.nx m (setCell m q.root s.nx off t):=by
    intro m off t;unfold setCell;split
    ·exact cq _ _ (WN _) m
    ·exact fun _ _ _ h _=>h
   exact((hset _ _ _).trans (dt (WN _))).trans (hset _ _ _)
  ·split
   ·exact⟨Xt _,px (·.hit (aX q.root)) (·.map (Tt.frm q.root _)) (fun _ h=>qP J0 h) (WN _),(l9 q.root).trans (dt (WN _))⟩
   ·exact Ext.refl s
  ·exact Ext.refl s
 ·exact Ext.refl s
theorem mX{m:List (Nm×Nat×Rt)}{n:Nm}{i off:Nat}{t:Tt}{r:Rt}(hr:bj m n=some r)(hh:r.hole=none) :
  toM (setCell m n i off t)=bE (toM m) n ⟨r.blk,(r.toR.cells).set off t.toT⟩:=by
 unfold setCell;rw[hr];dsimp only;rw[dJ]
 congr 1
 simp only[Rt.toR,hh,holed,Xp]
theorem zm{m:List (Nm×Nat×Rt)}{n:Nm}{i off:Nat}{t:Tt}{r:Rt}(hr:bj m n=some r):bj (setCell m n i off t) n=some { r with cells:=r.cells.set off t }:=by
 unfold setCell;rw[hr];dsimp only;induction m with
 |nil=>cases hr
 |cons x m ih=>
  obtain⟨k,j,v⟩:=x;simp only[cn];simp only[bj]at hr;by_cases h:k=n
  ·rw[if_pos h];simp only[bj];rw[if_pos h]
  ·rw[if_neg h]at hr⊢;simp only[bj];rw[if_neg h];exact ih hr
theorem x5(bad:Bool->Pl->Bool)(i:Nat)(n:Nm)(m:List (Nm×Nat×Rt)):bj (bP bad i m) n=(bj m n).map (·.kill bad):=by
 rw[lD,lD];unfold bP;rw[rJ (fun x=>(stp (x.2.2.cells.any (·.hit bad)) i x.2.1,x.2.2.kill bad))];cases bZ m n<;>rfl
theorem gI{u:U}(h:leaf u=true)(x:El u):(al u x).headD .any=(aj u x).toD:=by cases u<;>first|rfl|cases h
theorem Rq(ku vu:U)(l:List (El ku×El vu)):frL (l.map fun x=>((aj ku x.1).toD,Sh.fr,(aj vu x.2).toD))=true:=by
 unfold frL;rw[Yk,WY];exact fun _ _=>rfl
theorem qV{g:G}{s:St}{a:Act}{w:World}{H:FH}{γ:Gam}{F:Nm->Fp}(h:RX g s.toS a w H γ F)(q:Pl):∃H' F',RX g (pV s q).toS a w H' γ F':=by
 unfold pV;split
 ·rename_i r hpath hr;split
  ·rename_i sh u l hh hc;obtain⟨H',F',h'⟩:=Ek h q;refine⟨H',F',?_⟩;have ec:r.toR.cells[q.off]? = some (.ow sh (l.map (al u))):=by
    show(holed (r.cells.map Tt.toT) r.hole)[q.off]? = _
    rw[hh];show(r.cells.map Tt.toT)[q.off]? = _
    rw[WK,hc];rfl
   have eg:ab s.toS.m q.root=some r.toR:=aR hr
   have egp:aQ s.toS.m q=some (.ow sh (l.map (al u))):=by
    unfold aQ;rw[eg,hpath];exact ec
   have efrz:Ce s.toS q=⟨oY (AV.map (T.frz q (l.map (al u)))) s.toS.t,Cc s.toS.m q (l.map (al u))⟩:=by
    unfold Ce;rw[egp,hpath]
   rw[efrz]at h';have key:(⟨s.nx+1,s.t.map fun x=>(x.1,stp (x.2.2.hit (GI q)) s.nx x.2.1,x.2.2.map (Tt.frz q u l)),
     setCell (bP (thr q) s.nx (setCell s.m q.root s.nx q.off .any)) q.root s.nx q.off (.d (.li u l))⟩:St).toS=⟨oY (AV.map (T.frz q (l.map (al u)))) s.toS.t,Cc s.toS.m q (l.map (al u))⟩:=by
    refine bb.S_ext ?_ ?_
    ·simp only[St.toS,oY,WZ];exact W1 fun x _=>by simp only[Function.comp,oA (EA q u l)]
    ·have g1:=zm (i:=s.nx) (off:=q.off) (t:=.any) hr
     have g2:bj (bP (thr q) s.nx (setCell s.m q.root s.nx q.off .any)) q.root=some (({ r with cells:=r.cells.set q.off .any }:Rt).kill (thr q)):=by rw[x5,g1];rfl
     show toM (setCell _ q.root s.nx q.off (.d (.li u l)))=_
     rw[mX g2 hh,dc,mX hr hh];unfold Cc;have p1:aZ s.toS.m q .any=bE (toM s.m) q.root ⟨r.blk,r.toR.cells.set q.off Tt.any.toT⟩:=by
      unfold aZ;rw[eg,hpath];rfl
     rw[p1];have g3:ab (aC (thr q) (bE (toM s.m) q.root ⟨r.blk,r.toR.cells.set q.off Tt.any.toT⟩)) q.root=some ⟨r.blk,(r.toR.cells.set q.off Tt.any.toT).map (·.kill (thr q))⟩:=by
      have:=aR g2
      rw[dc,mX hr hh]at this;rw[this,sy];simp only[Rt.toR,hh,holed,Xp,Tt.toT]
     unfold aZ;rw[g3,hpath];dsimp only
     congr 1
     simp only[Rt.toR,Rt.kill,hh,holed,Xp,uj,XV,Tt.toT,C.toD]
   rw[key];exact h'
  ·rename_i ku vu l hh hc;split
   ·rename_i x hb hcs hlf;simp only[WI]at hlf;have hoff:q.off=0:=by
     have:=ah hc
     rw[hcs]at this;simpa using this
    have hx:x=.mp ku vu l:=by rw[hcs,hoff]at hc;simpa using hc
    have hr2:ab s.toS.m q.root=some ⟨false,[.mp (l.map fun x=>((aj ku x.1).toD,Sh.fr,(aj vu x.2).toD))]⟩:=by
     have:=aR hr
     unfold Rt.toR at this;rw[hb,hcs,hh,hx]at this;exact this
    obtain⟨H',F',h'⟩:=Qo h hr2 (Rq ku vu l);refine⟨H',F',?_⟩;have e1:mpD (l.map fun x=>((aj ku x.1).toD,Sh.fr,(aj vu x.2).toD))=(C.mp ku vu (some l)).toD:=by
     show D.mp (some ((l.map _).map _))=D.mp (some (l.map _))
     rw[WZ]
     congr 2
     refine W1 fun x _=>?_
     show((aj ku x.1).toD,(aj vu x.2).toD)=((al ku x.1).headD .any,(al vu x.2).headD .any)
     rw[gI hlf.1,gI hlf.2]
    rw[e1]at h';have key:(Oo s q.root (.mp ku vu (some l))).toS=frzm s.toS q.root (C.mp ku vu (some l)).toD:=by
     refine bb.S_ext ?_ ?_
     ·simp only[St.toS,Oo,oY,WZ];exact W1 fun x _=>by simp only[Function.comp,oA (Ez q.root _)]
     ·have h2:=dc (aX q.root) s.nx (dC s.m q.root)
      rw[kz q.root s.m (d9 h)]at h2;exact h2
    rw[key];exact h'
   ·exact⟨H,F,h⟩
  ·exact⟨H,F,h⟩
 ·exact⟨H,F,h⟩
section
variable {g:G} {a:Act} {w:World} {γ:Gam}
theorem xF{s:St}{H:FH}{F:Nm->Fp}(h:RX g s.toS a w H γ F)(t:Tt):∃H' F',RX g (I0 s t).toS a w H' γ F':=by
 cases t with
 |rf p=>exact qV h p
 |_=>exact⟨H,F,h⟩
theorem uf:∀(ts:List Tt)(s:St)(H:FH)(F:Nm->Fp),RX g s.toS a w H γ F->∃H' F',RX g (zj s ts).toS a w H' γ F'
 |[],_,H,F,h=>⟨H,F,h⟩
 |t::ts,s,H,F,h=>by
  obtain⟨H1,F1,h1⟩:=xF h t;exact uf ts _ H1 F1 h1
theorem e9{s:St}{H:FH}{F:Nm->Fp}(h:RX g s.toS a w H γ F)(v:At):∃H' F',RX g (dV s v).toS a w H' γ F':=by
 cases v with
 |one x=>cases x with
  |c t=>exact xF h t
  |agg ts=>exact uf ts s H F h
 |_=>exact⟨H,F,h⟩
theorem cE:∀(vs:List At)(s:St)(H:FH)(F:Nm->Fp),RX g s.toS a w H γ F->∃H' F',RX g (bw s vs).toS a w H' γ F'
 |[],_,H,F,h=>⟨H,F,h⟩
 |v::vs,s,H,F,h=>by
  obtain⟨H1,F1,h1⟩:=e9 h v;exact cE vs _ H1 F1 h1
theorem Bg{s s':St}{H:FH}{F:Nm->Fp}(hX:RX g s.toS a w H γ F)(hf:∀(g':G) (H:FH) (F:Nm->Fp),RX g' s.toS a w H γ F->∃H' F',RX g' s'.toS a w H' γ F') :
  ∃H' F',RX g s'.toS a w H' γ F'/\∀b o y,H b o=some y->H' b o=some y:=by
 let g':G:=⟨g.nt,w,H,tot F s.toS.m,g.out,g.ex,g.dfs⟩
 have hX2:RX g' s.toS a w H γ F:=⟨hX.mem,Fr.refl' rfl rfl rfl rfl (fun _ h=>h),hX.nt,⟨hX.df.1,hX.df.2.1,ea hX⟩,hX.t⟩
 obtain⟨H',F',h⟩:=hf g' H F hX2;exact⟨H',F',⟨h.mem,hX.fr.trans h.fr,h.nt,⟨h.df.1,h.df.2.1,hX.df.2.2⟩,h.t⟩,h.fr.hold⟩
theorem nk:∀(ts:List Tt)(s:St)(p:Pl)(H:FH)(F:Nm->Fp),RX g s.toS a w H γ F->∃H' F',RX g (sH s p ts).toS a w H' γ F'
 |[],s,_,H,F,h=>⟨H,F,h⟩
 |t::ts,s,p,H,F,h=>by
  cases t with
  |rf q=>
   simp only[sH];split
   ·obtain⟨H1,F1,h1⟩:=qV h q;exact nk ts _ _ H1 F1 h1
   ·exact nk ts _ _ H F h
  |_=>exact nk ts s (p.add 1) H F h
theorem JU{s:St}{H:FH}{F:Nm->Fp}(h:RX g s.toS a w H γ F)(x v:At):∃H' F',RX g (xY s x v).toS a w H' γ F':=by
 unfold xY;split
 ·exact nk _ _ _ H F h
 ·exact⟨H,F,h⟩
theorem xj(s:St)(t:Tt):Ext s (I0 s t):=by
 cases t with
 |rf p=>exact qR s p
 |_=>exact Ext.refl s
theorem tT:∀(ts:List Tt)(s:St),Ext s (zj s ts)
 |[],s=>Ext.refl s
 |t::ts,s=>(xj s t).trans (tT ts _)
theorem eY(s:St)(v:At):Ext s (dV s v):=by
 cases v with
 |one x=>cases x with
  |c t=>exact xj s t
  |agg ts=>exact tT ts s
 |_=>exact Ext.refl s
theorem nh:∀(ts:List Tt)(s:St)(p:Pl),Ext s (sH s p ts)
 |[],s,_=>Ext.refl s
 |t::ts,s,p=>by
  cases t with
  |rf q=>
   simp only[sH];split
   ·exact(qR s q).trans (nh ts _ _)
   ·exact nh ts _ _
  |_=>exact nh ts s (p.add 1)
theorem JI(s:St)(x v:At):Ext s (xY s x v):=by
 unfold xY;split
 ·exact nh _ _ _
 ·exact Ext.refl s
theorem bN:∀(vs:List At)(s:St),Ext s (bw s vs)
 |[],s=>Ext.refl s
 |v::vs,s=>(eY s v).trans (bN vs _)
theorem ug{s:St}{H:FH}{F:Nm->Fp}(h:RX g s.toS a w H γ F)(o:Oper):∃H' F',RX g (wY s o).toS a w H' γ F':=by
 unfold wY;split
 ·exact e9 h _
 ·exact e9 h _
 ·exact⟨H,F,h⟩
theorem AE(s:St)(o:Oper):Ext s (wY s o):=by
 unfold wY;split
 ·exact eY s _
 ·exact eY s _
 ·exact Ext.refl s
theorem xX{s:S}{t:Tt}(h:t.noRf=true):Oq s t.toT=s:=by
 cases t with
 |rf p=>cases h
 |_=>rfl
theorem uW{s:S}:∀{ts:List Tt},ts.all Tt.noRf=true->xZ s (ts.map Tt.toT)=s
 |[],_=>rfl
 |t::ts,h=>by
  simp only[W0,WI]at h;simp only[List.map_cons,xZ];rw[xX h.1,uW h.2]
theorem rC{s:S}{v:At}(h:v.noRf=true):Cf s v.toV=s:=by
 cases v with
 |one x=>cases x with
  |c t=>exact xX h
  |agg ts=>exact uW h
 |_=>rfl
theorem dE{s:S}:∀{vs:List At},vs.all At.noRf=true->iQ s (vs.map At.toV)=s
 |[],_=>rfl
 |v::vs,h=>by
  simp only[W0,WI]at h;simp only[List.map_cons,iQ];rw[rC h.1,dE h.2]
theorem FZ{s:St}{H:FH}{F:Nm->Fp}(hX:RX g s.toS a w H γ F){x:Operand}(hc:ax x=true) :
  (∀p,evA s x=.one (.c (.rf p))->okP (toM s.m) p)/\(∀p,evA s x=.one (.c (.pl p))->okP (toM s.m) p):=by
 have h:=aA hX hc
 rw[af hc]at h;refine⟨fun p e=>?_,fun p e=>?_⟩
 ·rw[e]at h;obtain⟨_,h1,_⟩:=h;exact mK h1
 ·rw[e]at h;obtain⟨_,h1,_⟩:=h;exact F6 h1
theorem rD{gd:Option (Nat×Bool)}{n:Nat}{q q':Prop}(hq:q->q')(h:gift gd n q):gift gd n q':=by
 cases gd with
 |none=>exact fun hh=>hq (h hh)
 |some _=>exact hq h
theorem yc{gd:Option (Nat×Bool)}{m:List (Nm×Nat×Rt)}{x:At}{k k':Nat->Prop}(hk:∀n,k n->k' n)(h:CR gd m x k):CR gd m x k':=by
 unfold CR at h⊢;split at h
 ·exact rD (hk _) h
 ·exact rD (hk _) h
 ·exact hk _ h
 ·split at h
  ·exact rD (hk _) h
  ·exact h.elim
 ·exact h.elim
theorem Lc(x:At):nE x.toV=Fb x:=by
 cases x with
 |one x=>cases x with
  |c t=>cases t with
   |d c=>cases c<;>rfl
   |_=>rfl
  |agg ts=>rfl
 |_=>rfl
theorem PA{e:En}{o:Oper}{s:St}{k:At->Prop}{H:FH}{F:Nm->Fp}(hX:RX g s.toS a w H γ F)(hc:opC g.nt o=true)(h:qT e o s k):qK e.P o s.toS (up k):=by
 unfold opC at hc;rw[WI]at hc;obtain⟨_,hc⟩:=hc;unfold qT at h;unfold qK;cases ho:o.op with
 |move x=>rw[ho]at h hc;exact⟨_,af hc,h⟩
 |assign x=>rw[ho]at h hc;exact⟨_,af hc,h⟩
 |pick c x y=>
  rw[ho]at h hc;simp only[WI]at hc;dsimp only;rw[af hc.1.1,af hc.1.2,af hc.2];exact Pm h
 |binOp op t x y z=>
  rw[ho]at h hc;simp only[WI]at hc;dsimp only;rw[af hc.1,af hc.2];exact QF h
 |unOp op t x=>rw[ho]at h hc;dsimp only at hc⊢;rw[af hc];exact U1 h
 |load t x=>rw[ho]at h hc;dsimp only at hc⊢;rw[af hc];exact vi (FZ hX hc).2 h
 |field t x i=>rw[ho]at h hc;dsimp only at hc⊢;rw[af hc];exact K4 h
 |fieldAddr t x i=>rw[ho]at h hc;dsimp only at hc⊢;rw[af hc];exact wJ h
 |indexAddr t x i=>
  rw[ho]at h hc;simp only[WI]at hc;dsimp only;rw[af hc.1,af hc.2];exact oh (FZ hX hc.1).1 h
 |index t x i=>
  rw[ho]at h hc;simp only[WI]at hc;dsimp only at h⊢;split at h
  ·rename_i ht;rw[af hc.1,af hc.2];exact⟨ht,Me h⟩
  ·exact h.elim
 |extract x i=>rw[ho]at h hc;dsimp only at hc⊢;rw[af hc];exact BZ h
 |convert su du x=>rw[ho]at h hc;dsimp only at hc⊢;rw[af hc];exact Ob h
 |slice t x lo hi mx=>
  rw[ho]at h hc;cases mx with
  |some _=>exact h.elim
  |none=>
   dsimp only at h hc⊢;simp only[WI]at hc;have opt:∀(y:Option Operand),y.all ax=true->y.map (ev s.toS)=(y.map (evA s)).map At.toV:=by
    intro y hy;cases y with
    |none=>rfl
    |some y=>simp only[Option.map_some];rw[af (by simpa using hy)]
   rw[af hc.1.1,opt lo hc.1.2,opt hi hc.2];exact L7 h
 |nilCheck x=>rw[ho]at h hc;dsimp only at hc⊢;rw[af hc];exact zM h
 |build t ps=>rw[ho]at h hc;dsimp only at hc⊢;rw[rT hc];exact Ku h
 |call c=>
  rw[ho]at h hc;obtain⟨callee,args,argTypes⟩:=c;obtain⟨args⟩:=args;obtain⟨argTypes⟩:=argTypes;dsimp only at h hc⊢;cases callee with
  |builtin b=>
   cases b with
   |len=>
    match args,argTypes,h with
    |[x],[t],h=>
     have h1:ax x=true:=by simpa using hc
     dsimp only at h⊢;split at h
     ·rename_i hl;rw[af h1,Lc];refine⟨hl,?_⟩;exact RS (FZ hX h1).1 (yc (fun n hn=>⟨_,rfl,hn⟩) h)
     ·exact h.elim
   |_=>exact h.elim
  |_=>exact h.elim
 |_=>rw[ho]at h;exact h.elim
end
theorem nR{u:U}{x x':El u}{off:Nat}{c:C}(h:Dz u x off c=some x'):(∃d,(al u x)[off]? = some d)/\al u x'=(al u x).set off c.toD:=by
 unfold Dz at h;split at h
 ·rename_i c0 hc;have e:=r9 h
  refine⟨⟨c0.toD,by rw[<- bq,WK,hc];rfl⟩,?_⟩;rw[<- bq,<- e,<- bq,Xp]
 ·cases h
theorem DD:∀{path:List Step}{sub:List Sh}{u:U}{l l':List (El u)}{t:Tt}{k:Prop}{K:List (List D)->Prop},mL sub u l path k->yv sub u l t path=some l'->K (l'.map (al u))->fF sub (l.map (al u)) t.toT path K
 |[],_,_,_,_,_,_,_,h,_,_=>h.elim
 |[st],sub,u,l,l',t,k,K,h,ht,hK=>by
  obtain⟨h1,_⟩:=h;simp only[yv]at ht;simp only[fF];rw[ij l h1];dsimp only;split at ht
  ·rename_i c hs;split at ht
   ·rename_i x hx;simp only[WG]at ht;subst ht;obtain⟨⟨d,hd⟩,e⟩:=nR hx;rw[hs,hd];dsimp only;refine⟨trivial,?_⟩;rw[Xp,e]at hK;exact hK
   ·cases ht
  ·rename_i hs;split at ht
   ·rename_i u' l0 hf;split at ht
    ·rename_i x hx;simp only[WG]at ht;subst ht;obtain⟨⟨d,hd⟩,e⟩:=nR hx;rw[hs,hd];dsimp only;refine⟨trivial,?_⟩;rw[Xp,e]at hK;exact hK
    ·cases ht
   ·cases ht
  ·cases ht
 |st::st'::r,sub,u,l,l',t,k,K,h,ht,hK=>by
  simp only[yv]at ht;simp only[fF];simp only[mL]at h;split at ht
  ·rename_i s u' l0 e1 e2;rw[e1,e2]at h;obtain⟨h1,h4⟩:=h;rw[ij l h1];dsimp only;split at ht
   ·rename_i l2 hl2;split at ht
    ·rename_i x hx;simp only[WG]at ht;subst ht;obtain⟨_,e⟩:=nR hx;have e3:(al u (l.getD st.idx (dflt u)))[st.off]? = some (.li (l0.map (al u'))):=by
      rw[<- bq,WK,e2];rfl
     rw[e1,e3];dsimp only;refine DD h4 hl2 ?_;rw[Xp,e]at hK;exact hK
    ·cases ht
   ·cases ht
  ·cases ht
mutual
theorem PP:∀{a b:Sh},DH a b=true->a=b
 |.fr,.fr,_=>rfl
 |.ow a,.ow b,h=>by simp only[DH]at h;rw[iF h]
 |.fr,.ow _,h=>by simp[DH]at h
 |.ow _,.fr,h=>by simp[DH]at h
theorem iF:∀{a b:List Sh},ia a b=true->a=b
 |[],[],_=>rfl
 |a::r,b::q,h=>by
  simp only[ia,WI]at h;rw[PP h.1,iF h.2]
 |[],_::_,h=>by simp[ia]at h
 |_::_,[],h=>by simp[ia]at h
end
theorem B1:∀{path:List Step}{sub:List Sh}{u:U}{l l':List (El u)}{sh:List Sh}{v:U}{lv:List (El v)}{k:Prop}{K:List (List D)->Prop},mL sub u l path k->xR sub u l sh v lv path=some l'->K (l'.map (al u)) ->
  fF sub (bF sub (l.map (al u)) .any path) (.ow sh (lv.map (al v))) path K
 |[],_,_,_,_,_,_,_,_,_,h,_,_=>h.elim
 |[st],sub,u,l,l',sh,v,lv,k,K,h,ht,hK=>by
  obtain⟨h1,_⟩:=h;have h1':st.idx < (l.map (al u)).length:=by rw[WJ];exact h1
  simp only[xR]at ht;split at ht
  ·rename_i s c hs hc;split at ht
   ·rename_i x hsh hx;simp only[WG]at ht;subst ht;obtain⟨⟨d,hd⟩,e⟩:=nR hx;have hlt:st.off < (al u (l.getD st.idx (dflt u))).length:=ah hd
    have hset:bF sub (l.map (al u)) .any [st]=(l.map (al u)).set st.idx ((al u (l.getD st.idx (dflt u))).set st.off .any):=by
     simp only[bF];rw[gN l h1]
    rw[hset];simp only[fF];rw[W5 h1'];dsimp only;rw[hs,W5 hlt];dsimp only;refine⟨iF hsh,?_⟩;rw[XV,XV];rw[Xp,e]at hK;exact hK
   ·cases ht
  ·cases ht
 |st::st'::r,sub,u,l,l',sh,v,lv,k,K,h,ht,hK=>by
  simp only[xR]at ht;simp only[mL]at h;split at ht
  ·rename_i s u' l0 e1 e2;rw[e1,e2]at h;obtain⟨h1,h4⟩:=h;have h1':st.idx < (l.map (al u)).length:=by rw[WJ];exact h1
   split at ht
   ·rename_i l2 hl2;split at ht
    ·rename_i x hx;simp only[WG]at ht;subst ht;obtain⟨_,e⟩:=nR hx;have e3:(al u (l.getD st.idx (dflt u)))[st.off]? = some (.li (l0.map (al u'))):=by
      rw[<- bq,WK,e2];rfl
     have hlt:st.off < (al u (l.getD st.idx (dflt u))).length:=ah e3
     have e4:(al u (l.getD st.idx (dflt u))).getD st.off default=.li (l0.map (al u')):=by rw[List.getD,e3];rfl
     have hset:bF sub (l.map (al u)) .any (st::st'::r)=(l.map (al u)).set st.idx ((al u (l.getD st.idx (dflt u))).set st.off (.li (bF s (l0.map (al u')) .any (st'::r)))):=by
      simp only[bF];rw[gN l h1,e1,e4]
     rw[hset];simp only[fF];rw[W5 h1'];dsimp only;rw[e1,W5 hlt];dsimp only;refine B1 h4 hl2 ?_;rw[XV,XV];rw[Xp,e]at hK;exact hK
    ·cases ht
   ·cases ht
  ·cases ht
theorem zT:∀{path:List Step}{sub:List Sh}{u:U}{l:List (El u)}{k:Prop},mL sub u l path k->k
 |[],_,_,_,_,h=>h.elim
 |[st],_,_,_,_,h=>h.2
 |st::st'::r,sub,u,l,k,h=>by
  simp only[mL]at h;split at h
  ·exact zT h.2
  ·exact h.elim
theorem nN:∀{path:List Step}{sub:List Sh}{u:U}{l:List (El u)}{k k':Prop},(k->k')->mL sub u l path k->mL sub u l path k'
 |[],_,_,_,_,_,_,h=>h.elim
 |[st],_,_,_,_,_,hk,h=>⟨h.1,hk h.2⟩
 |st::st'::r,sub,u,l,k,k',hk,h=>by
  simp only[mL]at h⊢;split at h
  ·exact⟨h.1,nN hk h.2⟩
  ·exact h.elim
theorem xQ:∀{a b:List Step}{k:Prop},ly a b k->a=b/\k
 |[],[],_,h=>⟨rfl,h⟩
 |x::r,y::q,k,h=>by
  simp only[ly]at h;split at h
  ·rename_i hb;rw[WI]at hb;obtain⟨e,hk⟩:=xQ h.2;obtain⟨a1,a2,a3⟩:=x;obtain⟨b1,b2,b3⟩:=y;have h1:a1=b1:=h.1
   have h2:a2=b2:=WS hb.1
   have h3:a3=b3:=WS hb.2
   subst h1;subst h2;subst h3;subst e;exact⟨rfl,hk⟩
  ·exact h.elim
 |[],_::_,_,h=>h.elim
 |_::_,[],_,h=>h.elim
theorem sF:∀{a b:List Step}{k k':Prop},(k->k')->ly a b k->ly a b k'
 |[],[],_,_,hk,h=>hk h
 |x::r,y::q,k,k',hk,h=>by
  simp only[ly]at h⊢;split at h
  ·exact⟨h.1,sF hk h.2⟩
  ·exact h.elim
 |[],_::_,_,_,_,h=>h.elim
 |_::_,[],_,_,_,h=>h.elim
theorem u5:∀{path:List Step}{sub:List Sh}{u:U}{l:List (El u)}{sh:List Sh}{v:U}{lv:List (El v)},okO sub (l.map (al u)) path->inT sub u l 1 path=some [.ow sh v lv]->aY sub (l.map (al u)) path=some (.ow sh,.li (lv.map (al v)))
 |[],_,_,_,_,_,_,h,_=>h.elim
 |[st],sub,u,l,sh,v,lv,h,ht=>by
  obtain⟨h1,h2,h3⟩:=h;rw[WJ]at h1;simp only[inT]at ht;split at ht
  ·simp only[WG]at ht;have e1:sub[st.off]? = some sub[st.off]:=WH h3
   cases hc:(flat u (l.getD st.idx (dflt u)))[st.off]? with
   |none=>
    have:((flat u (l.getD st.idx (dflt u))).drop st.off).take 1=[]:=by
     rw[List.drop_eq_nil_of_le (List.getElem?_eq_none_iff.1 hc)];rfl
    rw[this]at ht;simp at ht
   |some c=>
    have hlt:=ah hc
    have ec:(flat u (l.getD st.idx (dflt u)))[st.off]=c:=by
     rw[WH hlt]at hc;exact Option.some.inj hc
    have d1:(sub.drop st.off).take 1=[sub[st.off]]:=by rw[XN h3];rfl
    have d2:((flat u (l.getD st.idx (dflt u))).drop st.off).take 1=[c]:=by rw[XN hlt,ec];rfl
    rw[d1,d2]at ht;simp only[List.zipWith_cons_cons,List.zipWith_nil_left,List.cons.injEq,and_true]at ht;simp only[aY,e1,Option.map_some,gN l h1];have e3:(al u (l.getD st.idx (dflt u))).getD st.off default=c.toD:=by
     rw[List.getD,<- bq,WK,hc];rfl
    rw[e3];generalize sub[st.off]=s0 at ht;cases s0 with
    |fr=>cases ht
    |ow s1=>
     cases c with
     |li u1 l1=>
      simp only[Tt.ow.injEq]at ht;obtain⟨rfl,rfl,e⟩:=ht;rw[eq_of_heq e];rfl
     |_=>cases ht
  ·cases ht
 |st::st'::r,sub,u,l,sh,v,lv,h,ht=>by
  obtain⟨⟨h1,h2,h3⟩,h4⟩:=h;rw[WJ]at h1;simp only[inT]at ht;split at ht
  ·rename_i s u' l0 e1 e2;have e3:(al u (l.getD st.idx (dflt u))).getD st.off default=.li (l0.map (al u')):=by
    rw[List.getD,<- bq,WK,e2];rfl
   rw[e1,gN l h1,e3]at h4;simp only[aY];rw[e1,gN l h1,e3];exact u5 h4 ht
  ·cases ht
theorem Cn{cells:List Tt}{off:Nat}{sub:List Sh}{u:U}{l:List (El u)}(st:Step)(q:List Step)(h:cells[off]? = some (.ow sub u l)) :
  holed (cells.map Tt.toT) (some (off,st,q))=(cells.map Tt.toT).set off (.ow sub (bF sub (l.map (al u)) .any (st::q))):=by
 unfold holed;dsimp only;rw[WK,h];rfl
def vI(row:List D)(off:Nat):List D->List D
 |[]=>row
 |d::r=>vI (row.set off d) (off+1) r
def fG(sub:List Sh)(l:List (List D)):List T->List Step->(List (List D)->Prop)->Prop
 |[],_,K=>K l
 |t::ts,path,K=>fF sub l t path fun l1=>fG sub l1 ts (aI path 1) K
theorem jM:∀{path:List Step}{sub:List Sh}{l:List (List D)}{t:T}{K K':List (List D)->Prop},(∀x,K x->K' x)->fF sub l t path K->fF sub l t path K'
 |[],_,_,_,_,_,_,h=>h.elim
 |[st],sub,l,t,K,K',hk,h=>by
  simp only[fF]at h⊢;split at h
  ·split at h
   ·exact⟨h.1,hk _ h.2⟩
   ·exact⟨h.1,hk _ h.2⟩
   ·exact h.elim
  ·exact h.elim
 |st::st'::r,sub,l,t,K,K',hk,h=>by
  simp only[fF]at h⊢;split at h
  ·split at h
   ·exact jM (fun x hx=>hk _ hx) h
   ·exact h.elim
  ·exact h.elim
theorem mY:∀{ts:List T}{path:List Step}{sub:List Sh}{l:List (List D)}{K K':List (List D)->Prop},(∀x,K x->K' x)->fG sub l ts path K->fG sub l ts path K'
 |[],_,_,_,_,_,hk,h=>hk _ h
 |t::ts,path,sub,l,K,K',hk,h=>jM (fun x hx=>mY hk hx) h
def Ct:T->Bool
 |.d _=>true
 |.nil=>true
 |_=>false
theorem wi{sub:List Sh}{idx esz:Nat}:∀{ts:List T}{l:List (List D)}{off:Nat}{row:List D}{K:List (List D)->Prop},l[idx]? = some row->ts.all Ct=true->frs sub off ts.length=true->off+ts.length<=row.length ->
  K (l.set idx (vI row off (ts.map T.toD)))->fG sub l ts [⟨idx,esz,off⟩] K
 |[],l,off,row,K,hl,_,_,_,hK=>by
  have:l.set idx row=l:=by
   apply XI
   intro n;rw[XA];split
   ·rename_i e;subst e;have hlt:=ah hl
    rw[if_pos hlt];exact hl.symm
   ·rfl
  simp only[List.map_nil,vI,this]at hK;exact hK
 |t::ts,l,off,row,K,hl,hd,hf,hlen,hK=>by
  simp only[W0,WI]at hd;simp only[WL]at hlen hf;simp only[frs]at hf;cases hs:sub[off]? with
  |none=>rw[hs]at hf;cases hf
  |some s=>
   rw[hs]at hf;cases s with
   |ow _=>cases hf
   |fr=>
    dsimp only at hf;have hoff:off<row.length:=by omega
    simp only[fG,fF];rw[hl];dsimp only;rw[hs,WH hoff];dsimp only;refine⟨by have h0:=hd.1;cases t<;>first|trivial|(simp[Ct]at h0),?_⟩;have hlt:=ah hl
    show fG sub _ ts [⟨idx,esz,off+1⟩] K
    refine wi (row:=row.set off t.toD) (W5 hlt) hd.2 hf (by rw[List.length_set];omega) ?_;rw[XV];exact hK
theorem yR(st st':Step)(r:List Step)(n:Nat):aI (st::st'::r) n=st::aI (st'::r) n:=rfl
theorem sR{sub s:List Sh}{st st':Step}:∀{ts:List T}{r:List Step}{l l':List (List D)}{row:List D}{K:List (List D)->Prop},l[st.idx]? = some row->sub[st.off]? = some (.ow s)->row[st.off]? = some (.li l') ->
  fG s l' ts (st'::r) (fun l''=>K (l.set st.idx (row.set st.off (.li l''))))->fG sub l ts (st::st'::r) K
 |[],r,l,l',row,K,hl,hs,hc,h=>by
  have e1:row.set st.off (.li l')=row:=by
   apply XI
   intro n;rw[XA];split
   ·rename_i e;subst e;rw[if_pos (ah hc)];exact hc.symm
   ·rfl
  have e2:l.set st.idx row=l:=by
   apply XI
   intro n;rw[XA];split
   ·rename_i e;subst e;rw[if_pos (ah hl)];exact hl.symm
   ·rfl
  simp only[fG,e1,e2]at h;exact h
 |t::ts,r,l,l',row,K,hl,hs,hc,h=>by
  simp only[fG,fF]at h⊢;rw[hl];dsimp only;rw[hs,hc];dsimp only;refine jM (fun l1 h1=>?_) h;rw[yR];have hlt:=ah hl
  have hlt2:=ah hc
  obtain⟨st2,r2,e⟩:∃st2 r2,aI (st'::r) 1=st2::r2:=by
   cases r with
   |nil=>exact⟨_,_,rfl⟩
   |cons a b=>exact⟨_,_,rfl⟩
  rw[e]at h1⊢;refine sR (row:=row.set st.off (.li l1)) (l':=l1) (W5 hlt) hs (W5 hlt2) ?_;refine mY (fun l2 h2=>?_) h1;rw[XV,XV];exact h2
theorem vH:∀{ts:List Tt}{cs cs':List C}{off:Nat},iW cs off ts=some cs'->cs'.map C.toD=vI (cs.map C.toD) off ((ts.map Tt.toT).map T.toD)/\(ts.map Tt.toT).all Ct=true/\(ts≠[]->off+ts.length<=cs.length)/\cs'.length=cs.length
 |[],cs,cs',off,h=>by
  simp only[iW,WG]at h;subst h;exact⟨rfl,rfl,fun h=>(h rfl).elim,rfl⟩
 |t::r,cs,cs',off,h=>by
  have step:∀{c:C},(∃c0,cs[off]? = some c0)->iW (cs.set off c) (off+1) r=some cs'->t.toT.toD=c.toD->Ct t.toT=true ->
    cs'.map C.toD=vI (cs.map C.toD) off (((t::r).map Tt.toT).map T.toD)/\((t::r).map Tt.toT).all Ct=true/\((t::r)≠[]->off+(t::r).length<=cs.length)/\cs'.length=cs.length:=by
   rintro c ⟨c0,hc0⟩ h2 h3 h4
   obtain⟨k1,k2,k3,k4⟩:=vH h2;have hlt:=ah hc0
   refine⟨?_,by simp only[List.map_cons,W0,h4,k2,Ye],fun _=>?_,by rw[k4,List.length_set]⟩
   ·rw[k1];simp only[List.map_cons,vI,h3,Xp]
   ·simp only[WL];by_cases hr:r=[]
    ·subst hr;simp only[WQ];omega
    ·have:=k3 hr;rw[List.length_set]at this;omega
  cases t with
  |d c=>
   simp only[iW]at h;split at h
   ·cases h
   ·rename_i hc;exact step ⟨_,hc⟩ h rfl rfl
   ·cases h
  |nil=>
   simp only[iW]at h;split at h
   ·rename_i u' l0 hc;exact step ⟨_,hc⟩ h rfl rfl
   ·cases h
  |_=>simp[iW]at h
theorem DE:∀{path:List Step}{sub:List Sh}{u:U}{l l':List (El u)}{ts:List Tt}{k:Prop}{K:List (List D)->Prop},ts≠[]->mL sub u l path k->oy sub u l ts path=some l'->K (l'.map (al u))->fG sub (l.map (al u)) (ts.map Tt.toT) path K
 |[],_,_,_,_,_,_,_,_,h,_,_=>h.elim
 |[st],sub,u,l,l',ts,k,K,hne,h,ht,hK=>by
  obtain⟨h1,_⟩:=h;simp only[oy]at ht;split at ht
  ·rename_i cs hf ho;split at ht
   ·rename_i x hx;simp only[WG]at ht;subst ht;obtain⟨k1,k2,k3,k4⟩:=vH ho;have e:=r9 hx
    obtain⟨idx,esz,off⟩:=st;refine wi (ij l h1) k2 (by rw[WJ];exact hf) ?_ ?_
    ·rw[WJ,<- bq,WJ];exact k3 hne
    ·rw[Xp]at hK;have e2:al u x=vI (al u (l.getD idx (dflt u))) off ((ts.map Tt.toT).map T.toD):=by
      rw[<- bq,<- e,k1,bq]
     rw[e2]at hK;exact hK
   ·cases ht
  ·cases ht
 |st::st'::r,sub,u,l,l',ts,k,K,hne,h,ht,hK=>by
  simp only[oy]at ht;simp only[mL]at h;split at ht
  ·rename_i s u' l0 e1 e2;rw[e1,e2]at h;obtain⟨h1,h4⟩:=h;split at ht
   ·rename_i l2 hl2;split at ht
    ·rename_i x hx;simp only[WG]at ht;subst ht;obtain⟨_,e⟩:=nR hx;have e3:(al u (l.getD st.idx (dflt u)))[st.off]? = some (.li (l0.map (al u'))):=by
      rw[<- bq,WK,e2];rfl
     refine sR (ij l h1) e1 e3 (DE hne h4 hl2 ?_);rw[Xp,e]at hK;exact hK
    ·cases ht
   ·cases ht
  ·cases ht
theorem yu:∀{m:Mm}{n:Nm}{r r':Root},bE (bE m n r) n r'=bE m n r'
 |[],_,_,_=>rfl
 |(k,x)::m,n,r,r'=>by
  simp only[bE];by_cases h:k=n
  ·rw[if_pos h,if_pos h];simp only[bE,if_pos h]
  ·rw[if_neg h,if_neg h];simp only[bE,if_neg h,yu]
theorem yt:∀{m:Mm}{n:Nm}{r:Root},ab m n=some r->bE m n r=m
 |[],_,_,h=>by simp[ab]at h
 |(k,x)::m,n,r,h=>by
  simp only[ab]at h;simp only[bE];by_cases hk:k=n
  ·rw[if_pos hk]at h⊢;rw[Option.some.inj h]
  ·rw[if_neg hk]at h⊢;rw[yt h]
theorem sT{K:S->Prop}:∀{ts:List T}{s:S}{p:Pl}{r:Root}{sub:List Sh}{l:List (List D)}{st:Step}{q:List Step},ab s.m p.root=some r->p.path=st::q->r.cells[p.off]? = some (.ow sub l)->ts.all Ct=true->(∀t∈ts,t≠.d .any) ->
  fG sub l ts (st::q) (fun l'=>K ⟨s.t,bE s.m p.root { r with cells:=r.cells.set p.off (.ow sub l') }⟩)->cz s p ts K
 |[],s,p,r,sub,l,st,q,hr,hp,hc,_,_,h=>by
  have e1:r.cells.set p.off (.ow sub l)=r.cells:=by
   apply XI
   intro n;rw[XA];split
   ·rename_i e;subst e;rw[if_pos (ah hc)];exact hc.symm
   ·rfl
  simp only[fG,e1]at h;have:bE s.m p.root r=s.m:=yt hr
  rw[show({ blk:=r.blk,cells:=r.cells }:Root)=r from rfl,this]at h;exact h
 |t::ts,s,p,r,sub,l,st,q,hr,hp,hc,hd,hn,h=>by
  simp only[W0,WI]at hd;have key:cz s p (t::ts) K=o7 s.m p t fun m'=>cz ⟨s.t,m'⟩ (p.add 1) ts K:=by
   cases t with
   |d c=>cases c with
    |any=>exact((hn _ (by simp)) rfl).elim
    |_=>rfl
   |nil=>rfl
   |_=>have:=hd.1;simp[Ct]at this
  rw[key];unfold o7;rw[hr];dsimp only;rw[hp,hc];dsimp only;simp only[fG]at h;refine jM (fun l1 h1=>?_) h;have hlt:=ah hc
  have ep:(p.add 1).root=p.root/\(p.add 1).off=p.off/\(p.add 1).path=aI (st::q) 1:=by
   obtain⟨pr,po,pp⟩:=p;dsimp only at hp;subst hp;exact⟨rfl,rfl,rfl⟩
  obtain⟨st2,q2,e⟩:∃st2 r2,aI (st::q) 1=st2::r2:=by
   cases q with
   |nil=>exact⟨_,_,rfl⟩
   |cons a b=>exact⟨_,_,rfl⟩
  rw[e]at h1;refine sT (s:=⟨s.t,bE s.m p.root { r with cells:=r.cells.set p.off (.ow sub l1) }⟩) (p:=p.add 1) (r:={ r with cells:=r.cells.set p.off (.ow sub l1) }) (sub:=sub) (l:=l1) (st:=st2) (q:=q2) ?_ (ep.2.2.trans e) ?_ hd.2 (fun t ht=>hn t (by simp[ht])) ?_
  ·rw[ep.1];show ab (bE s.m p.root _) p.root=_
   rw[dP hr,if_pos rfl]
  ·rw[ep.2.1];exact W5 hlt
  ·refine mY (fun l2 h2=>?_) h1;rw[ep.1,ep.2.1];dsimp only;rw[yu,XV];exact h2
theorem rQ:∀{ts:List Tt}{cs cs':List C}{off:Nat},iW cs off ts=some cs'->∀t∈ts.map Tt.toT,t≠.d .any
 |[],_,_,_,_,t,ht=>by simp at ht
 |t::r,cs,cs',off,h,x,hx=>by
  cases t with
  |d c=>
   have hne:c≠.any:=by rintro rfl;simp[iW]at h
   have h':∃cs0 o,iW cs0 o r=some cs':=by
    simp only[iW]at h;split at h
    ·cases h
    ·exact⟨_,_,h⟩
    ·cases h
   obtain⟨cs0,o,h'⟩:=h';rcases WR.1 hx with rfl|hx
   ·intro e;simp only[Tt.toT,T.d.injEq]at e;cases c<;>first|exact hne rfl|(simp[C.toD]at e)
   ·exact rQ h' x hx
  |nil=>
   simp only[iW]at h;split at h
   ·rcases WR.1 hx with rfl|hx
    ·intro e;cases e
    ·exact rQ h x hx
   ·cases h
  |_=>simp[iW]at h
theorem yw:∀{path:List Step}{sub:List Sh}{u:U}{l l':List (El u)}{ts:List Tt},oy sub u l ts path=some l'->(∀t∈ts.map Tt.toT,t≠.d .any)/\(ts.map Tt.toT).all Ct=true
 |[],_,_,_,_,_,h=>by simp[oy]at h
 |[st],_,_,_,_,_,h=>by
  simp only[oy]at h;split at h
  ·rename_i ho;exact⟨rQ ho,(vH ho).2.1⟩
  ·cases h
 |st::st'::r,_,_,_,_,_,h=>by
  simp only[oy]at h;split at h
  ·split at h
   ·rename_i hl;exact yw hl
   ·cases h
  ·cases h
def pL(P:Program)(s:S)(t u:TypeId)(x y:Operand)(d:Tmp)(k:S->Prop):Prop:=
 match(ty P t).k with
 |.sl e=>(ty P e).ok=true/\(ty P u).k.isSS=true/\((zcells P e).map (·.length))=some (ty P e).size /\
  match gD s (ty P e).size (ev s y)with
  |some (s1,sub1,ys)=>match gD s1 (ty P e).size (ev s1 x)with
   |some (s2,sub,l)=>sub1=sub/\zS sub1.length ys/\l.length+ys.length<=4611686018427387904/\(l.length+ys.length)*(ty P e).bytes<=140737488355328 /\
    k (((s2.fresh (.gh d)).root (.gh d) ⟨false,[.ow sub (l++ys)]⟩).put (some d) (.one (.c (.rf ⟨.gh d,0,[]⟩))))
   |none=>False
  |none=>False
 |_=>False
section
variable {P:Program} {g:G} {s:S} {a:Act} {w:World} {H:FH} {γ:Gam} {F:Nm->Fp}
theorem TV{k:Nat}{sh:Sh}{x:D}{f:Fp}{y:Value}(hs:x.sure=true)(h:OD w H k sh x f y):l4 y=true:=by
 cases sh with
 |fr=>exact G2 hs (dU.1 h).2
 |ow sub=>
  cases k with
  |zero=>cases x<;>first|(simp[OD]at h;done)|(simp[D.sure]at hs)
  |succ k=>
   cases x with
   |li l=>
    obtain⟨a,c,_,_,rfl,_⟩:=kl h;rfl
   |any=>simp[D.sure]at hs
   |_=>simp[OD]at h
theorem ME{k:Nat}:∀{ss:List Sh}{xs:List D}{f:Fp}{vs:List Value},vs.length=xs.length->(∀x∈xs,x.sure=true)->Cs (OD w H k) ss xs f vs->∀u∈vs,l4 u=true
 |[],[],_,vs,hl,_,_=>by
  have:vs=[]:=by simpa using hl
  subst this;simp
 |s::ss,x::xs,f,vs,hl,hx,h=>by
  obtain⟨v,r,f1,f2,rfl,_,h1,h2⟩:=h;intro u hu;rcases WR.1 hu with rfl|hu
  ·exact TV (hx x (by simp)) h1
  ·exact ME (by simpa using hl) (fun y hy=>hx y (by simp[hy])) h2 u hu
 |[],_::_,_,_,_,_,h=>h.elim
 |_::_,[],_,_,_,_,h=>h.elim
theorem SN{k:Nat}{sub:List Sh}{ys:List (List D)}{f:Fp}{v:Value}(h:OD w H k (.ow sub) (.li ys) f v)(hok:zS sub.length ys) :
  ∃(kx:Nat)(gx:Fp)(ws:List Value),Src P w sub.length v ys.length ws/\Cs (OD w H kx) (List.replicate ys.length sub).flatten ys.flatten gx ws/\(∀u∈ws,l4 u=true)/\∀b,gx b<=f b:=by
 cases k with
 |zero=>simp[OD]at h
 |succ k=>
  obtain⟨ad,c,gg,vs,rfl,hlc,hlb,hlen,hvs,hcs,hwhere⟩:=kl h;refine⟨k,gg,vs,?_,hcs,?_,?_⟩
  ·rcases hwhere with⟨rfl,rfl,rfl,_⟩|⟨b,cs,ty,fz,rfl,hb,hfz,hcsz,rfl,hf⟩
   ·have:vs=[]:=by simpa using hvs
    subst this;exact mh
   ·refine qX hvs (fun j u hj=>?_);have hjl:=ah hj
    rw[Xk]at hjl;rw[W3 Z1]at hj;simp only[World.cell?,hb,XJ,WP,if_false,Xy];simpa using hj
  ·refine ME (by rw[hvs,bT _ _ hlen]) (fun x hx=>?_) hcs;rw[List.mem_flatten]at hx;obtain⟨y,hy,hxy⟩:=hx;exact(hok y hy).2 x hxy
  ·intro b;rcases hwhere with⟨rfl,rfl,rfl,hf0⟩|⟨b',cs,ty,fz,rfl,hb,hfz,hcsz,rfl,hf⟩
   ·have hv0:vs=[]:=by simpa using hvs
    have:∀b,gg b=0:=by simpa[Cs]using hcs
    rw[this b];exact Xq _
   ·rw[hf];omega
theorem kq(h:RX g s a w H γ F){size:Nat}{x:AV}{v:Value}{s1:S}{sub:List Sh}{l:List (List D)}(hx:AR w H γ s.m x v)(hb:gD s size x=some (s1,sub,l)) :
  ∃k f F1,OD w H k (.ow sub) (.li l) f v/\RX g s1 a w H γ F1/\sub.length=size/\(∀b,tot F1 s1.m b+f b=tot F s.m b)/\(∀b,f b≠0->b<w.heap.size/\(∀o,H b o=none)/\(g.own0 b≠0\/g.w0.heap.size<=b)):=by
 match x,hb with
 |.one (.c .nil),hb=>
  simp only[gD,WG,Prod.mk.injEq]at hb;obtain⟨rfl,rfl,rfl⟩:=hb;obtain⟨_,rfl⟩:=hx;refine⟨1,fun _=>0,F,?_,h,by simp,fun b=>rfl,fun b hb=>absurd rfl hb⟩;rw[dA];exact .inl ⟨rfl,rfl,fun _=>rfl⟩
 |.one (.c (.rf q)),hb=>
  simp only[gD]at hb;cases hg:aQ s.m q with
  |none=>rw[hg]at hb;simp at hb
  |some t=>
   rw[hg]at hb;cases t with
   |ow sub' l'=>
    dsimp only at hb;split at hb
    ·rename_i hsz;simp only[WG,Prod.mk.injEq]at hb;obtain⟨rfl,rfl,rfl⟩:=hb;obtain⟨_,hok,hv⟩:=hx;obtain⟨v',f,F',e1,⟨k,e2⟩,e3,e4⟩:=Be h (dH hok) hg;rw[hv]at e1;obtain rfl:v=v':=by simpa using e1
     exact⟨k,f,F',e2,e3,hsz,e4,fun b hb=>by
      have hne:tot F s.m b≠0:=by have:=e4 b;omega
      exact⟨h.mem.lt b hne,h.mem.nofz b hne,h.fr.tt b hne⟩⟩
    ·simp at hb
   |_=>simp at hb
theorem Bq(h:RX g s a w H γ F){t u tt:TypeId}{x y:Operand}{d:Tmp}{k:S->Prop}(hd:okD g.nt (some d)=true)(hx:ax x=true)(hy:ax y=true)(hK:pL P s t u x y d k) :
  ∃s' z w' H' γ' F',(Builtin.append_ #[t,u] tt #[a.eval x,a.eval y]).run P w=.ok z w'/\k s'/\RX g s' (a.put (some d) z) w' H' γ' F':=by
 unfold pL at hK;cases hk:(ty P t).k with
 |sl e=>
  rw[hk]at hK;obtain⟨hok,hss,hzl,hK⟩:=hK;obtain⟨_,td,hit,hud,htk,_⟩:=aP hk (by simp);have:=lZ htk
  subst this;obtain⟨ie,de,hie,_,_,hsize,hbytes,_⟩:=eE hok;rw[hsize,hbytes]at hK;rw[hsize]at hzl;obtain⟨zs,hzs,hzl⟩:=WW.1 hzl;obtain⟨it',z,hi',hz,hzc,_⟩:=iG hzs;rw[hie]at hi';obtain rfl:ie=it':=by simpa using hi'
  have hzsz:z.cells.size=ie.size:=by rw[<- hzl,<- hzc];simp
  obtain⟨ud,huu,hudd⟩:∃ud,P.underlying u=some ud/\isSS ud=true:=by
   have hne:(ty P u).k≠.ot:=fun e=>by rw[e]at hss;simp[TK.isSS]at hss
   obtain⟨_,ud,_,h2,h3,_⟩:=aP rfl hne;refine⟨ud,h2,?_⟩;rw[<- h3]at hss;cases ud<;>first|rfl|(simp[eC,TK.isSS]at hss)
  cases hsr:gD s ie.size (ev s y)with
  |none=>rw[hsr]at hK;exact hK.elim
  |some q1=>
   obtain⟨s1,sub1,ys⟩:=q1;rw[hsr]at hK;dsimp only at hK;obtain⟨k1,f1,F1,d1,h1,d3,d4,d5⟩:=kq h (aA h hy) hsr;cases hbs:gD s1 ie.size (ev s1 x)with
   |none=>rw[hbs]at hK;exact hK.elim
   |some q=>
    obtain⟨s2,sub,l⟩:=q;rw[hbs]at hK;obtain⟨hsub,hrows,hb62,hby,hK⟩:=hK;subst hsub;obtain⟨kb,f,F2,b1,b2,b3,b4',b5⟩:=kq h1 (aA h1 hx) hbs;have b4:∀b,tot F2 s2.m b+f b+f1 b<=1:=fun b=>by have:=b4' b;have:=d4 b;have:=h.mem.le1 b;omega
    obtain⟨kx,gx,ws,r1,r2,r3,r4⟩:=SN (P:=P) d1 hrows;rw[d3]at r1;obtain⟨z',w',f',c1,⟨k',c2⟩,c3,c4,c5,c6,c7,c8,c9⟩:=vZ (tt:=tt) hud huu hudd hie hz hzsz (gx:=gx) (kx:=kx) b3 b1 r1 (fun y hy=>(hrows y hy).1)
     r2 r3 (fun b=>by have:=b4 b;have:=r4 b;omega) (fun b hb=>by rcases hb with hb|hb;exact(b5 b hb).1;exact(d5 b (by have:=r4 b;omega)).1) hb62 hby
    have hX:=mg b2 c3 c4 c5 c6 (fun b hb=>by
     rcases c7 b hb with h3|h3
     ·exact .inl h3
     ·exact .inr ⟨by have:=b4 b;omega,(b5 b h3.1).2.1,(b5 b h3.1).2.2,h3.2⟩)
    have hX2:=bX hX (.gh d)
    have hn:=bH hX (.gh d)
    have hHnew:∀b,w.heap.size<=b->∀o,H b o=none:=by
     intro b hb o;cases hc:H b o with
     |none=>rfl
     |some y=>have:=(h1.mem.agree _ _ _ hc).lt;(try simp at this);omega
    have hts:∀b,tot F2 (s2.fresh (.gh d)).m b<=tot F2 s2.m b:=by
     intro b;unfold S.fresh;split
     ·exact WN _
     ·show tot F2 (aC _ _) b<=_
      rw[aV];exact eD
    have htz:tot F2 s2.m w.heap.size=0:=by
     rcases W7 (tot F2 s2.m w.heap.size)with h'|h'
     ·exact h'
     ·have:=b2.mem.lt w.heap.size Z1;omega
    have own:∀b,f' b≠0->b≠w.heap.size->b<w.heap.size/\(∀o,H b o=none)/\(g.own0 b≠0\/g.w0.heap.size<=b):=by
     intro b hb hb2;have h5:=c8 b
     have h6:=r4 b
     rw[if_neg hb2]at h5;by_cases hf:f b=0
     ·exact d5 b Z1
     ·exact b5 b hf
    obtain⟨γ',F',hX3,hγ⟩:=cG hX2 (n:=.gh d) rfl hn (v:=z') (t:=.ow sub1 (l++ys)) (f:=f') ⟨k',c2⟩ (fun b=>by
      have h3:=hts b;have h4:=b4 b;have h5:=c8 b;have h6:=r4 b
      by_cases hb:b=w.heap.size
      ·subst hb;have e1:f w.heap.size=0:=by
        rcases W7 (f w.heap.size)with h'|h'
        ·exact h'
        ·have:=(b5 w.heap.size Z1).1;omega
       have e2:f1 w.heap.size=0:=by
        rcases W7 (f1 w.heap.size)with h'|h'
        ·exact h'
        ·have:=(d5 w.heap.size Z1).1;omega
       rw[if_pos rfl]at h5;omega
      ·rw[if_neg hb]at h5;omega)
     (fun b hb=>⟨c9 b hb,by
      by_cases hb2:b=w.heap.size
      ·subst hb2;exact hHnew _ (WN _)
      ·exact(own b hb hb2).2.1⟩)
     (fun b hb=>by
      by_cases hb2:b=w.heap.size
      ·right;have:=b2.fr.size;omega
      ·exact(own b hb hb2).2.2)
    refine⟨_,z',w',H,γ',F',c1,hK,RX.put hX3 hd (fi (sub:=sub1) (l:=l++ys) ?_ hγ)⟩;simp[ab]
 |_=>rw[hk]at hK;exact hK.elim
end
def fzS:List Sh->List T->Option (List D)
 |[],[]=>some []
 |.fr::ss,t::ts=>match fzS ss ts with
  |some r=>some (t.fz::r)
  |none=>none
 |.ow _::ss,.nil::ts=>match fzS ss ts with
  |some r=>some (.li []::r)
  |none=>none
 |_,_=>none
section
variable {P:Program} {g:G} {s:S} {a:Act} {w:World} {H:FH} {γ:Gam} {F:Nm->Fp}
theorem yH{k:Nat}{m:Mm}:∀{ss:List Sh}{ts:List T}{xs:List D}{f:Fp}{vs:List Value},(∀b,f b=0)->fzS ss ts=some xs->Ts (TR w H γ m) ts f vs ->
  Cs (OD w H (k+1)) ss xs f vs
 |[],[],xs,_,_,hf,hz,_=>by
  simp only[fzS,WG]at hz;subst hz;exact hf
 |.fr::ss,t::ts,xs,f,vs,hf,hz,h=>by
  simp only[fzS]at hz;cases h5:fzS ss ts with
  |none=>rw[h5]at hz;cases hz
  |some r0=>
   rw[h5]at hz;simp only[WG]at hz;subst hz;obtain⟨v,r,f1,f2,h1,h2,h3,h4⟩:=h;refine⟨v,r,f1,f2,h1,h2,?_,yH (fun b=>by have:=hf b;have:=h2 b;omega) h5 h4⟩;rw[dU];refine⟨fun b=>by have:=hf b;have:=h2 b;omega,?_⟩;cases t with
   |d x=>exact h3.2
   |nil=>obtain⟨_,rfl⟩:=h3;exact jj
   |_=>exact⟨0,trivial⟩
 |.ow sub::ss,.nil::ts,xs,f,vs,hf,hz,h=>by
  simp only[fzS]at hz;cases h5:fzS ss ts with
  |none=>rw[h5]at hz;cases hz
  |some r0=>
   rw[h5]at hz;simp only[WG]at hz;subst hz;obtain⟨v,r,f1,f2,h1,h2,h3,h4⟩:=h;refine⟨v,r,f1,f2,h1,h2,?_,yH (fun b=>by have:=hf b;have:=h2 b;omega) h5 h4⟩;obtain⟨_,rfl⟩:=h3;rw[dA];exact .inl ⟨rfl,rfl,fun b=>by have:=hf b;have:=h2 b;omega⟩
 |[],_::_,_,_,_,_,hz,_=>by simp[fzS]at hz
 |.fr::_,[],_,_,_,_,hz,_=>by simp[fzS]at hz
 |.ow _::_,[],_,_,_,_,hz,_=>by simp[fzS]at hz
 |.ow _::_,.d _::_,_,_,_,_,hz,_=>by simp[fzS]at hz
 |.ow _::_,.ow _ _::_,_,_,_,_,hz,_=>by simp[fzS]at hz
 |.ow _::_,.el _ _::_,_,_,_,_,hz,_=>by simp[fzS]at hz
 |.ow _::_,.pl _::_,_,_,_,_,hz,_=>by simp[fzS]at hz
 |.ow _::_,.rf _::_,_,_,_,_,hz,_=>by simp[fzS]at hz
 |.ow _::_,.any::_,_,_,_,_,hz,_=>by simp[fzS]at hz
theorem ue(h:RX g s a w H γ F){n:Nm}(hno:n.isOut=false)(hn:ab s.m n=none){cs:Array Value}{ty':TypeId}{len cap:Nat}{sub:List Sh}{l:List (List D)}(hl:l.length=len)(hle:len<=cap)(hbig:len<=BIG)
  (hx:∀x∈l,x.length=sub.length) (hsz:cs.size=cap*sub.length) (hcs:∀k,Cs (OD w H (k+1)) (List.replicate len sub).flatten l.flatten (fun _=>0) cs.toList) :
  ∃γ' F',RX g (s.root n ⟨false,[.ow sub l]⟩) a (w.alloc (.cells cs ty')) H γ' F'/\γ' n=.gh (.slice (some ⟨w.heap.size,0,none⟩) len cap):=by
 obtain⟨hm,hf,hK,hH⟩:=ni h.mem cs ty' false;simp only[WP,false_and,if_false]at hm hf hK hH;have hX:RX g s a (w.alloc (.cells cs ty')) H γ F:=fp h hm hf (fun i=>bV hK (fun _ _ _ h=>h) (h.t i)) (fun _=>rfl)
 have hz:tot F s.m w.heap.size=0:=by
  rcases W7 (tot F s.m w.heap.size)with h'|h'
  ·exact h'
  ·have:=h.mem.lt w.heap.size Z1;omega
 have hHz:∀o,H w.heap.size o=none:=by
  intro o;cases hc:H w.heap.size o with
  |none=>rfl
  |some y=>have:=(h.mem.agree _ _ _ hc).lt;simp at this
 have hcs':∀k,Cs (OD (w.alloc (.cells cs ty')) H (k+1)) (List.replicate len sub).flatten l.flatten (fun _=>0) cs.toList:=by
  intro k;refine ji _ _ _ _ (fun s x g v hg hod=>?_) (hcs k);exact bQ (fun _ _ _ h=>h) (k+1) (k+1) _ _ _ _ (WN _) (fun b hb=>absurd (Nat.le_zero.1 (hg b)) hb) hod
 subst hl;have hod:TR (w.alloc (.cells cs ty')) H γ s.m (.ow sub l) (fun b=>0+if b=w.heap.size then 1 else 0) (.slice (some ⟨w.heap.size,0,none⟩) l.length cap):=
  ⟨2,ub (bi) rfl hsz hle hbig hx (hcs' 0)⟩
 exact cG hX hno hn hod (fun b=>by
   by_cases hb:b=w.heap.size
   ·subst hb;rw[hz];simp
   ·rw[if_neg hb];have:=h.mem.le1 b;omega)
  (fun b hb=>by
   have hb':b=w.heap.size:=by
    by_cases hb':b=w.heap.size
    ·exact hb'
    ·rw[if_neg hb']at hb;simp at hb
   subst hb';exact⟨by simp,hHz⟩)
  (fun b hb=>by
   have hb':b=w.heap.size:=by
    by_cases hb':b=w.heap.size
    ·exact hb'
    ·rw[if_neg hb']at hb;simp at hb
   right;have:=h.fr.size;omega)
def ii(P:Program)(s0:S)(t:TypeId)(len:Nat)(sub:List Sh)(ps:Array (Nat×Operand))(d:Tmp)(k:S->Prop):Prop:=
 match(ty P t).k with
 |.sl e=>(ty P e).ok=true/\(zcells P e).isSome=true/\len*(ty P e).size<=16777216/\len<=16777216/\sub.length=(ty P e).size /\
  let s:=(iQ s0 (ps.toList.map fun x=>ev s0 x.2)).fresh (.gh d)
  match ic (fun i=>some (i*(ty P e).size,(ty P e).size)) (List.replicate (len*(ty P e).size) .any) (iX s ps)with
  |some ts=>match fzS (List.replicate len sub).flatten ts with
   |some xs=>k ((s.root (.gh d) ⟨false,[.ow sub (chunk (ty P e).size len xs)]⟩).put (some d) (.one (.c (.rf ⟨.gh d,0,[]⟩))))
   |none=>False
  |none=>False
 |_=>False
theorem s4(h:RX g s a w H γ F){t:TypeId}{len:Nat}{ps:Array (Nat×Operand)}{d:Tmp}{sub:List Sh}{k:S->Prop}(hd:okD g.nt (some d)=true)(hp:(ps.toList.all fun x=>ax x.2)=true)(hK:ii P s t len sub ps d k) :
  ∃s' y w' H' γ' F',(Instr.buildSlice t len (ps.map fun(i,x)=>(i,a.eval x))).run P w=.ok y w'/\k s'/\RX g s' (a.put (some d) y) w' H' γ' F':=by
 unfold ii at hK;cases hk:(ty P t).k with
 |sl e=>
  rw[hk]at hK;obtain⟨hok,hzc,hsmall,hlb,hsl,hK⟩:=hK;obtain⟨_,td,hit,hud,htk,_⟩:=aP hk (by simp);have:=lZ htk
  subst this;obtain⟨ie,de,hie,_⟩:=eE hok;have hsize:(ty P e).size=ie.size:=by
   obtain⟨ie',_,hie',_,_,hs,_⟩:=eE hok;rw[hie]at hie';obtain rfl:ie=ie':=by simpa using hie'
   exact hs
  obtain⟨zs,hzs⟩:=Option.isSome_iff_exists.1 hzc;obtain⟨it',z,hi',hz,_⟩:=iG hzs;rw[hie]at hi';obtain rfl:ie=it':=by simpa using hi'
  obtain⟨H1,F1,h1⟩:=km (ps.toList.map fun x=>ev s x.2) s H F h;have h2:=bX h1 (.gh d)
  have hn:=bH h1 (.gh d)
  dsimp only at hK;generalize(iQ s (ps.toList.map fun x=>ev s x.2)).fresh (.gh d)=s2 at hK h2 hn;cases hf:ic (fun i=>some (i*(ty P e).size,(ty P e).size)) (List.replicate (len*(ty P e).size) .any) (iX s2 ps)with
  |none=>rw[hf]at hK;exact hK.elim
  |some ts=>
   rw[hf]at hK;dsimp only at hK;rw[hsize]at hf hK hsmall hsl;have hpr:PR w H1 γ s2.m (iX s2 ps) (ps.map fun(i,x)=>(i,a.eval x)).toList:=by
    rw[Array.toList_map];exact pD (m:=s2.m) h2 hp
   have hfill:∀us:Array Value,us.size=len*ie.size->∃cs,Instr.fill (fun i=>some (i*ie.size,ie.size)) us (ps.map fun(i,x)=>(i,a.eval x)).toList=some cs/\cs.size=ts.length/\Ts (TR w H1 γ s2.m) ts (fun _=>0) cs.toList:=by
    intro us hus;refine tx h2.mem _ _ _ us ts hpr (by simpa using hus) ?_ hf;have:=Ex (w:=w) (H:=H1) (γ:=γ) (m:=s2.m) (vs:=us.toList)
    rw[show us.toList.length=len*ie.size from by simpa using hus]at this;exact this
   have hlen:ts.length=len*ie.size:=by rw[lz hf];simp
   obtain⟨us,cs,u1,u2,u3⟩:=g9 (P:=P) (w:=w) (t:=t) (e:=e) (len:=len) (vs:=ps.map fun(i,x)=>(i,a.eval x)) (cells:=#[]) hud hie hz Z1 (fun us hus=>by
    obtain⟨cs,c1,c2,_⟩:=hfill us hus;exact⟨cs,c1,by rw[c2,hlen],.inr trivial⟩)
   obtain⟨cs',c1,c2,c3⟩:=hfill us u1;rw[u2]at c1;obtain rfl:cs=cs':=by simpa using c1
   cases hz2:fzS (List.replicate len sub).flatten ts with
   |none=>rw[hz2]at hK;exact hK.elim
   |some xs=>
    rw[hz2]at hK;dsimp only at hK;have hcs:∀k,Cs (OD w H1 (k+1)) (List.replicate len sub).flatten xs (fun _=>0) cs.toList:=fun k=>yH (fun _=>rfl) hz2 c3
    have hmap:xs.length=len*ie.size:=by
     have h5:=(xh _ _ _ _ (hcs 0)).1
     rw[<- h5,bT sub.length _ (fun x hx=>by rw[(List.mem_replicate.1 hx).2]),XO,hsl]
    obtain⟨γ',F',hX,hγ⟩:=ue h2 (n:=.gh d) rfl hn (cs:=cs) (ty':=e) (len:=len) (cap:=len) (sub:=sub) (l:=chunk ie.size len xs) lx (WN _) (by
      show len<=2 ^ 62
      omega) (by rw[hsl];exact rm hmap) (by rw[c2,hlen,hsl]) (fun k=>by
       rw[oN hmap];exact hcs k)
    refine⟨_,_,_,H1,γ',F',u3,hK,RX.put hX hd (fi (sub:=sub) (l:=chunk ie.size len xs) ?_ hγ)⟩;simp[S.root,ab]
 |_=>rw[hk]at hK;exact hK.elim
end
abbrev upS(k:St->Prop):S->Prop:=fun s'=>∃t:St,SEq s' t.toS/\k t
theorem GN{P:Program}{t:TypeId}{zs:List Value}(h:zcells P t=some zs):zs.all okT=true:=by
 unfold zcells at h;split at h
 ·split at h
  ·split at h
   ·rename_i hz;simp only[WG]at h;subst h;simpa using hz
   ·cases h
  ·cases h
 ·cases h
section
variable {P:Program} {s:St} {k:St->Prop}
theorem Ke{t:TypeId}{d:Tmp}(hn:ND s.m)(h:ml P s t d k):qY P s.toS t d (upS k):=by
 unfold ml at h;split at h
 ·rename_i z zs hz;split at h
  ·rename_i hd;unfold qY;rw[hz];refine⟨by simp,WT hd,_,?_,h⟩;have e:((s.fresh (jf t d)).root (jf t d) ⟨true,(z::zs).map my,none⟩).toS=(s.toS.fresh (jf t d)).root (jf t d) ⟨true,(z::zs).map nW⟩:=by
    rw[<- bk hn,<- IT (GN hz)];rfl
   rw[<- e];exact aB ((s.fresh (jf t d)).root (jf t d) ⟨true,(z::zs).map my,none⟩) (some d) (.one (.c (.pl ⟨jf t d,0,[]⟩)))
  ·exact h.elim
 ·exact h.elim
theorem QI{x:Operand}{d:Tmp}(hn:ND s.m)(hx:ax x=true)(h:BB s x d k):Kq s.toS x d (upS k):=by
 unfold BB at h;split at h
 ·rename_i t ts hc;split at h
  ·rename_i hd;simp only[WI]at hd;unfold Kq;rw[<- bk hn,af hx,oL,hc];dsimp only[Option.map_some];refine⟨by simp,?_,WT hd.2,_,?_,h⟩
   ·rw[Yk,<- hd.1];congr 1;funext t;exact DM t
   ·exact aB ((s.fresh (.loc d)).root (.loc d) ⟨true,t::ts,none⟩) (some d) (.one (.c (.pl ⟨.loc d,0,[]⟩)))
  ·exact h.elim
 ·exact h.elim
theorem I1{u:U}{t:Tt}{x:El u}(h:wC u t=some x):t.toT.fz=(aj u x).toD:=by
 unfold wC at h;split at h
 ·split at h
  ·simp only[WG]at h;subst h;rfl
  ·cases h
 ·rename_i c _;rw[cp h];rfl
 ·split at h
  ·simp only[WG]at h;subst h;rfl
  ·cases h
 ·cases h
theorem Cg:∀{us:List U}{ts:List Tt}{x:Fl us},jq us ts=some x->ts.map (fun t=>t.toT.fz)=(dB us x).map C.toD
 |[],[],_,_=>rfl
 |u::r,c::cs,x,h=>by
  simp only[jq]at h;cases h1:wC u c with
  |none=>rw[h1]at h;cases h
  |some y=>
   cases h2:jq r cs with
   |none=>rw[h1,h2]at h;cases h
   |some z=>
    rw[h1,h2]at h;simp only[WG]at h;subst h;rw[dB,pY,qC,List.map_cons,List.map_cons,I1 h1,Cg h2]
 |[],_::_,_,h=>by simp[jq]at h
 |_::_,[],_,h=>by simp[jq]at h
theorem Rs{u:U}{ts:List Tt}{x:El u}(h:jW u ts=some x):ts.map (fun t=>t.toT.fz)=al u x:=by
 rw[<- bq];cases u with
 |st n=>
  simp only[jW]at h;cases h1:jq (sd n).fs ts with
  |none=>rw[h1]at h;cases h
  |some y=>
   rw[h1]at h;have:=Option.some.inj h
   subst this;show _=(dB (sd n).fs ((sd n).un ((sd n).mkF y))).map C.toD
   rw[(sd n).l2,Cg h1]
 |_=>
  cases ts with
  |nil=>cases h
  |cons t r=>cases r with
   |nil=>rw[iA rfl];simp only[List.map_cons,List.map_nil];rw[I1 h]
   |cons _ _=>cases h
theorem lC{u:U}:∀{rows:List (List Tt)}{l:List (El u)},fu u rows=some l->rows.map (fun r=>r.map fun t=>t.toT.fz)=l.map (al u)
 |[],l,h=>by simp only[fu,WG]at h;subst h;rfl
 |r::rs,l,h=>by
  simp only[fu]at h;cases h1:jW u r with
  |none=>rw[h1]at h;cases h
  |some x=>
   cases h2:fu u rs with
   |none=>rw[h1,h2]at h;cases h
   |some xs=>
    rw[h1,h2]at h;simp only[WG]at h;subst h;rw[List.map_cons,List.map_cons,Rs h1,lC h2]
theorem rl{α β:Type}(f:α->β)(size:Nat):∀(n:Nat)(l:List α),chunk size n (l.map f)=(chunk size n l).map (·.map f)
 |0,_=>rfl
 |n+1,l=>by simp only[chunk,List.map_cons,X6];rw[<- Yf,rl f size n]
theorem Bo{ps:Array (Nat×Operand)}(h:(dI s ps).all (fun x=>x.2.noRf)=true):(ps.toList.map fun x=>evA s x.2).all At.noRf=true:=by
 unfold dI at h;rw[Yk]at h⊢;exact h
theorem IW{xs:List (Nat×Operand)}(h:(xs.all fun x=>ax x.2)=true):(xs.map fun x=>ev s.toS x.2)=(xs.map fun x=>evA s x.2).map At.toV:=by
 rw[WZ];exact W1 fun x hx=>af (WY.1 h x hx)
theorem uw{E:Ut}{t:TypeId}{len:Nat}{ps:Array (Nat×Operand)}{d:Tmp}(hps:(ps.toList.all fun x=>ax x.2)=true)
  (hn:ND (bw s (ps.toList.map fun x=>evA s x.2)).m) (h:cW P E s t len ps d k):fd P (bw s (ps.toList.map fun x=>evA s x.2)).toS t len ps d (upS k):=by
 unfold cW at h;split at h
 ·rename_i e ht;split at h
  ·rename_i u z he hz;split at h
   ·rename_i hc;simp only[WI]at hc;obtain⟨⟨⟨c1,c2⟩,c3⟩,c4⟩:=hc;have hsz:=WS c2
    dsimp only at h;generalize hs1:bw s (ps.toList.map fun x=>evA s x.2)=s1 at h hn;split at h
    ·rename_i ts hf hno;split at h
     ·rename_i l hl;unfold fd;rw[ht];dsimp only;refine⟨c1,by rw[hz];rfl,by rw[<- hsz];exact WT c3,WT c4,?_⟩;rw[IW hps,dE (Bo hno),<- bk hn,rT hps,<- hsz];have hf':=nB hf
      rw[List.map_replicate]at hf';have e0:Tt.any.toT=T.any:=rfl
      rw[e0]at hf';rw[hf'];dsimp only;refine⟨_,?_,h⟩;have er:(⟨false,[.ow (List.replicate (nc u) .fr) u l],none⟩:Rt).toR=⟨false,[.ow (List.replicate (nc u) .fr) (chunk (nc u) len ((ts.map Tt.toT).map T.fz))]⟩:=by
       have e2:chunk (nc u) len ((ts.map Tt.toT).map T.fz)=l.map (al u):=by rw[WZ,rl];exact lC hl
       rw[e2];rfl
      rw[<- er];exact aB ((s1.fresh (.gh d)).root (.gh d) ⟨false,[.ow (List.replicate (nc u) .fr) u l],none⟩) (some d) (.one (.c (.rf ⟨.gh d,0,[]⟩)))
     ·exact h.elim
    ·exact h.elim
   ·exact h.elim
  ·exact h.elim
 ·exact h.elim
theorem qy:∀{ss:List Sh}{ts:List Tt},la ss ts=true->fzS ss (ts.map Tt.toT)=some (ts.map fun t=>t.toT.fz)
 |[],[],_=>rfl
 |.fr::r,t::ts,h=>by
  simp only[List.map_cons,fzS];rw[qy (show la r ts=true from h)]
 |.ow sub::r,t::ts,h=>by
  cases t with
  |nil=>
   simp only[List.map_cons,Tt.toT,fzS];rw[qy (show la r ts=true from h)];rfl
  |_=>simp[la]at h
 |[],_::_,h=>by simp[la]at h
 |.fr::_,[],h=>by simp[la]at h
 |.ow _::_,[],h=>by simp[la]at h
theorem s5{E:Ut}{sub:List Sh}{t:TypeId}{len:Nat}{ps:Array (Nat×Operand)}{d:Tmp}(hps:(ps.toList.all fun x=>ax x.2)=true)
  (hn:ND (bw s (ps.toList.map fun x=>evA s x.2)).m) (h:cu P E sub s t len ps d k):ii P (bw s (ps.toList.map fun x=>evA s x.2)).toS t len sub ps d (upS k):=by
 unfold cu at h;split at h
 ·rename_i e ht;split at h
  ·rename_i u z he hz;split at h
   ·rename_i hc;simp only[WI]at hc;obtain⟨⟨⟨⟨c1,c2⟩,c3⟩,c4⟩,c5⟩:=hc;have hsz:=WS c2
    dsimp only at h;generalize hs1:bw s (ps.toList.map fun x=>evA s x.2)=s1 at h hn;split at h
    ·rename_i ts hf hno;split at h
     ·rename_i l hl hsub;unfold ii;rw[ht];dsimp only;refine⟨c1,by rw[hz];rfl,by rw[<- hsz];exact WT c3,WT c4,by rw[<- hsz];exact WS c5,?_⟩;rw[IW hps,dE (Bo hno),<- bk hn,rT hps,<- hsz];have hf':=nB hf
      rw[List.map_replicate]at hf';have e0:Tt.any.toT=T.any:=rfl
      rw[e0]at hf';rw[hf'];dsimp only;rw[qy hsub];dsimp only;refine⟨_,?_,h⟩;have er:(⟨false,[.ow sub u l],none⟩:Rt).toR=⟨false,[.ow sub (chunk (nc u) len (ts.map fun t=>t.toT.fz))]⟩:=by
       have e2:chunk (nc u) len (ts.map fun t=>t.toT.fz)=l.map (al u):=by rw[rl];exact lC hl
       rw[e2];rfl
      rw[<- er];exact aB ((s1.fresh (.gh d)).root (.gh d) ⟨false,[.ow sub u l],none⟩) (some d) (.one (.c (.rf ⟨.gh d,0,[]⟩)))
     ·exact h.elim
    ·exact h.elim
   ·exact h.elim
  ·exact h.elim
 ·exact h.elim
theorem ua{m:List (Nm×Nat×Rt)}{n:Nm}{i:Nat}{r:Rt}(h:ND m):ND (cn m n i r):=by
 unfold ND;rw[ya];exact h
theorem LR(t:Tt):t.toT.owned=t.owned:=by cases t<;>rfl
theorem Jn{p:Pl}{t:Tt}(h:wZ s p t k)(hn:ND s.m):∃m',(∀K:Mm->Prop,K m'->o7 s.toS.m p t.toT K)/\∃s':St,s'.toS=⟨s.toS.t,m'⟩/\ND s'.m/\k s':=by
 unfold wZ at h;split at h
 ·exact h.elim
 ·rename_i r hr;split at h
  ·rename_i t0 hpath hh hc;split at h
   ·rename_i ho;have ec:r.toR.cells=r.cells.map Tt.toT:=by show holed _ r.hole=_;rw[hh];rfl
    refine⟨bE s.toS.m p.root ⟨r.blk,(r.cells.map Tt.toT).set p.off t.toT⟩,fun K hK=>?_,_,?_,ua hn,h⟩
    ·unfold o7;rw[show ab s.toS.m p.root=some r.toR from aR hr];dsimp only;rw[hpath,ec,WK,hc];exact⟨by rw[LR];exact ho,hK⟩
    refine bb.S_ext rfl ?_;show toM (cn s.m p.root s.nx _)=_
    rw[dJ]
    congr 1
    simp only[Rt.toR,hh,holed,Xp]
   ·exact h.elim
  ·rename_i st q sub u l hpath hh hc;split at h
   ·rename_i l' hl;have ec:r.toR.cells=r.cells.map Tt.toT:=by show holed _ r.hole=_;rw[hh];rfl
    refine⟨bE s.toS.m p.root ⟨r.blk,(r.cells.map Tt.toT).set p.off (.ow sub (l'.map (al u)))⟩,fun K hK=>?_,_,?_,ua hn,zT h⟩
    ·unfold o7;rw[show ab s.toS.m p.root=some r.toR from aR hr];dsimp only;rw[hpath,ec,WK,hc];exact DD h hl hK
    refine bb.S_ext rfl ?_;show toM (cn s.m p.root s.nx _)=_
    rw[dJ]
    congr 1
    simp only[Rt.toR,hh,holed,Xp,Tt.toT]
   ·exact h.elim
  ·rename_i st q off st' q' sub u l hpath hh hc;split at h
   ·rename_i sh v lv hb;split at h
    ·rename_i l' hl;have hoff:off=p.off:=WS hb
     subst hoff;obtain⟨epath,hk⟩:=xQ (zT h);have hlt:p.off < (r.cells.map Tt.toT).length:=by rw[WJ];exact ah hc
     simp only[List.cons.injEq]at epath;obtain⟨rfl,rfl⟩:=epath;have ec:r.toR.cells=(r.cells.map Tt.toT).set p.off (.ow sub (bF sub (l.map (al u)) .any (st'::q'))):=by
      show holed _ r.hole=_
      rw[hh];exact Cn _ _ hc
     refine⟨bE s.toS.m p.root ⟨r.blk,(r.cells.map Tt.toT).set p.off (.ow sub (l'.map (al u)))⟩,fun K hK=>?_,_,?_,ua hn,hk⟩
     ·unfold o7;rw[show ab s.toS.m p.root=some r.toR from aR hr];dsimp only;rw[hpath,ec,W5 hlt];refine B1 h hl ?_;rw[XV];exact hK
     refine bb.S_ext rfl ?_;show toM (cn s.m p.root s.nx _)=_
     rw[dJ]
     congr 1
     simp only[Rt.toR,holed,Xp,Tt.toT]
    ·exact h.elim
   ·exact h.elim
  ·exact h.elim
theorem O1(n:Nm)(t:Tt):t.toT.ment n=t.ment n:=by cases t<;>rfl
theorem pg{K:S->Prop}(hK:∀t:St,k t->K t.toS):∀{ts:List Tt}{s:St}{p:Pl},ND s.m->fH s p ts k->cz s.toS p (ts.map Tt.toT) K
 |[],s,p,hn,h=>hK s h
 |t::ts,s,p,hn,h=>by
  have gen:∀t:Tt,(∀q,t≠.rf q)->t≠.any->t≠.d .any->wZ s p t (fun s'=>fH s' (p.add 1) ts k)->cz s.toS p (t.toT::ts.map Tt.toT) K:=by
   intro t h1 h2 h3 h;obtain⟨m',hp,s',e,hn',hk⟩:=Jn h hn;have key:cz s.toS p (t.toT::ts.map Tt.toT) K=o7 s.toS.m p t.toT fun m'=>cz ⟨s.toS.t,m'⟩ (p.add 1) (ts.map Tt.toT) K:=by
    cases t with
    |rf q=>exact(h1 q rfl).elim
    |any=>exact(h2 rfl).elim
    |d c=>cases c with
     |any=>exact(h3 rfl).elim
     |_=>rfl
    |_=>rfl
   rw[key];refine hp _ ?_;rw[<- e];exact pg hK hn' hk
  cases t with
  |rf q=>
   simp only[fH]at h;split at h
   ·rename_i sub u l hr;split at h
    ·rename_i hpath hroot hall;simp only[List.map_cons,Tt.toT,cz];rw[show ab s.toS.m q.root=some (⟨false,[.ow sub u l],none⟩:Rt).toR from aR hr];refine⟨hpath,by simpa using hroot,?_,?_⟩
     ·rw[Yk,<- hall];congr 1;funext t;simp only[Function.comp,O1]
     ·rw[<- bb hn];obtain⟨m',hp,s',e,hn',hk⟩:=Jn h (Iw hn);refine hp _ ?_;rw[<- e];exact pg hK hn' hk
    ·exact h.elim
   ·exact h.elim
  |any=>exact h.elim
  |d c=>cases c with
   |any=>exact h.elim
   |_=>exact gen _ (fun _ h=>by cases h) (fun h=>by cases h) (fun h=>by cases h) h
  |_=>exact gen _ (fun _ h=>by cases h) (fun h=>by cases h) (fun h=>by cases h) h
theorem Gl{K:S->Prop}(hK:∀t:St,k t->K t.toS){p:Pl}{ts:List Tt}(hne:ts≠[])(h:jI s p ts k):cz s.toS p (ts.map Tt.toT) K:=by
 unfold jI at h;split at h
 ·exact h.elim
 ·rename_i r hr;split at h
  ·rename_i st q sub u l hpath hh hc;split at h
   ·rename_i l' hl;have ec:r.toR.cells=r.cells.map Tt.toT:=by show holed _ r.hole=_;rw[hh];rfl
    obtain⟨a1,a2⟩:=yw hl;refine sT (aR hr) hpath (sub:=sub) (l:=l.map (al u)) (by rw[ec,WK,hc];rfl) a2 a1 (DE hne h hl ?_);have hk:=hK _ (zT h)
    have e:(⟨s.nx+1,s.t,cn s.m p.root s.nx { r with cells:=r.cells.set p.off (.ow sub u l') }⟩:St).toS=⟨s.toS.t,bE s.toS.m p.root { r.toR with cells:=r.toR.cells.set p.off (.ow sub (l'.map (al u))) }⟩:=by
     refine bb.S_ext rfl ?_;show toM (cn s.m p.root s.nx _)=_
     rw[dJ]
     congr 1
     simp only[Rt.toR,hh,holed,Xp,Tt.toT]
    rw[e]at hk;exact hk
   ·exact h.elim
  ·exact h.elim
theorem Mb{K:S->Prop}(hK:∀t:St,k t->K t.toS){t:TypeId}{x v:At}(hn:ND s.m)(h:m0 P s t x v k):r7 P s.toS t x.toV v.toV K:=by
 unfold m0 at h;split at h
 ·rename_i p ts hv;split at h
  ·rename_i hc;simp only[WI]at hc;unfold r7;rw[oL,hv];refine⟨hc.1.1,by rw[WJ];exact WS hc.1.2,by rw[WJ];exact mF hc.2,?_⟩;split at h
   ·rename_i hrow;refine Gl hK (fun e=>?_) h;subst e;simp[PK,Nat.blt]at hrow
   ·exact pg hK hn h
  ·exact h.elim
 ·exact h.elim
theorem SM{u:U}{v:At}{l:List (El u)}{size:Nat}(hs:nc u=size)(h:SL u v=some l):iu size v.toV=some (l.map (al u))/\v.noRf=true:=by
 unfold SL at h;split at h
 ·simp only[WG]at h;subst h;exact⟨rfl,rfl⟩
 ·rename_i u' l';obtain⟨e,rfl⟩:=gG h;subst e;exact⟨rfl,rfl⟩
 ·rename_i b;split at h
  ·simp only[WG]at h;subst h;have:size=1:=hs.symm
   simp only[At.toV,A1.toV,Tt.toT,C.toD,iu];rw[if_pos this];exact⟨rfl,rfl⟩
  ·cases h
 ·cases h
theorem BP{m:List (Nm×Nat×Rt)}{q:Pl}{r:Rt}{t:Tt}(hr:bj m q.root=some r)(hp:q.path=[])(h:atT m q 1=some [t]):r.cells[q.off]? = some t:=by
 unfold atT at h;rw[hr]at h;dsimp only at h;rw[hp]at h;dsimp only at h;split at h
 ·rename_i hb;simp only[WG]at h;have:=congrArg (·[0]?) h
  simpa[List.getElem?_take,Xc]using this
 ·cases h
theorem kp{u:U}{v:At}{s':St}{sub:List Sh}{l:List (El u)}{size:Nat}(hs:nc u=size)(hn:ND s.m)(hop:∀q,v=.one (.c (.rf q))->okP (toM s.m) q)(h:iK s u v=some (s',sub,l)) :
  gD s.toS size v.toV=some (s'.toS,sub,l.map (al u))/\ND s'.m/\Ext s s':=by
 unfold iK at h;split at h
 ·simp only[WG,Prod.mk.injEq]at h;obtain⟨rfl,rfl,rfl⟩:=h;exact⟨by rw[<- hs];rfl,hn,Ext.refl _⟩
 ·rename_i q;split at h
  ·rename_i sub' u' l' hsl;split at h
   ·rename_i l2 s2 hcast hlen htake;simp only[WG,Prod.mk.injEq]at h;obtain⟨rfl,rfl,rfl⟩:=h;obtain⟨e,rfl⟩:=gG hcast;subst e;unfold PT at htake;split at htake
    ·cases htake
    ·rename_i r hr;split at htake
     ·rename_i hpath hh;simp only[WG]at htake;have ht:atT s.m q 1=some [.ow sub' u' l']:=by
       unfold sliceAt at hsl;split at hsl
       ·rename_i a b c hat;cases hsl;exact hat
       ·cases hsl
      have hc:=BP hr hpath ht
      have egr:ab s.toS.m q.root=some r.toR:=aR hr
      have ecs:r.toR.cells=r.cells.map Tt.toT:=by show holed _ r.hole=_;rw[hh];rfl
      have egp:aQ s.toS.m q=some (.ow sub' (l'.map (al u'))):=by
       unfold aQ;rw[egr,hpath];dsimp only;rw[ecs,WK,hc];rfl
      refine⟨?_,?_,?_⟩
      ·simp only[At.toV,A1.toV,Tt.toT,gD];rw[egp];dsimp only;rw[if_pos (by rw[<- hs];exact WS hlen)]
       congr 2
       rw[<- htake];refine bb.S_ext (kE _ _ _).symm ?_;show _=toM (bP (thr q) s.nx (cn s.m q.root s.nx _))
       rw[dc,dJ]
       congr 1
       unfold aZ;rw[egr,hpath];dsimp only;show bE (toM s.m) q.root _=_
       congr 1
       simp only[Rt.toR,hh,holed,Xp,Tt.toT]
      ·rw[<- htake];exact yK.2 (ua hn)
      ·rw[<- htake];exact⟨Xt _,fM (WN _),(cq _ _ (WN _) s.m).trans (dt (WN _))⟩
     ·rename_i st pa hpath hh;simp only[WG]at htake;have ht:atT s.m q 1=some [.ow sub' u' l']:=by
       unfold sliceAt at hsl;split at hsl
       ·rename_i a b c hat;cases hsl;exact hat
       ·cases hsl
      have egr:ab s.toS.m q.root=some r.toR:=aR hr
      have ecs:r.toR.cells=r.cells.map Tt.toT:=by show holed _ r.hole=_;rw[hh];rfl
      have hq:=hop q rfl
      unfold okP at hq;rw[hpath]at hq;obtain⟨r2,sub2,l2,g1,g2,g3⟩:=hq;have er2:r2=r.toR:=Option.some.inj (g1.symm.trans egr)
      subst er2;unfold atT at ht;rw[hr]at ht;dsimp only at ht;rw[hpath]at ht;dsimp only at ht;split at ht
      ·rename_i sub0 u0 l0 _ hc;rw[ecs,WK,hc]at g2;simp only[Option.map_some,WG,Tt.toT,T.ow.injEq]at g2;obtain⟨rfl,rfl⟩:=g2;have hlk:=u5 g3 ht
       have egp:aQ s.toS.m q=some (.ow sub' (l'.map (al u'))):=by
        unfold aQ;rw[egr];dsimp only;rw[hpath];dsimp only;rw[ecs,WK,hc];simp only[Option.map_some,Tt.toT];rw[hlk]
       refine⟨?_,?_,?_⟩
       ·simp only[At.toV,A1.toV,Tt.toT,gD];rw[egp];dsimp only;rw[if_pos (by rw[<- hs];exact WS hlen)]
        congr 2
        rw[<- htake];refine bb.S_ext (kE _ _ _).symm ?_;show _=toM (bP (thr q) s.nx (cn s.m q.root s.nx _))
        rw[dc,dJ]
        congr 1
        unfold aZ;rw[egr];dsimp only;rw[hpath];dsimp only;rw[ecs,WK,hc];show bE (toM s.m) q.root _=_
        congr 1
        simp only[Rt.toR,Option.map_some,Tt.toT,T.toD];rw[Cn _ _ hc]
       ·rw[<- htake];exact yK.2 (ua hn)
       ·rw[<- htake];exact⟨Xt _,fM (WN _),(cq _ _ (WN _) s.m).trans (dt (WN _))⟩
      ·cases ht
     ·cases htake
   ·cases h
  ·cases h
 ·cases h
theorem SE:∀n:Sn,(sd n).fs.all leaf=true:=by intro n;cases n<;>rfl
theorem xJ{u:U}(h:leaf u=true)(x:El u):(aj u x).toD.sure=true:=by
 cases u with
 |st n=>cases h
 |_=>rfl
theorem uH:∀{us:List U}(_:us.all leaf=true)(x:Fl us),∀d∈(dB us x).map C.toD,d.sure=true
 |[],_,_,d,hd=>by simp[dB]at hd
 |u::r,h,x,d,hd=>by
  simp only[W0,WI]at h;simp only[dB,List.map_cons,WR]at hd;rcases hd with rfl|hd
  ·exact xJ h.1 _
  ·exact uH h.2 _ d hd
theorem BT{u:U}(x:El u):∀d∈al u x,d.sure=true:=by
 rw[<- bq];cases u with
 |st n=>exact uH (SE n) _
 |_=>intro d hd;rw[iA rfl]at hd;simp only[List.map_cons,List.map_nil,WU]at hd;subst hd;exact xJ rfl _
theorem EH{E:Ut}{t u0:TypeId}{x y:Operand}{d:Tmp}(hx:ax x=true)(hy:ax y=true)(hn:ND (dV s (evA s y)).m)(hop:∀q,evA (dV s (evA s y)) x=.one (.c (.rf q))->okP (toM (dV s (evA s y)).m) q)(h:jl P E s t u0 x y d k):nr P (dV s (evA s y)).toS t u0 x y d (upS k):=by
 unfold jl at h;dsimp only at h;generalize hs1:dV s (evA s y)=s1 at h hn hop;split at h
 ·rename_i e ht;split at h
  ·rename_i u z he hz;split at h
   ·rename_i hc;simp only[WI]at hc;obtain⟨⟨⟨c1,c2⟩,c3⟩,c4⟩:=hc;have hsz:=WS c4
    split at h
    ·rename_i ys s2 sub l hsrc hbase;split at h
     ·rename_i hsub;obtain⟨⟨h1,h2⟩,h3⟩:=h;obtain⟨k1,k2⟩:=SM hsz hsrc;obtain⟨b1,b2,_⟩:=kp hsz hn hop hbase;unfold nr;dsimp only;rw[af hy,rC k2,ht];dsimp only;refine⟨c1,c2,by rw[hz];simp only[Option.map_some];rw[WS c3],?_⟩;rw[af hy,af hx,k1,b1];dsimp only;refine⟨hsub,?_,by rw[WJ,WJ];exact h1,by rw[WJ,WJ];exact h2,_,?_,h3⟩
      ·intro r hr;obtain⟨z',_,rfl⟩:=Xa.1 hr;exact⟨by rw[gH];exact hsz,BT z'⟩
      ·rw[<- bk b2];have er:(⟨false,[.ow sub u (l++ys)],none⟩:Rt).toR=⟨false,[.ow sub (l.map (al u)++ys.map (al u))]⟩:=by
        rw[<- XC];rfl
       rw[<- er];exact aB ((s2.fresh (.gh d)).root (.gh d) ⟨false,[.ow sub u (l++ys)],none⟩) (some d) (.one (.c (.rf ⟨.gh d,0,[]⟩)))
     ·exact h.elim
    ·exact h.elim
   ·exact h.elim
  ·exact h.elim
 ·exact h.elim
theorem Br{E:Ut}{t u0:TypeId}{x y:Operand}{d:Tmp}(hx:ax x=true)(hy:ax y=true)(hn:ND s.m)(hopy:∀q,evA s y=.one (.c (.rf q))->okP (toM s.m) q)
  (hopx:∀(size:Nat)(s1:St)(sub:List Sh)(l:List (List D))q,ND s1.m->gD s.toS size (evA s y).toV=some (s1.toS,sub,l)->evA s1 x=.one (.c (.rf q))->okP (toM s1.m) q) (h:gA P E s t u0 x y d k):pL P s.toS t u0 x y d (upS k):=by
 unfold gA at h;split at h
 ·rename_i e ht;split at h
  ·rename_i u z he hz;split at h
   ·rename_i hc;simp only[WI]at hc;obtain⟨⟨⟨c1,c2⟩,c3⟩,c4⟩:=hc;have hsz:=WS c4
    split at h
    ·rename_i s1 sub1 ys hby;split at h
     ·rename_i s2 sub l hbx;split at h
      ·rename_i hsub;obtain⟨⟨h1,h2⟩,h3⟩:=h;obtain⟨a1,a2,_⟩:=kp hsz hn hopy hby;obtain⟨b1,b2,_⟩:=kp hsz a2 (fun q hq=>hopx _ s1 _ _ q a2 a1 hq) hbx;unfold pL;rw[ht];dsimp only;refine⟨c1,c2,by rw[hz];simp only[Option.map_some];rw[WS c3],?_⟩;rw[af hy,a1];dsimp only;rw[af hx,b1];dsimp only;have hlen:sub1.length=nc u:=by
        unfold iK at hby;split at hby
        ·simp only[WG,Prod.mk.injEq]at hby;obtain⟨_,rfl,_⟩:=hby;simp
        ·split at hby
         ·split at hby
          ·rename_i hb _;simp only[WG,Prod.mk.injEq]at hby;obtain⟨_,rfl,_⟩:=hby;exact WS hb
          ·cases hby
         ·cases hby
        ·cases hby
       refine⟨iF hsub,?_,by rw[WJ,WJ];exact h1,by rw[WJ,WJ];exact h2,_,?_,h3⟩
       ·intro r hr;obtain⟨z',_,rfl⟩:=Xa.1 hr;exact⟨by rw[gH,hlen],BT z'⟩
       ·rw[<- bk b2];have er:(⟨false,[.ow sub u (l++ys)],none⟩:Rt).toR=⟨false,[.ow sub (l.map (al u)++ys.map (al u))]⟩:=by
         rw[<- XC];rfl
        rw[<- er];exact aB ((s2.fresh (.gh d)).root (.gh d) ⟨false,[.ow sub u (l++ys)],none⟩) (some d) (.one (.c (.rf ⟨.gh d,0,[]⟩)))
      ·exact h.elim
     ·exact h.elim
    ·exact h.elim
   ·exact h.elim
  ·exact h.elim
 ·exact h.elim
end
end Go.Am
end
