/-
  Part 13: AmIter · AmE3 · AmE3b · AmE3c · AmE3d · AmE20 · AmAppTwo · AmBuildTwo · AmE3e.
-/
import Derived.Test.YteooihiebpbaiaaGreatDoorVp12
import Derived.Shelf.SlIter.Nil
import Derived.Shelf.SortM.Plain
import Derived.Shelf.SortM.SortNone
import Derived.Shelf.SlMaps.Clone
set_option linter.unusedSimpArgs false
set_option linter.unusedVariables false
set_option linter.unusedSectionVars false
set_option linter.unnecessarySimpa false
open Go.Proofs.Tryz
section
namespace Go.Proofs
open Go.RowKit Go.Maps Go.Sort Go.Shelf
def Tryz.keys210_ren:Go.Shelf.Ren:=⟨λ|7=>234|10=>248|n=>n,λ|23=>253|26=>9|3=>4|28=>284|0=>0|27=>283|33=>92|4=>4|n=>n,λ|n=>n⟩
theorem Tryz.keys210:Go.Proofs.SlLaysZ.n7 prog Tryz.keys210_ren:={
 mixed:=by kernel_rfl
 f7:=⟨f234.name,by decide,func234.trans (congrArg some kQ0)⟩
 f10:=⟨f248.name,by decide,func248.trans (congrArg some kQ0)⟩
 t0:=underlying0
 a0:=isAgg0
 z0:=sizeOf0
 v0:=zeroValue0
 t4:=underlying4
 a4:=isAgg4
 z4:=sizeOf4
 v4:=zeroValue4
 t23:=underlying253
 a23:=isAgg253
 z23:=sizeOf253
 v23:=zeroValue253
 t26:=underlying9
 a26:=isAgg9
 z26:=sizeOf9
 v26:=zeroValue9
 t27:=underlying283
 a27:=isAgg283
 z27:=sizeOf283
 v27:=zeroValue283
 t28:=underlying284
 a28:=isAgg284
 z28:=sizeOf284
 v28:=zeroValue284
 t33:=underlying92
 a33:=isAgg92
 z33:=sizeOf92
 v33:=zeroValue92 }
def Tryz.sorted209_ren:Go.Shelf.Ren:=⟨λ|6=>233|8=>246|9=>247|11=>251|13=>253|12=>252|23=>265|24=>266|14=>256|15=>257|16=>258|17=>259|18=>260|19=>261|20=>262|21=>263|22=>264|25=>268|26=>269|27=>270|28=>271|29=>272|30=>273|31=>275|n=>n,λ|26=>9|28=>284|24=>57|0=>0|3=>3|37=>273|48=>289|50=>127|4=>4|40=>305|39=>304|45=>120|5=>5|9=>9|51=>312|55=>316|57=>318|58=>319|33=>92|n=>n,λ|n=>n⟩
theorem Tryz.sorted209:Go.Proofs.SlLaysZ.n6 prog Tryz.sorted209_ren:={
 mixed:=by kernel_rfl
 f6:=⟨f233.name,by decide,func233.trans (congrArg some kQ0)⟩
 f8:=⟨f246.name,by decide,func246.trans (congrArg some kQ0)⟩
 f11:=⟨f251.name,by decide,func251.trans (congrArg some kQ0)⟩
 t0:=underlying0
 a0:=isAgg0
 z0:=sizeOf0
 v0:=zeroValue0
 t24:=underlying57
 a24:=isAgg57
 z24:=sizeOf57
 v24:=zeroValue57
 t26:=underlying9
 a26:=isAgg9
 z26:=sizeOf9
 v26:=zeroValue9
 t28:=underlying284
 a28:=isAgg284
 z28:=sizeOf284
 v28:=zeroValue284
 i26:=by kernel_rfl }
def Tryz.sort236_ren:Go.Shelf.Ren:=⟨λ|6=>247|8=>253|9=>252|19=>265|20=>266|21=>256|22=>257|23=>258|24=>259|25=>260|26=>261|27=>262|28=>263|29=>264|36=>268|31=>269|32=>270|37=>271|38=>272|39=>273|41=>275|n=>n,λ|27=>57|29=>9|3=>3|32=>273|26=>57|0=>0|44=>289|46=>127|4=>4|36=>305|35=>304|41=>120|5=>5|9=>9|53=>312|57=>316|63=>318|64=>319|n=>n,λ|n=>n⟩
theorem Tryz.sort236:Go.Proofs.SlLaysM.n6 prog Tryz.sort236_ren:={
 mixed:=by kernel_rfl
 f6:=⟨f247.name,by decide,func247.trans (congrArg some kQ0)⟩
 f8:=func253.trans (congrArg some kQ0)
 f9:=⟨f252.name,by decide,func252.trans (congrArg some kQ0)⟩
 f19:=func265.trans (congrArg some kQ0)
 f20:=func266.trans (congrArg some kQ0)
 f21:=⟨f256.name,by decide,func256.trans (congrArg some kQ0)⟩
 f22:=⟨f257.name,by decide,func257.trans (congrArg some kQ0)⟩
 f23:=⟨f258.name,by decide,func258.trans (congrArg some kQ0)⟩
 f24:=⟨f259.name,by decide,func259.trans (congrArg some kQ0)⟩
 f25:=⟨f260.name,by decide,func260.trans (congrArg some kQ0)⟩
 f26:=⟨f261.name,by decide,func261.trans (congrArg some kQ0)⟩
 f27:=⟨f262.name,by decide,func262.trans (congrArg some kQ0)⟩
 f28:=⟨f263.name,by decide,func263.trans (congrArg some kQ0)⟩
 f29:=⟨f264.name,by decide,func264.trans (congrArg some kQ0)⟩
 f31:=func269.trans (congrArg some kQ0)
 f32:=func270.trans (congrArg some kQ0)
 f36:=⟨f268.name,by decide,func268.trans (congrArg some kQ0)⟩
 f37:=⟨f271.name,by decide,func271.trans (congrArg some kQ0)⟩
 f38:=⟨f272.name,by decide,func272.trans (congrArg some kQ0)⟩
 f39:=⟨f273.name,by decide,func273.trans (congrArg some kQ0)⟩
 f41:=⟨f275.name,by decide,func275.trans (congrArg some kQ0)⟩
 t0:=underlying0
 a0:=isAgg0
 z0:=sizeOf0
 v0:=zeroValue0
 t3:=underlying3
 a3:=isAgg3
 z3:=sizeOf3
 v3:=zeroValue3
 t4:=underlying4
 a4:=isAgg4
 z4:=sizeOf4
 v4:=zeroValue4
 t5:=underlying5
 a5:=isAgg5
 z5:=sizeOf5
 v5:=zeroValue5
 t9:=underlying9
 a9:=isAgg9
 z9:=sizeOf9
 v9:=zeroValue9
 t26:=underlying57
 a26:=isAgg57
 z26:=sizeOf57
 v26:=zeroValue57
 t27:=underlying57
 a27:=isAgg57
 z27:=sizeOf57
 v27:=zeroValue57
 t29:=underlying9
 a29:=isAgg9
 z29:=sizeOf9
 v29:=zeroValue9
 t32:=underlying273
 a32:=isAgg273
 z32:=sizeOf273
 v32:=zeroValue273
 t35:=underlying304
 a35:=isAgg304
 z35:=sizeOf304
 v35:=zeroValue304
 t36:=underlying305
 a36:=isAgg305
 z36:=sizeOf305
 v36:=zeroValue305
 t41:=underlying120
 a41:=isAgg120
 z41:=sizeOf120
 v41:=zeroValue120
 t44:=underlying289
 a44:=isAgg289
 z44:=sizeOf289
 v44:=zeroValue289
 t46:=underlying127
 a46:=isAgg127
 z46:=sizeOf127
 v46:=zeroValue127
 t53:=underlying312
 a53:=isAgg312
 z53:=sizeOf312
 v53:=zeroValue312
 t57:=underlying316
 a57:=isAgg316
 z57:=sizeOf316
 v57:=zeroValue316
 t63:=underlying318
 a63:=isAgg318
 z63:=sizeOf318
 v63:=zeroValue318
 t64:=underlying319
 a64:=isAgg319
 z64:=sizeOf319
 v64:=zeroValue319 }
def Tryz.clone106_ren:Go.Shelf.Ren:=⟨λ|5=>166|7=>204|n=>n,λ|23=>167|25=>9|3=>4|4=>4|20=>20|n=>n,λ|n=>n⟩
theorem Tryz.clone106:Go.Proofs.SlLaysW.n5 prog Tryz.clone106_ren:={
 mixed:=by kernel_rfl
 f5:=⟨f166.name,by decide,func166.trans (congrArg some kQ0)⟩
 f7:=func204.trans (congrArg some kQ0)
 t4:=underlying4
 a4:=isAgg4
 z4:=sizeOf4
 v4:=zeroValue4
 t20:=underlying20
 a20:=isAgg20
 z20:=sizeOf20
 v20:=zeroValue20
 t23:=underlying167
 a23:=isAgg167
 z23:=sizeOf167
 v23:=zeroValue167 }
theorem Tryz.sorts209(m:Nat):AnyZ.SortsIn prog Tryz.sorted209_ren Fence.wide m:=
 ⟨λblk off cap ss W hH hblk hsz=>callsIn_wide.2 (AnyM.slices_Sort_string Tryz.sort236 blk off cap ss W hH hblk hsz),
  λp cap W=>callsIn_wide.2 (AnyM.slices_Sort_string_none Tryz.sort236 p cap W)⟩
theorem Tryz.maps_Keys_210(mb:Option Nat)(W:World):CallsIn Fence.wide 5 prog 234 #[.map mb] W λe w'=>e=.returned (.func (.func 248) #[] #[.pointer (some ⟨W.heap.size,0,none⟩)])/\w'=W.alloc (.cells #[.map mb] 253):=AnyZ.keys_in Tryz.keys210 Fence.wide 5 trivial rfl mb W
set_option maxHeartbeats 1000000 in
theorem Tryz.slices_Sorted_keys_209_210{H:Type}(b nn:Nat)(D0:DataW H)(R:Value->Option (DataW H×List MemPlace))(w:World)(hown:w.ownsMap prog 9 R b nn D0)(hmax:Maps.size D0<=maxLen)(hbytes:Maps.size D0*16<=140737488355328) :
  CallsIn Fence.wide 5 prog 233 #[.func (.func 248) #[] #[.pointer (some ⟨w.heap.size,0,none⟩)]] (w.alloc (.cells #[.map (some b)] 253)) λe w'=>∃(v:Value)(ss:List a8),e=.returned v/\ss.Perm (strKeys D0) /\
   w'.ownsRow (w.alloc (.cells #[.map (some b)] 253)).heap.size 9 1 v ss.length ((ss.mergeSort (λx y=>decide (x<=y))).map encStr)/\(v=.slice none 0 0 ↔ ss=[])/\Below (w.alloc (.cells #[.map (some b)] 253)).heap.size (w.alloc (.cells #[.map (some b)] 253)) w':=by
 have hbl:=hown.lt
 have hseq:SeqGives Fence.wide 2 prog 248 #[.pointer (some ⟨w.heap.size,0,none⟩)] encStr (λss=>ss.Perm (strKeys D0)) (Maps.size D0) (w.alloc (.cells #[.map (some b)] 253)):=
  AnyZ.keys_gives (ρ:=Tryz.keys210_ren) { Tryz.keys210 with } Fence.wide _ trivial rfl kQ1 w.heap.size b nn D0 _ (by simp) (by simp) (by obtain⟨es,clock,hb,Ft,hs,hD⟩:=hown;exact⟨es,clock,(Below.heap_alloc _ _ b hbl).trans hb,Ft,hs,hD⟩)
 exact AnyZ.sorted_in Tryz.sorted209 Fence.wide 5 trivial trivial trivial trivial rfl kQ1 (Tryz.sorts209 _) (enters_of func247 kQ0 rfl) 248 #[.pointer (some ⟨w.heap.size,0,none⟩)] trivial (enters_of func248 kQ0 rfl) _ _ hmax hbytes _ hseq
end Go.Proofs
end

section
namespace Go.Am
theorem Q9(c:C):(sct c).toV=sc c.toD:=rfl
theorem zE{n:Int}(h:0<=n/\n < 256):(((UInt8.ofNat n.toNat).toNat:Nat):Int)=n:=by grind [UInt8.toNat_ofNat']
theorem aaL(x:UInt8):0<=((x.toNat:Nat):Int)/\((x.toNat:Nat):Int) < 256:=by
 have:=x.toNat_lt
 omega
theorem FC{k:IntKind}{n:Int}(h:k=.u8->0<=n/\n < 256):(mkC k n).toD=.int k n:=by
 cases k with
 |u8=>show D.int .u8 _=_;grind [zE]
 |_=>rfl
theorem ajK(n:Int):0<=IntKind.u8.wrap n/\IntKind.u8.wrap n < 256:=by
 have:=wf_wrap (k:=.u8) n
 simp only[Lit.wf,akP,decide_eq_true_eq]at this;have h1:IntKind.u8.min=0:=by decide
 have h2:IntKind.u8.max=255:=by decide
 omega
theorem eT{k:IntKind}{n:Int}:(mkC k (k.wrap n)).toD=.int k (k.wrap n):=FC λh=>by simp_all[ajK]
variable{c:C}
theorem iU{k:IntKind}{n:Int}(h:kZ c=some (k,n)):c.toD=.int k n/\(k=.u8->0<=n/\n < 256):=by
 unfold kZ at h;split at h
 .rename_i k' n';cases k'<;>simp only[akO,Prod.mk.injEq,reduceCtorEq]at h<;>(obtain⟨rfl,rfl⟩:=h;exact⟨rfl,λh=>by cases h⟩)
 .rename_i x;simp only[akO,Prod.mk.injEq]at h;obtain⟨rfl,rfl⟩:=h;exact⟨rfl,λ_=>aaL x⟩
 grind
theorem Xz{k:Nat}{row:List D}(h:sf k=some row):row=gw.map D.str:=by grind [sf]
theorem wd{v:Value}(h:okT v=true):(pR v).toT=rQ v:=by
 cases v with
 |int k n=>
  simp only[pR,rQ];cases k with
  |u8=>
   simp only[okT,Lit.wf,akP,decide_eq_true_eq]at h;have h1:IntKind.u8.min=0:=by decide
   have h2:IntKind.u8.max=255:=by decide
   grind [Tt.toT,C.toD,zE]
  |_=>rfl
 |slice a l c=>cases a with
  |none=>match l,c with
   |0,0=>rfl
   |0,_+1=>rfl
   |_+1,_=>rfl
  |some _=>rfl
 |pointer p=>cases p<;>rfl
 |map p=>cases p<;>rfl
 |_=>rfl
theorem ak{s:St}{x:Operand}(h:aI x=true):ev s.toS x=(evA s x).toV:=by
 cases x with
 |tmp t=>exact dP t s.t
 |const v=>
  simp only[aI]at h;cases v with
  |agg cs=>
   simp only[ev,evA,cst,agY,At.toV,A1.toV]
   grind [ak4,okC,wd,Array.all_eq_true_iff_forall_mem]
  |_=>grind [ev,evA,cst,agY,At.toV,A1.toV,wd,okC]
 |func f=>rfl
 |global g=>
  simp only[aI]at h;simp only[ev,evA,ae7];cases a:sf g with
  |none=>rfl
  |some row=>simp only[At.toV,A1.toV,Tt.toT,Xz a];rfl
variable{i:Nat}{op:BinOp}{t:TypeId}{x:At}
section
variable {k:At->Prop}
abbrev up(k:At->Prop):AV->Prop:=λv=>∃a,v=a.toV/\k a
theorem O6{d:D}(h:k (sct c))(e:c.toD=d):up k (sc d):=⟨sct c,by rw[Q9,e],h⟩
theorem YH{c y:At}(h:xD c x y k):K0 c.toV x.toV y.toV (up k):=by
 unfold xD at h;split at h
 .rename_i b;cases b
  .rw[if_neg (by simp)]at h;exact⟨y,rfl,h⟩
  rw[if_pos rfl]at h;exact⟨x,rfl,h⟩
 grind
theorem ajF{a b:Int}(ha:0<=a/\a < 256):0<=a.tmod b/\a.tmod b < 256:=by
 refine⟨Int.tmod_nonneg _ ha.1,?_⟩;rcases Int.lt_or_le b 0 with h|h
 .rw[<- Int.tmod_neg];rcases Int.lt_or_le a (-b)with h'|h'
  .simp_all[Int.tmod_eq_of_lt]
  have:=Int.tmod_lt_of_pos a (show 0 < -b by omega);omega
 rcases Int.lt_or_le a b with h'|h'
 .simp_all[Int.tmod_eq_of_lt]
 rcases Int.lt_or_eq_of_le h with c|c
 .have:=Int.tmod_lt_of_pos a c;omega
 grind
theorem ai3{a:Int}{m:Nat}(ha:0<=a/\a < 256):0<=a.fdiv (2 ^ m)/\a.fdiv (2 ^ m) < 256:=by
 have hp:(0:Int) < 2 ^ m:=Int.pow_pos (by decide)
 rw[Int.fdiv_eq_ediv_of_nonneg _ kQ1];refine⟨Int.ediv_nonneg ha.1 kQ1,?_⟩;have:=Int.ediv_le_self (2 ^ m) ha.1
 omega
theorem aaE{x y:C}{K:C->Prop}(h:BT op x y K):vW op x.toD y.toD (λd=>∃c:C,c.toD=d/\K c):=by
 unfold BT at h;split at h
 .rename_i a b;cases op<;>first|exact h.elim|exact⟨_,rfl,h⟩|exact⟨h.1,_,rfl,h.2⟩
 split at h
 .rename_i k a k' b hx hy;obtain⟨ex,g⟩:=iU hx;obtain⟨e,f⟩:=iU hy;rw[ex,e];split at h
  .rename_i hk;unfold Ob at h;cases op<;>simp only[ahB,akS,false_or,true_or]at hk<;>simp only[vW]
   case add=>grind [eT]
   case sub=>grind [eT]
   case mul=>grind [eT]
   case quo=>grind [eT]
   case rem=>grind [FC,ajF]
   case and=>grind [eT]
   case or=>grind [eT]
   case xor=>grind [eT]
   case andNot=>grind [eT]
   case shl=>grind [eT]
   case shr=>grind [FC,ai3]
   case eql=>exact⟨hk,_,rfl,h⟩
   case neq=>exact⟨hk,_,rfl,h⟩
   case lss=>exact⟨hk,_,rfl,h⟩
   case leq=>exact⟨hk,_,rfl,h⟩
   case gtr=>exact⟨hk,_,rfl,h⟩
   case geq=>exact⟨hk,_,rfl,h⟩
  grind
 grind
theorem My{x y:D}{K K':D->Prop}(hk:∀d,K d->K' d)(h:vW op x y K):vW op x y K':=by
 cases x<;>cases y<;>try exact h.elim
 .cases op<;>simp only[vW]at h|-<;>first|exact⟨h.1,h.2.1,hk _ h.2.2⟩|grind
 cases op<;>simp only[vW]at h|-<;>first|exact⟨h.1,hk _ h.2⟩|grind|exact h.elim
theorem ag1{ck:CK}{x y:C}{b:Bool}(h:eqC ck x y=some b):eqD ck x.toD y.toD=some b:=by
 unfold eqC at h;cases ck with
 |i=>
  dsimp only at h;split at h
  .rename_i k a k' b' hx hy;rw[(iU hx).1,(iU hy).1];exact h
  grind
 |s=>
  dsimp only at h;split at h
  .exact h
  grind
 |b=>
  dsimp only at h;split at h
  .exact h
  grind
theorem EX:∀{l:List (Nat×CK)}{xs a:List C}{b:Bool},S3 l xs a=some b->ka l (xs.map C.toD) (a.map C.toD)=some b
 |[],_,_,_,h=>h
 |(o,ck)::l,xs,a,b,h=>by
  unfold S3 at h;unfold ka;rw[akT,akT];cases hx:xs[o]? with
  |none=>grind
  |some x=>
   cases hy:a[o]? with
   |none=>grind
   |some y=>
    rw[hx,hy]at h;dsimp only[Option.map_some]at h|-;cases d:eqC ck x y with
    |none=>grind
    |some c=>
     rw[d]at h;rw[ag1 d];cases l with
     |nil=>exact h
     |cons z l=>
      dsimp only at h|-;cases hr:S3 (z::l) xs a with
      |none=>grind
      |some r=>rw[hr]at h;rw[EX hr];exact h
theorem Wb(t:Tt)(h:TD t.toT≠.any\/True):(TC t).toD=TD t.toT:=by cases t<;>rfl
theorem agB{x y:C}{K:C->Prop}(h:BT op x y K):(∃b,y=.s b)\/∃k n,kZ y=some (k,n):=by
 unfold BT at h
 grind
theorem aaH{P:Program}{y:At}(h:IK P op t x y k):Mz P op t x.toV y.toV (up k):=by
 unfold IK at h;split at h
 .rename_i a b;split at h
  .rename_i g;refine⟨g,?_⟩;cases op<;>first|exact h.elim|exact⟨_,rfl,h⟩
  grind
 .rename_i q;split at h
  .rename_i kt et z g f;have e:ahG q.toD=some z:=by
    unfold ahF at f;split at f
    .rename_i ku vu s;rw[<- f];cases s<;>rfl
    .rw[<- f];rfl
    grind
   have key:ahH P op t q.toD (up k):=⟨⟨_,_,g⟩,by rw[e];cases op<;>first|exact h.elim|exact⟨_,rfl,h⟩⟩
   cases q<;>exact key
  grind
 .rename_i a b o m;have h':=aaE h
  have key:vW op a.toD b.toD (λd=>up k (sc d)):=by
   refine My ?_ h';rintro d ⟨c,rfl,hc⟩
   exact⟨sct c,rfl,hc⟩
  rcases agB h with⟨b',rfl⟩|⟨κ,n,hb⟩
  .cases a with
   |mp ku vu l=>exact h.elim
   |_=>exact key
  cases b with
  |i k n=>cases a with
   |mp ku vu l=>exact h.elim
   |_=>exact key
  |b x=>cases a with
   |mp ku vu l=>exact h.elim
   |_=>exact key
  |_=>cases hb
 .rename_i xs j;split at h
  .rename_i l hl;have r:(xs.map Tt.toT).map TD=(xs.map TC).map C.toD:=by grind [ak4,Wb]
   have p:(j.map Tt.toT).map TD=(j.map TC).map C.toD:=by grind [ak4,Wb]
   simp only[At.toV,A1.toV,Mz];rw[hl,r,p];dsimp only;split at h
   .rename_i b hb;rw[EX hb];exact⟨_,rfl,h⟩
   .rename_i b hb;rw[EX hb];exact⟨_,rfl,h⟩
   grind
  grind
 grind
theorem ah4{op:UnOp}(h:unT op x k):unK op x.toV (up k):=by
 unfold unT at h;split at h
 .exact⟨_,rfl,h⟩
 .rename_i c;split at h
  .rename_i κ n hc;simp only[At.toV,A1.toV,Tt.toT,(iU hc).1];exact O6 h eT
  grind
 .rename_i c;split at h
  .rename_i κ n hc;simp only[At.toV,A1.toV,Tt.toT,(iU hc).1];exact O6 h eT
  grind
 grind
theorem Ji(h:jt x i k):kU x.toV i (up k):=by
 unfold jt at h
 grind [At.toV,kU]
theorem US{i:At}(h:qE x i k):wU x.toV i.toV (up k):=by
 unfold qE at h
 grind [C.toD,wU,Q9]
theorem FI(h:gW x k):nE x.toV (up k):=by
 unfold gW at h;split at h
 .exact⟨_,rfl,h⟩
 .exact⟨_,rfl,h⟩
 .exact⟨_,rfl,h⟩
 grind
theorem S7{P:Program}(h:pV P t x i k):wh P t x.toV i (up k):=by
 unfold pV at h;split at h
 .rename_i fs ts hk;simp only[At.toV,A1.toV,wh];rw[hk];dsimp only;cases hf:fs[i]? with
  |none=>grind
  |some f=>
   obtain⟨off,size,a⟩:=f;rw[hf]at h
   match a,h with
   |some false,h=>
    dsimp only at h|-;rw[akT];cases b:ts[off]? with
    |none=>grind
    |some t'=>rw[b]at h;exact⟨_,rfl,h⟩
   |some true,h=>
    dsimp only at h|-;split at h
    .rename_i hb;refine⟨by simp_all,.one (.agg ((ts.drop off).take size)),?_,h⟩;simp only[At.toV,A1.toV,amS,am3]
    grind
   |none,h=>omega
 grind
theorem Xf{P:Program}{d b:TypeId}(h:xp P d b x k):ur P d b x.toV (up k):=by
 unfold xp at h;split at h
 .rename_i f κ h1 h2;split at h
  .rename_i c;split at h
   .rename_i g n hc;simp only[At.toV,A1.toV,Tt.toT,(iU hc).1,ur,h1,h2];exact O6 h eT
   grind
  grind
 .rename_i e h1 h2;split at h
  .rename_i h3;split at h
   .rename_i l;simp only[At.toV,A1.toV,Tt.toT,C.toD,ur,h1,h2];refine⟨h3,?_⟩;have:∀l:a8,ut (l.map (ap .b8))=some l:=by
     intro l;induction l with
     |nil=>rfl
     |cons a l ih=>simp_all[ap,ut]
    rw[this l];exact⟨_,rfl,h⟩
   .simp only[At.toV,A1.toV,Tt.toT,ur,h1,h2];exact⟨h3,_,rfl,h⟩
   grind
  grind
 grind
end
theorem LA(t:Tt):t.toT.sure=t.sure:=by
 cases t with
 |d c=>cases c<;>rfl
 |_=>rfl
def RH(t:Tt)(t':T):Prop:=t'=t.toT\/∃sh u l,∃l':List (List D),t=.ow sh u l/\t'=.ow sh l'/\l'.length=l.length
structure HL (ts:List Tt) (ts':List T):Prop where
 len:ts'.length=ts.length
 nth:∀(i:Nat)(t:Tt)(t':T),ts[i]? = some t->ts'[i]? = some t'->RH t t'
theorem vM(ts:List Tt):HL ts (ts.map Tt.toT):=by refine⟨by simp,λi t t' h h'=>?_⟩;rw[akT,h]at h';exact .inl (Option.some.inj h').symm
variable{ts:List Tt}{ts':List T}
theorem HL.drop(h:HL ts ts')(n:Nat):HL (ts.drop n) (ts'.drop n):=⟨by simp[h.len],λi t t' h1 h2=>by grind [nth]⟩
theorem HL.take(h:HL ts ts')(n:Nat):HL (ts.take n) (ts'.take n):=
 ⟨by simp[h.len],λi t t' h1 h2=>by grind [nth]⟩
theorem ma:∀(q:List Step)(sub:List Sh)(l:List (List D))(x:D),(bX sub l x q).length=l.length
 |[],_,_,_=>rfl
 |[st],_,_,_=>by simp[bX]
 |st::a::r,sub,l,x=>by grind [bX]
theorem zb(cells:List Tt)(hole:Option (Nat×Step×List Step)):HL cells (holed (cells.map Tt.toT) hole):=by
 cases hole with
 |none=>exact vM cells
 |some h=>
  obtain⟨off,st,q⟩:=h;simp only[holed];split
  .rename_i sub l hc;refine⟨by simp,λi t t' h1 h2=>?_⟩;by_cases hi:off=i
   .subst hi;rw[akT,h1]at hc;have a:=Option.some.inj hc
    have c:off < (cells.map Tt.toT).length:=by grind
    rw[alH c]at h2;have b:=Option.some.inj h2
    cases t with
    |ow sh u d=>simp only[Tt.toT,T.ow.injEq]at a;obtain⟨rfl,rfl⟩:=a;exact .inr ⟨_,_,_,_,rfl,b.symm,by rw[ma];simp⟩
    |_=>grind [Tt.toT]
   rw[am0 hi]at h2;exact(vM cells).nth i t t' h1 h2
  grind [vM]
theorem VU{t:Tt}{t':T}(h:RH t t')(q:Pl):Cr q t'=(Lb q t).toT:=by
 rcases h with rfl|⟨sh,u,l,l',rfl,rfl,_⟩
 .cases t<;>rfl
 rfl
theorem ZS(h:HL ts ts')(p:Pl):ve p ts'=(Bl p ts).map Tt.toT:=by
 refine al1 λi=>?_
 grind [ve,Bl,HL.len,VU,HL.nth]
variable{u:U}
theorem p7(l:List (El u))(h:i<l.length):(l.map (ap u)).getD i []=ap u (l.getD i (dflt u)):=by grind
theorem l7(l:List (El u))(h:i<l.length):(l.map (ap u))[i]? = some (ap u (l.getD i (dflt u))):=by grind
def Yj(s:Sh)(c:C):Tt:=match s,c with
 |Sh.fr,x=>Tt.d x
 |Sh.ow s,C.li u' l'=>Tt.ow s u' l'
 |_,_=>Tt.any
theorem Yk(s:Sh)(c:C):mkT s c.toD=(Yj s c).toT:=by
 cases s with
 |fr=>rfl
 |ow s=>cases c<;>rfl
theorem Gn:∀(s:List Sh)(c:List C),List.zipWith mkT s (c.map C.toD)=(List.zipWith Yj s c).map Tt.toT
 |[],_=>by simp
 |_::_,[]=>by simp
 |s::a,c::cs=>by grind [Yk]
theorem M8:∀{path:List Step}{sub:List Sh}{u:U}{l:List (El u)}{n:Nat}{ts:List Tt}{K:List T->Prop},okO sub (l.map (ap u)) path->inT sub u l n path=some ts->K (ts.map Tt.toT)->inK sub (l.map (ap u)) n path K
 |[],_,_,_,_,_,_,h,_,_=>h.elim
 |[st],sub,u,l,n,ts,K,h,a,b=>by
  obtain⟨h1,h2,h3⟩:=h;rw[akV]at h1;simp only[inT]at a;split at a
  .rename_i hb;simp only[akO]at a;refine⟨akZ hb,?_⟩;rw[l7 l h1];dsimp only;rw[<- bZ,<- am3,<- amS,Gn];subst a;exact b
  grind
 |st::f::r,sub,u,l,n,ts,K,h,a,b=>by
  obtain⟨⟨h1,h2,h3⟩,h4⟩:=h;rw[akV]at h1;simp only[inT]at a;split at a
  .rename_i s u' l' c e;simp only[inK];rw[l7 l h1];dsimp only;have d:(ap u (l.getD st.idx (dflt u)))[st.off]? = some (.li (l'.map (ap u'))):=by rw[<- bZ,akT,e];rfl
   rw[c,d];dsimp only;rw[c,p7 l h1,List.getD,d]at h4;exact M8 h4 a b
  grind
def okP(m:Mm)(p:Pl):Prop:=match p.path with
 |[]=>True
 |st::q=>∃r sub l,ah m p.root=some r/\r.cells[p.off]? = some (.ow sub l)/\okO sub l (st::q)
variable{p:Pl}
theorem Oi{m:Mm}(h:bU m p):okP m p:=by grind [okP,bU]
theorem qh{m:Mm}(h:gY m p):okP m p:=by grind [okP,gY]
variable{n:Nm}{r:Rt}
theorem bi{m:List (Nm×Nat×Rt)}(h:bK m n=some r):ah (toM m) n=some r.toR:=by grind [uz]
theorem Rg{a:List Sh}{xs:List D}{t:T}(h:(List.zipWith mkT a xs)[i]? = some t):∃s x,a[i]? = some s/\xs[i]? = some x/\t=mkT s x:=by grind
theorem XH:∀{path hp:List Step}{sub:List Sh}{u:U}{l:List (El u)}{n:Nat}{ts:List Tt}{K:List T->Prop},path.length<hp.length->okO sub (bX sub (l.map (ap u)) .any hp) path->inT sub u l n path=some ts->(∀ts',HL ts ts'->K ts')->inK sub (bX sub (l.map (ap u)) .any hp) n path K
 |[],_,_,_,_,_,_,_,_,h,_,_=>h.elim
 |_::_,[],_,_,_,_,_,_,g,_,_,_=>by grind
 |[_],[_],_,_,_,_,_,_,g,_,_,_=>by grind
 |_::_::_,[_],_,_,_,_,_,_,g,_,_,_=>by grind
 |[st],h::h'::hr,sub,u,l,n,ts,K,g,q,j,A=>by
  have f:(bX sub (l.map (ap u)) .any (h::h'::hr)).length=l.length:=by grind [ma]
  have c:=q.1
  rw[f]at c;simp only[inT]at j;split at j
  .rename_i hb;simp only[akO]at j;refine⟨akZ hb,?_⟩;have y:((l.map (ap u))[st.idx]?)=some (ap u (l.getD st.idx (dflt u))):=l7 l c
   have key:∀x,(bX sub (l.map (ap u)) .any (h::h'::hr))[st.idx]? = some x->(x=ap u (l.getD st.idx (dflt u))\/∃s l1,sub[h.off]? = some (.ow s)/\(ap u (l.getD st.idx (dflt u)))[h.off]? = some (.li l1)/\x=(ap u (l.getD st.idx (dflt u))).set h.off (.li (bX s l1 .any (h'::hr)))):=by
    intro x hx;simp only[bX]at hx;split at hx
    .rename_i s l1 v k;rw[List.getElem?_set]at hx;split at hx
     .rename_i I;split at hx
      .have w:=Option.some.inj hx
       rw[I,p7 l c]at k w;refine .inr ⟨s,l1,v,?_,w.symm⟩;rw[List.getD]at k;cases h3:(ap u (l.getD st.idx (dflt u)))[h.off]? with
       |none=>rw[h3]at k;cases k
       |some d=>grind
      grind
     grind
    grind
   have m:st.idx < (bX sub (l.map (ap u)) .any (h::h'::hr)).length:=by omega
   rw[akQ m];dsimp only;rcases key _ (akQ m)with e|⟨s,l1,v,k,e⟩
   .rw[e,<- bZ,<- am3,<- amS,Gn];subst j;exact A _ (vM _)
   rw[e];refine A _ ?_;subst j;have p:List.zipWith mkT ((sub.drop st.off).take n) (((ap u (l.getD st.idx (dflt u))).drop st.off).take n)=(List.zipWith Yj ((sub.drop st.off).take n) (((flat u (l.getD st.idx (dflt u))).drop st.off).take n)).map Tt.toT:=by rw[<- bZ,<- am3,<- amS,Gn]
   refine⟨?_,λi t t' S H=>?_⟩
   .grind [akV]
   obtain⟨s0,M,b1,b2,b3⟩:=Rg H;have z:((List.zipWith Yj ((sub.drop st.off).take n) (((flat u (l.getD st.idx (dflt u))).drop st.off).take n)).map Tt.toT)[i]? = some t.toT:=by grind [Yj]
   rw[<- p]at z;obtain⟨s1,Q,D,o,B⟩:=Rg z;rw[b1]at D;obtain rfl:=Option.some.inj D;rw[List.getElem?_take]at b1 b2 o;split at b2
   .rename_i C;rw[if_pos C]at b1 o;rw[amW]at b1 b2 o;rw[List.getElem?_set]at b2;split at b2
    .rename_i G;rw[<- G]at b1 o;rw[v]at b1;obtain rfl:=Option.some.inj b1;rw[k]at o;obtain rfl:=Option.some.inj o;split at b2
     .obtain rfl:=Option.some.inj b2;rw[b3];cases t with
      |ow F L l2=>
       simp only[mkT,Tt.toT,T.ow.injEq]at B;obtain⟨rfl,R⟩:=B;refine .inr ⟨_,_,_,_,rfl,rfl,?_⟩
       grind [ma]
      |_=>grind [mkT,Tt.toT]
     grind
    rw[b2]at o;obtain rfl:=Option.some.inj o;rw[b3,<- B];exact .inl rfl
   grind
  grind
 |st::J::r,h::h'::hr,sub,u,l,n,ts,K,g,q,j,A=>by
  have f:(bX sub (l.map (ap u)) .any (h::h'::hr)).length=l.length:=by grind [ma]
  obtain⟨⟨hi,O,P⟩,a⟩:=q;rw[f]at hi;simp only[inT]at j;split at j
  .rename_i s u' l' v k;have y:((l.map (ap u))[st.idx]?)=some (ap u (l.getD st.idx (dflt u))):=l7 l hi
   have N:(ap u (l.getD st.idx (dflt u)))[st.off]? = some (.li (l'.map (ap u'))):=by rw[<- bZ,akT,k];rfl
   have key:∃x,(bX sub (l.map (ap u)) .any (h::h'::hr))[st.idx]? = some x/\(x[st.off]? = some (.li (l'.map (ap u')))\/x[st.off]? = some (.li (bX s (l'.map (ap u')) .any (h'::hr)))):=by
    simp only[bX]
    grind
   obtain⟨x,hx,b⟩:=key;have E:(bX sub (l.map (ap u)) .any (h::h'::hr)).getD st.idx []=x:=by grind
   rw[v,E]at a;simp only[inK];rw[hx];dsimp only;rw[v];rcases b with b|b
   .grind [M8,vM]
   rw[List.getD,b]at a;rw[b];dsimp only at a|-;exact XH (by grind) a j A
  grind
theorem Mw{m:List (Nm×Nat×Rt)}{n:Nat}{K:List T->Prop}(hp:okP (toM m) p)(h:atT m p n=some ts)(v:∀ts',HL ts ts'->K ts'):atK (toM m) p n K:=by
 unfold atT at h;split at h
 .cases h
 rename_i r hr;unfold atK;rw[bi hr];dsimp only;unfold okP at hp;split at h
 .rename_i a;rw[a];split at h
  .rename_i hb;simp only[akO]at h;have o:=zb r.cells r.hole
   refine⟨?_,v _ ?_⟩
   .show p.off+n<=(holed (r.cells.map Tt.toT) r.hole).length
    rw[o.len];simp_all
   subst h;exact(o.drop _).take _
  grind
 rename_i st q a;rw[a]at hp|-;split at h
 .rename_i sub u l b hc;obtain⟨w,j,l',k,x,z⟩:=hp;rw[bi hr]at k;obtain rfl:=Option.some.inj k;have c:r.toR.cells[p.off]? = some (.ow sub (l.map (ap u)))->(match st::q,r.toR.cells[p.off]? with
    |[],_=>p.off+n<=r.toR.cells.length/\K ((r.toR.cells.drop p.off).take n)
    |st::q,some (.ow sub l)=>inK sub l n (st::q) K
    |_,_=>False):=by
   grind [M8,vM]
  cases e:r.hole with
  |none=>
   refine c ?_;show(holed (r.cells.map Tt.toT) r.hole)[p.off]? = _
   rw[e];show(r.cells.map Tt.toT)[p.off]? = _
   rw[akT,hc];rfl
  |some t=>
   obtain⟨off,f,i⟩:=t;rw[e]at b;have s:(st::q).length < (f::i).length:=akZ b
   by_cases d:off=p.off
   .subst d;have g:p.off < (r.cells.map Tt.toT).length:=by grind
    have y:r.toR.cells[p.off]? = some (.ow sub (bX sub (l.map (ap u)) .any (f::i))):=by
     show(holed (r.cells.map Tt.toT) r.hole)[p.off]? = _
     grind [holed,Tt.toT]
    grind [XH]
   refine c ?_;show(holed (r.cells.map Tt.toT) r.hole)[p.off]? = _
   rw[e];simp only[holed];split
   .rw[am0 d,akT,hc];rfl
   rw[akT,hc];rfl
 grind
theorem BA{m:List (Nm×Nat×Rt)}{sh:List Sh}{l:List (El u)}{K:List T->Prop}(hp:okP (toM m) p)(h:sliceAt m p=some ⟨sh,u,l⟩)(f:∀l':List (List D),l'.length=l.length->K [.ow sh l']):atK (toM m) p 1 K:=by
 unfold sliceAt at h;split at h
 .rename_i b u' l' d;cases h;refine Mw hp d (λts' a=>?_);have hl:=a.len
  match ts',hl with
  |[t'],_=>
   rcases a.nth 0 _ _ rfl rfl with e|⟨c,j,l2,n,i,g,k⟩
   .rw[e];exact f _ (by simp)
   grind
 grind
variable{gd:Option (Nat×Bool)}{ps:Array (Nat×Operand)}{zs:List Value}
section
variable {k:At->Prop} {m:List (Nm×Nat×Rt)}
theorem E3{n:Nat}{q:Prop}(h:gift gd n q):n<=4611686018427387904->q:=by
 cases gd with
 |none=>exact h
 |some _=>exact λ_=>h
theorem acU{k:Nat->Prop}(hp:∀p,x=.one (.c (.rf p))->okP (toM m) p)(h:Ku gd m x k):Ks (toM m) x.toV k:=by
 unfold Ku at h;split at h
 .exact E3 h
 .grind [At.toV,A1.toV,Tt.toT,C.toD,Ks,E3]
 .exact h
 all_goals grind [At.toV,A1.toV,Tt.toT,Ks,BA,E3]
theorem m0{x:Option At}{d:Nat}{k:Nat->Prop}(h:fX x d k):ic (x.map At.toV) d k:=by
 unfold fX at h;split at h
 .exact h
 .exact h
 grind
theorem UH{P:Program}{lo hi:Option At}(h:qC P t x lo hi k):mN P t x.toV (lo.map At.toV) (hi.map At.toV) (up k):=by
 have c:∀{y:Option At}{d:Nat}{k1 k2:Nat->Prop},(∀n,k1 n->k2 n)->fX y d k1->fX y d k2:=by
  intro y d k1 k2 hk hb;unfold fX at hb|-
  grind
 unfold qC at h;split at h
 .rename_i l;split at h
  .rename_i f;refine⟨f,m0 (c (λa ha=>m0 (c (λb hb=>?_) ha)) h)⟩;exact⟨hb.1,_,rfl,hb.2⟩
  grind
 .rename_i u l;split at h
  .rename_i e f;split at h
   .rename_i hc;simp only[akP]at hc;simp only[At.toV,A1.toV,Tt.toT,C.toD,mN,f];refine⟨hc.1,λy hy=>?_,m0 (c (λa ha=>?_) h)⟩
    .grind [lZ,akU]
    rw[akV]
    grind [m0,At.toV,A1.toV,Tt.toT,C.toD,amS,am3]
   grind
  grind
 all_goals grind [At.toV,A1.toV,Tt.toT,mN,m0]
theorem p9{n:Nat}(h:jx m p n=true):jc (toM m) p n:=by
 unfold jx at h;split at h
 .cases h
 rename_i r hr;unfold jc room;rw[bi hr];dsimp only;have d:=zb r.cells r.hole
 split at h
 .rename_i a;rw[a];show n < (holed (r.cells.map Tt.toT) r.hole).length-p.off
  rw[d.len];exact akZ h
 .rename_i st q sub u l a hc;rw[a];split at h
  .rename_i k hk;have f:=(alR.1 hc).1
   have b:p.off < (holed (r.cells.map Tt.toT) r.hole).length:=by grind [HL.len]
   have:=d.nth p.off _ _ hc (akQ b)
   have e:∃l',r.toR.cells[p.off]? = some (.ow sub l'):=by
    rcases this with e|⟨sh,j,l2,g,c,i,_⟩
    .exact⟨_,by show(holed _ _)[p.off]? = _;rw[akQ b,e];rfl⟩
    simp only[Tt.ow.injEq]at c;obtain⟨rfl,_,_⟩:=c;exact⟨g,by show(holed _ _)[p.off]? = _;grind⟩
   grind [akZ]
  grind
 grind
theorem B0{P:Program}(h:fu P m t x i k):gF P (toM m) t x.toV i (up k):=by
 unfold fu at h;split at h
 .rename_i fs a;unfold gF;rw[a];dsimp only;cases hf:fs[i]? with
  |none=>grind
  |some f=>
   obtain⟨off,size,b⟩:=f;rw[hf]at h;cases size with
   |zero=>grind
   |succ size=>
    dsimp only at h|-;refine⟨by omega,?_⟩;split at h
    .split at h
     .rename_i hr;exact⟨p9 hr,_,rfl,h⟩
     grind
    .exact⟨_,rfl,h⟩
    grind
 grind
theorem si{P:Program}{i:At}(hp:∀p,x=.one (.c (.rf p))->okP (toM m) p)(h:eG P m t x i k):gH P (toM m) t x.toV i.toV (up k):=by
 unfold eG at h;split at h
 .rename_i κ n;simp only[At.toV,A1.toV,Tt.toT,C.toD,gH];split at h
  .rename_i e a;rw[a];split at h
   .grind [At.toV,A1.toV,Tt.toT,lZ,akU,bZ]
   .rename_i p;split at h
    .rename_i hc;simp only[akP]at hc;split at h
     .rename_i sh u l hs;split at h
      .rename_i hb;obtain⟨h1,h2⟩:=h;simp only[At.toV,A1.toV,Tt.toT];refine⟨hc.1,by have:=akZ hc.2;omega,BA (hp p rfl) hs (λl' hl=>?_)⟩;dsimp only;exact⟨⟨h1.1,by omega⟩,akU hb,_,rfl,h2⟩
      grind
     grind
    grind
   grind
  .rename_i N e a;rw[a];split at h
   .rename_i u l i;split at h
    .rename_i hc;simp only[akP]at hc;obtain⟨h1,h2⟩:=h;simp only[At.toV,A1.toV,Tt.toT];refine⟨hc.1.1,h1,_,?_,h2⟩;simp only[At.toV,A1.toV,Tt.toT];rw[akU hc.1.2,Nat.mul_one,Nat.add_comm];rfl
    grind
   all_goals grind [At.toV,A1.toV,Tt.toT,p9]
  grind
 grind
theorem AG{P:Program}(hp:∀p,x=.one (.c (.pl p))->okP (toM m) p)(h:lc P m t x k):uJ P (toM m) t x.toV (up k):=by
 unfold lc at h;split at h
 .rename_i b;refine⟨b,?_⟩;split at h
  .rename_i row o;simp only[At.toV,A1.toV,Tt.toT];split at h
   .rename_i ha;rw[if_pos ha];split at h
    .rename_i hb;refine⟨by simp_all,λ_=>⟨_,?_,h⟩⟩;simp only[At.toV,A1.toV,AV.one.injEq,AV1.agg.injEq];rw[al3,<- am3,<- amS,al3];rfl
    grind
   rename_i ha;rw[if_neg (by grind),akT];split at h
   .rename_i c hc;rw[hc];exact λ_=>⟨_,rfl,h⟩
   grind
  .rename_i u l i;simp only[At.toV,A1.toV,Tt.toT];split at h
   .rename_i ha hl;have e:l[i]? = some (l.getD i (dflt u)):=by grind
    rw[if_neg (by grind),akT,e];exact λ_=>⟨_,rfl,h.2⟩
   grind
  .rename_i p;simp only[At.toV,A1.toV,Tt.toT];split at h
   .grind [Mw,At.toV,A1.toV,ZS]
   rename_i ha;rw[if_neg (by grind)];split at h
   .rename_i t' a;refine Mw (hp p rfl) a (λts' d=>?_);have hl:=d.len
    match ts',hl with
    |[f],_=>
     dsimp only;refine λ_=>⟨_,?_,h⟩
     simp only[At.toV,A1.toV];rw[VU (d.nth 0 _ _ rfl rfl)]
   grind
  grind
 grind
theorem sL(x:At):ff x.toV=(lU x).map (·.map Tt.toT):=by
 cases x with
 |one x=>cases x<;>rfl
 |_=>rfl
theorem Ui{α β:Type}(f:α->β)(ts cs:List α)(off:Nat):(overw ts off cs).map f=overw (ts.map f) off (cs.map f):=by grind [overw,amS,am3]
theorem q7{pl:Nat->Option (Nat×Nat)}:∀{a:List (Nat×At)}{ts ts':List Tt},mF pl ts a=some ts'->jX pl (ts.map Tt.toT) (a.map λx=>(x.1,x.2.toV))=some (ts'.map Tt.toT)
 |[],ts,ts',h=>by simp only[mF,akO]at h;subst h;rfl
 |(i,x)::r,ts,ts',h=>by
  simp only[mF]at h;simp only[List.map_cons,jX];cases b:pl i with
  |none=>grind
  |some q=>
   obtain⟨off,size⟩:=q;cases hc:lU x with
   |none=>grind
   |some cs=>
    rw[b,hc]at h;dsimp only at h;split at h
    .rename_i hb;simp only[akP]at hb;rw[sL,hc];dsimp only[Option.map_some];have hs:(cs.map Tt.toT).all T.sure=true:=by grind [LA]
     rw[if_pos ⟨by grind [akU],by rw[akV,akV];exact akZ hb.1.2,hs⟩];rw[<- Ui];exact q7 h
    grind
theorem wF{s:St}(h:(ps.toList.all λx=>aI x.2)=true):lg s.toS ps=(fB s ps).map λx=>(x.1,x.2.toV):=by grind [lg,fB,ak4,ak]
theorem Qo(h:zs.all okT=true):(zs.map pR).map Tt.toT=zs.map rQ:=by grind [ak4,wd]
theorem aeI{P:Program}{pl:List (Nat×Nat)}(h:zst P t=some (zs,pl)):zs.all okT=true:=by grind [zst]
theorem Sk{P:Program}{a:List (Nat×At)}(h:pL P t a k):sJ P t (a.map λx=>(x.1,x.2.toV)) (up k):=by
 unfold pL at h;split at h
 .rename_i zs b c;split at h
  .rename_i ts hf;unfold sJ;rw[c];dsimp only;have:=q7 hf
   rw[Qo (aeI c)]at this;rw[this];exact⟨.one (.agg ts),rfl,h⟩
  grind
 grind
end
theorem ea(bad:Bool->Pl->Bool)(t:Tt):(t.kill bad).toT=t.toT.kill bad:=by
 cases t with
 |pl p=>
  show(if bad false p=true then Tt.any else Tt.pl p).toT=if bad false p=true then T.any else T.pl p
  grind [Tt.toT]
 |rf p=>
  show(if bad true p=true then Tt.any else Tt.rf p).toT=if bad true p=true then T.any else T.rf p
  grind [Tt.toT]
 |_=>rfl
theorem zp(bad:Bool->Pl->Bool)(ts:List Tt):(ts.map (·.kill bad)).map Tt.toT=(ts.map Tt.toT).map (·.kill bad):=by grind [ak4,ea]
theorem wY(bad:Bool->Pl->Bool)(x:A1):(x.kill bad).toV=x.toV.kill bad:=by cases x<;>grind [A1.kill,A1.toV,AV1.kill,ea,zp]
theorem Gw(bad:Bool->Pl->Bool)(x:At):(x.kill bad).toV=x.toV.kill bad:=by
 cases x with
 |one x=>simp only[At.kill,At.toV,AV.kill,wY]
 |tup xs=>simp_all[At.kill,At.toV,AV.kill,wY]
 |any=>rfl
variable{bad:Bool->Pl->Bool}
theorem iK{t:Tt}(h:t.hit bad=false):t.kill bad=t:=by cases t<;>grind [Tt.hit,Tt.kill]
theorem pF:∀{ts:List Tt},ts.any (·.hit bad)=false->ts.map (·.kill bad)=ts
 |[],_=>rfl
 |t::ts,h=>by simp only[List.any_cons,Bool.or_eq_false_iff]at h;rw[List.map_cons,iK h.1,pF h.2]
theorem yA{x:A1}(h:x.hit bad=false):x.kill bad=x:=by
 cases x with
 |c t=>simp only[A1.kill,iK (show t.hit bad=false from h)]
 |agg ts=>simp only[A1.kill,pF (show ts.any _=false from h)]
theorem LW(h:x.hit bad=false):x.kill bad=x:=by
 cases x with
 |one x=>simp only[At.kill,yA (show x.hit bad=false from h)]
 |tup xs=>
  simp only[At.hit]at h;simp only[At.kill]
  congr 1
  induction xs<;>grind [yA]
 |any=>rfl
theorem M7(bad:Bool->Pl->Bool)(cells:List Tt)(hole:Option (Nat×Step×List Step)) :
  holed ((cells.map (·.kill bad)).map Tt.toT) hole=(holed (cells.map Tt.toT) hole).map (·.kill bad):=by
 rw[zp];cases hole with
 |none=>rfl
 |some h=>
  obtain⟨off,st,q⟩:=h;simp only[holed];rw[akT (f:=λt=>T.kill bad t)];cases hc:(cells.map Tt.toT)[off]? with
  |none=>rfl
  |some t=>simp only[Option.map_some];cases t<;>grind [T.kill,alM]
theorem xk(bad:Bool->Pl->Bool)(r:Rt):(r.kill bad).toR={ r.toR with cells:=r.toR.cells.map (·.kill bad) }:=by simp only[Rt.toR,Rt.kill,M7]
theorem nr(bad:Bool->Pl->Bool)(nx:Nat)(t:List (Nat×Nat×At)):(lb bad nx t).map (λx=>(x.1,x.2.2.toV))=nu bad (t.map λx=>(x.1,x.2.2.toV)):=by grind [lb,nu,ak4,Gw]
theorem eI(bad:Bool->Pl->Bool)(nx:Nat)(m:List (Nm×Nat×Rt)):toM (cc bad nx m)=aM bad (toM m):=by grind [cc,aM,ak4,xk]
variable{nx:Nat}
theorem Et{m:List (Nm×Nat×Rt)}:ND (cc bad nx m) ↔ ND m:=by grind [cc]
theorem AM{k:Nm}:∀{m:List (Nm×Nat×Rt)},k∈(e8 m n).map (·.1)->k∈m.map (·.1)/\k≠n
 |[],h=>by simp[e8]at h
 |(k',j,v)::m,h=>by
  simp only[e8]at h;split at h
  .have:=AM h;grind
  rename_i hk;simp only[List.map_cons,akX]at h;rcases h with rfl|h
  .grind
  have:=AM h;grind
theorem L8{n:Nm}:∀{m:List (Nm×Nat×Rt)},ND m->ND (e8 m n)
 |[],_=>by simp[ND,e8]
 |(k,j,v)::m,h=>by
  have h':k ∉ m.map (·.1)/\(m.map (·.1)).Nodup:=by grind
  simp only[e8];split
  .exact L8 h'.2
  have:=L8 (n:=n) h'.2
  grind [AM]
theorem DG(n:Nm)(i:Nat)(r:Rt):∀m:List (Nm×Nat×Rt),(dv m n i r).map (·.1)=m.map (·.1)
 |[]=>rfl
 |(k,j,v)::m=>by
  simp only[dv];split
  .rfl
  simp only[List.map_cons,DG n i r m]
theorem fZ{g:G}{s:St}{a:Act}{w:World}{H:FH}{γ:Gam}{F:Nm->Fp}(h:RX g s.toS a w H γ F):ND s.m:=by
 have:=h.mem.keys
 grind [St.toS]
theorem bF{s:St}(h:ND s.m):(s.drop n).toS=s.toS.drop n:=by
 have h1:=nr (bm n) s.nx s.t
 have h2:=eI (bm n) s.nx (e8 s.m n)
 rw[m8 n s.m h]at h2;exact S_ext h1 h2
where
 S_ext {t t':List (Nat×AV)} {m m':Mm} (h1:t=t') (h2:m=m'):(⟨t,m⟩:S)=⟨t',m'⟩:=by grind
theorem P4{s:St}(h:ND s.m):ND (s.drop n).m:=Et.2 (L8 h)
theorem bx{s:St}(h:ND s.m):(s.fresh n).toS=s.toS.fresh n:=by
 unfold St.fresh S.fresh;have e:ah s.toS.m n=(bK s.m n).map Rt.toR:=uz n s.m
 grind [bF]
def SEq(s s':S):Prop:=(∀i,aW s.t i=aW s'.t i)/\s.m=s'.m
theorem bJ{g:G}{s s':S}{a:Act}{w:World}{H:FH}{γ:Gam}{F:Nm->Fp}(e:SEq s s')(h:RX g s a w H γ F):RX g s' a w H γ F:=by obtain⟨t,m⟩:=s;obtain⟨t',m'⟩:=s';obtain⟨b,c⟩:=e;dsimp only at b c;subst c;exact⟨h.mem,h.fr,h.nt,h.df,λi=>by rw[<- b i];exact h.t i⟩
theorem C9{g:G}{s s':S}{a:Act}{w:World}(e:SEq s s')(h:R g s a w):R g s' a w:=by obtain⟨H,γ,F,h⟩:=h;exact⟨H,γ,F,bJ e h⟩
theorem aQ(s:St)(d:Option Tmp)(v:At):SEq (s.toS.put d v.toV) (s.put d v).toS:=by
 cases d with
 |none=>exact⟨λ_=>rfl,rfl⟩
 |some d=>
  refine⟨λi=>?_,rfl⟩;show aW (tw _ d v.toV) i=aW ((d,v.toV)::_) i
  rw[iT];rfl
theorem DM(f:Nat×Nat×At->Nat×At)(k:Nat):∀t:List (Nat×Nat×At),cg (t.map λx=>(x.1,f x)) k=(cg t k).map λy=>f (k,y)
 |[]=>rfl
 |(i,j,v)::t=>by
  simp only[List.map_cons,cg];cases hb:Nat.beq i k with
  |true=>grind [akU]
  |false=>exact DM f k t
theorem wv(f:Nm×Nat×Rt->Nat×Rt)(k:Nm):∀t:List (Nm×Nat×Rt),cZ (t.map λx=>(x.1,f x)) k=(cZ t k).map λy=>f (k,y)
 |[]=>rfl
 |(i,j,v)::t=>by
  simp only[List.map_cons,cZ];by_cases hb:i=k
  .grind
  rw[if_neg hb,if_neg hb];exact wv f k t
structure Ext (s0 s:St):Prop where
 nx:s0.nx<=s.nx
 t:∀k j v,cg s.t k=some (j,v)->j<s0.nx->cg s0.t k=some (j,v)
 m:∀n j r,cZ s.m n=some (j,r)->j<s0.nx->cZ s0.m n=some (j,r)
theorem Ext.refl(s:St):Ext s s:=⟨akR _,λ_ _ _ h _=>h,λ_ _ _ h _=>h⟩
theorem Ext.trans{a b c:St}(h1:Ext a b)(h2:Ext b c):Ext a c:=⟨alC h1.nx h2.nx,λk j v h hj=>h1.t k j v (h2.t k j v h (Nat.lt_of_lt_of_le hj h1.nx)) hj,λk j v h hj=>h1.m k j v (h2.m k j v h (Nat.lt_of_lt_of_le hj h1.nx)) hj⟩
abbrev L2(nx:Nat)(t t':List (Nat×Nat×At)):Prop:=∀k j v,cg t' k=some (j,v)->j<nx->cg t k=some (j,v)
abbrev GB(nx:Nat)(m m':List (Nm×Nat×Rt)):Prop:=∀n j r,cZ m' n=some (j,r)->j<nx->cZ m n=some (j,r)
theorem GB.trans{a b c:List (Nm×Nat×Rt)}(h1:GB nx a b)(h2:GB nx b c):GB nx a c:=λn j r h hj=>h1 n j r (h2 n j r h hj) hj
theorem L2.trans{a b c:List (Nat×Nat×At)}(h1:L2 nx a b)(h2:L2 nx b c):L2 nx a c:=λn j r h hj=>h1 n j r (h2 n j r h hj) hj
theorem vK{t:List (Nat×Nat×At)}(d i:Nat)(v:At)(hi:nx<=i):L2 nx t ((d,i,v)::t):=by grind [cg]
theorem km{t:List (Nm×Nat×Rt)}(d:Nm)(i:Nat)(v:Rt)(hi:nx<=i):GB nx t ((d,i,v)::t):=by grind [cZ]
theorem tR{t:List (Nat×Nat×At)}(a:At->Bool)(f:At->At)(hf:∀v,a v=false->f v=v)(hi:nx<=i) :
  L2 nx t (t.map λx=>(x.1,stp (a x.2.2) i x.2.1,f x.2.2)):=by
 intro k j v h hj;rw[DM (λx=>(stp (a x.2.2) i x.2.1,f x.2.2))]at h;cases hl:cg t k with
 |none=>grind
 |some y=>obtain⟨j',b⟩:=y;rw[hl]at h;simp only[Option.map_some,akO,Prod.mk.injEq]at h;cases hc:a b<;>grind [stp]
theorem gO{t:List (Nat×Nat×At)}(hi:nx<=i):L2 nx t (lb bad i t):=tR (·.hit bad) (·.kill bad) (λ_ h=>LW h) hi
theorem dQ{t:List (Nm×Nat×Rt)}(hi:nx<=i):GB nx t (cc bad i t):=by
 intro k j v h hj;unfold cc at h;rw[wv (λx=>(stp (x.2.2.cells.any (·.hit bad)) i x.2.1,x.2.2.kill bad))]at h;cases hl:cZ t k with
 |none=>grind
 |some y=>
  obtain⟨j',r⟩:=y;rw[hl]at h;simp only[Option.map_some,akO,Prod.mk.injEq]at h;cases hc:r.cells.any (·.hit bad)with
  |true=>grind [stp]
  |false=>
   rw[hc]at h;have:r.kill bad=r:=by unfold Rt.kill;rw[pF hc]
   grind [stp]
theorem sY(n k:Nm):∀m:List (Nm×Nat×Rt),cZ (e8 m n) k=if k=n then none else cZ m k
 |[]=>by simp[e8,cZ]
 |(i,j,v)::m=>by
  simp only[e8];by_cases h:i=n
  .subst h;rw[if_pos rfl,sY i k m]
   grind [cZ]
  rw[if_neg h];simp only[cZ];by_cases hk:i=k
  .grind
  rw[if_neg hk,if_neg hk,sY n k m]
theorem mQ{m:List (Nm×Nat×Rt)}(n:Nm):GB nx m (e8 m n):=by grind [sY]
theorem dx(n:Nm)(r:Rt)(hi:nx<=i):∀m:List (Nm×Nat×Rt),GB nx m (dv m n i r)
 |[],_,_,_,h,_=>h
 |(a,b,c)::m,k,j,v,h,hj=>by
  simp only[dv]at h;split at h
  .grind [cZ]
  simp only[cZ]at h|-;split at h
  .grind
  rename_i hk;rw[if_neg hk];exact dx n r hi m k j v h hj
theorem aG(s:St)(d:Option Tmp)(v:At):Ext s (s.put d v):=by
 cases d with
 |none=>exact Ext.refl s
 |some d=>exact⟨alN _,vK d s.nx v (akR _),λ_ _ _ h _=>h⟩
theorem tS(s:St)(n:Nm):Ext s (s.drop n):=⟨alN _,gO (akR _),(mQ n).trans (dQ (akR _))⟩
theorem bR(s:St)(n:Nm):Ext s (s.fresh n):=by grind [St.fresh,Ext.refl,tS]
theorem dj(s:St)(n:Nm)(r:Rt):Ext s (s.root n r):=⟨alN _,λ_ _ _ h _=>h,km n s.nx r (akR _)⟩
theorem Mn(q:Pl)(u:U)(l:List (El u))(t:Tt):(t.frz q u l).toT=t.toT.frz q (l.map (ap u)):=by
 cases t with
 |pl p=>exact ea (thr q) (.pl p)
 |rf p=>
  obtain⟨n,o,path⟩:=p;cases path with
  |nil=>
   show(if n=q.root/\o=q.off then Tt.d (.li u l)else(Tt.rf ⟨n,o,[]⟩).kill (thr q)).toT=if n=q.root/\o=q.off then T.d (.li (l.map (ap u)))else(T.rf ⟨n,o,[]⟩).kill (thr q)
   by_cases h:n=q.root/\o=q.off
   .rw[if_pos h,if_pos h];rfl
   rw[if_neg h,if_neg h];exact ea (thr q) (.rf ⟨n,o,[]⟩)
  |cons st r=>exact ea (thr q) (.rf ⟨n,o,st::r⟩)
 |_=>rfl
theorem Ml(n:Nm)(c:C)(t:Tt):(t.frm n c).toT=t.toT.frm n c.toD:=by
 cases t with
 |pl p=>exact ea (bm n) (.pl p)
 |rf p=>
  obtain⟨r,o,path⟩:=p;by_cases h:r=n
  .simp only[Tt.frm,Tt.toT,T.frm,if_pos h]
   grind
  simp_all[Tt.frm,Tt.toT,T.frm]
 |_=>rfl
variable{f:Tt->Tt}
theorem yB{f':T->T}(h:∀t,(f t).toT=f' t.toT)(x:A1):(x.map f).toV=x.toV.map f':=by
 cases x with
 |c t=>grind [A1.map,A1.toV,AV1.map]
 |agg ts=>simp_all[A1.map,A1.toV,AV1.map]
theorem sA{f':T->T}(h:∀t,(f t).toT=f' t.toT)(x:At):(x.map f).toV=x.toV.map f':=by
 cases x with
 |one x=>grind [At.map,At.toV,AV.map,yB]
 |tup xs=>simp_all[At.map,At.toV,AV.map,yB]
 |any=>rfl
variable{q:Pl}
theorem RP{l:List (El u)}{t:Tt}(h:t.hit (O3 q)=false):t.frz q u l=t:=by
 cases t with
 |pl p=>simp only[Tt.hit,O3,alX,Bool.or_false]at h;exact iK (t:=.pl p) h
 |rf p=>
  simp only[Tt.hit,O3,ak9,Bool.or_eq_false_iff]at h;obtain⟨n,o,path⟩:=p;cases path with
  |nil=>simp only[Tt.frz];rw[if_neg (by grind)];exact iK (t:=.rf ⟨n,o,[]⟩) h.1
  |cons st r=>exact iK (t:=.rf ⟨n,o,st::r⟩) h.1
 |_=>rfl
theorem RO{t:Tt}(h:t.hit (bm n)=false):t.frm n c=t:=by
 cases t with
 |pl p=>exact iK (t:=.pl p) h
 |rf p=>simp_all[Tt.hit,bm,Tt.frm]
 |_=>rfl
theorem vJ(hf:∀{t:Tt},t.hit bad=false->f t=t)(h:x.hit bad=false):x.map f=x:=by
 have one:∀{y:A1},y.hit bad=false->y.map f=y:=by
  intro y hy;cases y with
  |c t=>simp only[A1.map,hf (show t.hit _=false from hy)]
  |agg ts=>
   simp only[A1.hit]at hy;simp only[A1.map]
   congr 1
   induction ts<;>grind
 cases x with
 |one y=>simp only[At.map,one (show y.hit _=false from h)]
 |tup xs=>
  simp only[At.hit]at h;simp only[At.map]
  congr 1
  induction xs<;>grind
 |any=>rfl
theorem Rj{l:List (El u)}(h:x.hit (O3 q)=false):x.map (Tt.frz q u l)=x:=vJ RP h
theorem oD(n:Nm):∀m:List (Nm×Nat×Rt),bK m n=(cZ m n).map (·.2)
 |[]=>rfl
 |(k,j,r)::m=>by
  simp only[bK,cZ];by_cases h:k=n
  .grind
  rw[if_neg h,if_neg h];exact oD n m
theorem vL(s:St)(q:Pl):Ext s (uy s q):=by
 unfold uy;split
 .split
  .rename_i u l _ _;refine⟨alN _,tR (·.hit (O3 q)) (·.map (Tt.frz q u l)) (λ_ h=>Rj h) (akR _),?_⟩
   grind [setCell,dx,dQ]
  .split
   .exact⟨alN _,tR (·.hit (bm q.root)) (·.map (Tt.frm q.root _)) (λ_ h=>vJ RO h) (akR _),(mQ q.root).trans (dQ (akR _))⟩
   exact Ext.refl s
  exact Ext.refl s
 exact Ext.refl s
variable{off:Nat}
theorem qy{m:List (Nm×Nat×Rt)}{t:Tt}(hr:bK m n=some r)(a:r.hole=none) :
  toM (setCell m n i off t)=cz (toM m) n ⟨r.blk,(r.toR.cells).set off t.toT⟩:=by
 grind [setCell,fH,Rt.toR,holed,alM]
theorem E2{m:List (Nm×Nat×Rt)}{t:Tt}(hr:bK m n=some r):bK (setCell m n i off t) n=some { r with cells:=r.cells.set off t }:=by unfold setCell;rw[hr];dsimp only;induction m<;>grind [dv,bK]
theorem Dy(bad:Bool->Pl->Bool)(i:Nat)(n:Nm)(m:List (Nm×Nat×Rt)):bK (cc bad i m) n=(bK m n).map (·.kill bad):=by rw[oD,oD];unfold cc;rw[wv (λx=>(stp (x.2.2.cells.any (·.hit bad)) i x.2.1,x.2.2.kill bad))];cases cZ m n<;>rfl
theorem pT(h:leaf u=true)(x:El u):(ap u x).headD .any=(ao u x).toD:=by cases u<;>first|rfl|cases h
theorem ab3(ku vu:U)(l:List (El ku×El vu)):frL (l.map λx=>((ao ku x.1).toD,Sh.fr,(ao vu x.2).toD))=true:=by grind [frL]
theorem vP{g:G}{s:St}{a:Act}{w:World}{H:FH}{γ:Gam}{F:Nm->Fp}(h:RX g s.toS a w H γ F)(q:Pl):∃H' F',RX g (uy s q).toS a w H' γ F':=by
 unfold uy;split
 .rename_i r b hr;split
  .rename_i sh u l e hc;obtain⟨H',F',h'⟩:=Ma h q;refine⟨H',F',?_⟩;have z:r.toR.cells[q.off]? = some (.ow sh (l.map (ap u))):=by
    show(holed (r.cells.map Tt.toT) r.hole)[q.off]? = _
    rw[e];show(r.cells.map Tt.toT)[q.off]? = _
    rw[akT,hc];rfl
   have y:ah s.toS.m q.root=some r.toR:=bi hr
   have v:aU s.toS.m q=some (.ow sh (l.map (ap u))):=by grind [aU]
   have c:Jw s.toS q=⟨s4 (AV.map (T.frz q (l.map (ap u)))) s.toS.t,Jv s.toS.m q (l.map (ap u))⟩:=by grind [Jw]
   rw[c]at h';have key:(⟨s.nx+1,s.t.map λx=>(x.1,stp (x.2.2.hit (O3 q)) s.nx x.2.1,x.2.2.map (Tt.frz q u l)),
     setCell (cc (thr q) s.nx (setCell s.m q.root s.nx q.off .any)) q.root s.nx q.off (.d (.li u l))⟩:St).toS=⟨s4 (AV.map (T.frz q (l.map (ap u)))) s.toS.t,Jv s.toS.m q (l.map (ap u))⟩:=by
    refine bF.S_ext ?_ ?_
    .simp only[St.toS,s4,al3]
     grind [ak4,sA,Mn]
    have g1:=E2 (i:=s.nx) (off:=q.off) (t:=.any) hr
    have g2:bK (cc (thr q) s.nx (setCell s.m q.root s.nx q.off .any)) q.root=some (({ r with cells:=r.cells.set q.off .any }:Rt).kill (thr q)):=by grind [Dy]
    show toM (setCell _ q.root s.nx q.off (.d (.li u l)))=_
    rw[qy g2 e,eI,qy hr e];unfold Jv;have o:bk s.toS.m q .any=cz (toM s.m) q.root ⟨r.blk,r.toR.cells.set q.off Tt.any.toT⟩:=by unfold bk;rw[y,b];rfl
    rw[o];have g3:ah (aM (thr q) (cz (toM s.m) q.root ⟨r.blk,r.toR.cells.set q.off Tt.any.toT⟩)) q.root=some ⟨r.blk,(r.toR.cells.set q.off Tt.any.toT).map (·.kill (thr q))⟩:=by grind [bi,eI,qy,xk,Rt.toR,holed,alM]
    grind [bk,Rt.toR,Rt.kill,holed,alM,zp,Tt.toT,C.toD]
   grind
  .rename_i ku vu l e hc;split
   .rename_i x hb k f;simp only[akP]at f;have n:q.off=0:=by grind
    have hx:x=.mp ku vu l:=by grind
    have j:ah s.toS.m q.root=some ⟨false,[.mp (l.map λx=>((ao ku x.1).toD,Sh.fr,(ao vu x.2).toD))]⟩:=by
     have:=bi hr
     unfold Rt.toR at this;rw[hb,k,e,hx]at this;exact this
    obtain⟨H',F',h'⟩:=ZZ h j (ab3 ku vu l);refine⟨H',F',?_⟩;have p:mpD (l.map λx=>((ao ku x.1).toD,Sh.fr,(ao vu x.2).toD))=(C.mp ku vu (some l)).toD:=by
     show D.mp (some ((l.map _).map _))=D.mp (some (l.map _))
     grind [ak4,pT]
    rw[p]at h';have key:(Xt s q.root (.mp ku vu (some l))).toS=frzm s.toS q.root (C.mp ku vu (some l)).toD:=by
     refine bF.S_ext ?_ ?_
     .simp_all[St.toS,Xt,s4,sA,Ml]
     have h2:=eI (bm q.root) s.nx (e8 s.m q.root)
     rw[m8 q.root s.m (fZ h)]at h2;exact h2
    grind
   grind
  grind
 grind
variable{v:At}
section
variable {g:G} {a:Act} {w:World} {γ:Gam}
theorem C8{s:St}{H:FH}{F:Nm->Fp}(h:RX g s.toS a w H γ F)(t:Tt):∃H' F',RX g (Qw s t).toS a w H' γ F':=by
 cases t with
 |rf p=>exact vP h p
 |_=>exact⟨H,F,h⟩
theorem zj:∀(ts:List Tt)(s:St)(H:FH)(F:Nm->Fp),RX g s.toS a w H γ F->∃H' F',RX g (E0 s ts).toS a w H' γ F'
 |[],_,H,F,h=>⟨H,F,h⟩
 |t::ts,s,H,F,h=>by obtain⟨H1,F1,h1⟩:=C8 h t;exact zj ts _ H1 F1 h1
theorem gP{s:St}{H:FH}{F:Nm->Fp}(h:RX g s.toS a w H γ F)(v:At):∃H' F',RX g (fW s v).toS a w H' γ F':=by
 cases v with
 |one x=>cases x with
  |c t=>exact C8 h t
  |agg ts=>exact zj ts s H F h
 |_=>exact⟨H,F,h⟩
theorem iI:∀(vs:List At)(s:St)(H:FH)(F:Nm->Fp),RX g s.toS a w H γ F->∃H' F',RX g (cR s vs).toS a w H' γ F'
 |[],_,H,F,h=>⟨H,F,h⟩
 |v::vs,s,H,F,h=>by obtain⟨H1,F1,h1⟩:=gP h v;exact iI vs _ H1 F1 h1
theorem Iu{s s':St}{H:FH}{F:Nm->Fp}(c:RX g s.toS a w H γ F)(hf:∀(g':G) (H:FH) (F:Nm->Fp),RX g' s.toS a w H γ F->∃H' F',RX g' s'.toS a w H' γ F') :
  ∃H' F',RX g s'.toS a w H' γ F'/\∀b o y,H b o=some y->H' b o=some y:=by
 let g':G:=⟨g.nt,w,H,tot F s.toS.m,g.out,g.ex,g.dfs⟩
 have d:RX g' s.toS a w H γ F:=⟨c.mem,Fr.refl' rfl rfl rfl rfl (λ_ h=>h),c.nt,⟨c.df.1,c.df.2.1,ji c⟩,c.t⟩
 obtain⟨H',F',h⟩:=hf g' H F d;exact⟨H',F',⟨h.mem,c.fr.trans h.fr,h.nt,⟨h.df.1,h.df.2.1,c.df.2.2⟩,h.t⟩,h.fr.hold⟩
theorem qO:∀(ts:List Tt)(s:St)(p:Pl)(H:FH)(F:Nm->Fp),RX g s.toS a w H γ F->∃H' F',RX g (xv s p ts).toS a w H' γ F'
 |[],s,_,H,F,h=>⟨H,F,h⟩
 |t::ts,s,p,H,F,h=>by
  cases t with
  |rf q=>
   simp only[xv];split
   .obtain⟨H1,F1,h1⟩:=vP h q;exact qO ts _ _ H1 F1 h1
   exact qO ts _ _ H F h
  |_=>exact qO ts s (p.add 1) H F h
theorem RG{s:St}{H:FH}{F:Nm->Fp}(h:RX g s.toS a w H γ F)(x v:At):∃H' F',RX g (Dv s x v).toS a w H' γ F':=by
 unfold Dv;split
 .exact qO _ _ _ H F h
 grind
theorem CB(s:St)(t:Tt):Ext s (Qw s t):=by
 cases t with
 |rf p=>exact vL s p
 |_=>exact Ext.refl s
theorem yN:∀(ts:List Tt)(s:St),Ext s (E0 s ts)
 |[],s=>Ext.refl s
 |t::ts,s=>(CB s t).trans (yN ts _)
theorem iH(s:St)(v:At):Ext s (fW s v):=by
 cases v with
 |one x=>cases x with
  |c t=>exact CB s t
  |agg ts=>exact yN ts s
 |_=>exact Ext.refl s
theorem qL:∀(ts:List Tt)(s:St)(p:Pl),Ext s (xv s p ts)
 |[],s,_=>Ext.refl s
 |t::ts,s,p=>by
  cases t with
  |rf q=>
   simp only[xv];split
   .exact(vL s q).trans (qL ts _ _)
   exact qL ts _ _
  |_=>exact qL ts s (p.add 1)
theorem Rp(s:St)(x v:At):Ext s (Dv s x v):=by
 unfold Dv
 grind [qL,Ext.refl]
theorem eC:∀(vs:List At)(s:St),Ext s (cR s vs)
 |[],s=>Ext.refl s
 |v::vs,s=>(iH s v).trans (eC vs _)
theorem zk{s:St}{H:FH}{F:Nm->Fp}(h:RX g s.toS a w H γ F)(o:Oper):∃H' F',RX g (Co s o).toS a w H' γ F':=by
 unfold Co;split
 .exact gP h _
 .exact gP h _
 grind
theorem GC(s:St)(o:Oper):Ext s (Co s o):=by grind [Co,iH,Ext.refl]
theorem Du{s:S}{t:Tt}(h:t.noRf=true):Xu s t.toT=s:=by
 cases t with
 |rf p=>cases h
 |_=>rfl
theorem Ah{s:S}:∀{ts:List Tt},ts.all Tt.noRf=true->Dw s (ts.map Tt.toT)=s
 |[],_=>rfl
 |t::ts,h=>by simp only[ak2,akP]at h;simp only[List.map_cons,Dw];rw[Du h.1,Ah h.2]
theorem wj{s:S}(h:v.noRf=true):Jx s v.toV=s:=by
 cases v with
 |one x=>cases x with
  |c t=>exact Du h
  |agg ts=>exact Ah h
 |_=>rfl
theorem oA{s:S}:∀{vs:List At},vs.all At.noRf=true->pc s (vs.map At.toV)=s
 |[],_=>rfl
 |v::vs,h=>by simp only[ak2,akP]at h;simp only[List.map_cons,pc];rw[wj h.1,oA h.2]
theorem Oh{s:St}{H:FH}{F:Nm->Fp}(b:RX g s.toS a w H γ F){x:Operand}(hc:aI x=true) :
  (∀p,evA s x=.one (.c (.rf p))->okP (toM s.m) p)/\(∀p,evA s x=.one (.c (.pl p))->okP (toM s.m) p):=by
 have h:=aL b hc
 rw[ak hc]at h;refine⟨λp e=>?_,λp e=>?_⟩
 .rw[e]at h;obtain⟨_,h1,_⟩:=h;exact qh h1
 rw[e]at h;obtain⟨_,h1,_⟩:=h;exact Oi h1
theorem Ta{n:Nat}{q a:Prop}(hq:q->a)(h:gift gd n q):gift gd n a:=by
 cases gd with
 |none=>exact λb=>hq (h b)
 |some _=>exact hq h
theorem DJ{m:List (Nm×Nat×Rt)}{k k':Nat->Prop}(hk:∀n,k n->k' n)(h:Ku gd m x k):Ku gd m x k':=by
 unfold Ku at h|-
 grind [Ta]
theorem Tq(x:At):q9 x.toV=Nd x:=by
 cases x with
 |one x=>cases x with
  |c t=>cases t with
   |d c=>cases c<;>rfl
   |_=>rfl
  |agg ts=>rfl
 |_=>rfl
theorem YW{e:En}{o:Oper}{s:St}{k:At->Prop}{H:FH}{F:Nm->Fp}(l:RX g s.toS a w H γ F)(hc:opC g.nt o=true)(h:qT e o s k):qK e.P o s.toS (up k):=by
 unfold opC at hc;rw[akP]at hc;obtain⟨_,hc⟩:=hc;unfold qT at h;unfold qK;cases j:o.op with
 |move x=>grind [ak]
 |assign x=>grind [ak]
 |pick c x y=>grind [ak,YH]
 |binOp op t x y z=>grind [ak,aaH]
 |unOp op t x=>grind [ak,ah4]
 |load t x=>rw[j]at h hc;dsimp only at hc|-;rw[ak hc];exact AG (Oh l hc).2 h
 |field t x i=>grind [ak,S7]
 |fieldAddr t x i=>rw[j]at h hc;dsimp only at hc|-;rw[ak hc];exact B0 h
 |indexAddr t x i=>rw[j]at h hc;simp only[akP]at hc;dsimp only;rw[ak hc.1,ak hc.2];exact si (Oh l hc.1).1 h
 |index t x i=>grind [ak,US]
 |extract x i=>grind [ak,Ji]
 |convert r q x=>grind [ak,Xf]
 |slice t x lo hi m=>
  rw[j]at h hc;cases m with
  |some _=>omega
  |none=>
   dsimp only at h hc|-;simp only[akP]at hc;have p:(y:Option Operand)->y.all aI=true->y.map (ev s.toS)=(y.map (evA s)).map At.toV:=by intro y hy;cases y<;>grind [ak]
   grind [ak,UH]
 |nilCheck x=>grind [ak,FI]
 |build t ps=>grind [wF,Sk]
 |call c=>
  rw[j]at h hc;obtain⟨f,args,d⟩:=c;obtain⟨args⟩:=args;obtain⟨d⟩:=d;dsimp only at h hc|-;cases f with
  |builtin b=>
   cases b with
   |len=>
    match args,d,h with
    |[x],[t],h=>
     have h1:aI x=true:=by grind
     dsimp only at h|-;split at h
     .rename_i hl;rw[ak h1,Tq];refine⟨hl,?_⟩;exact acU (Oh l h1).1 (DJ (λn hn=>⟨_,rfl,hn⟩) h)
     grind
   |_=>omega
  |_=>omega
 |_=>grind
end
theorem rH{x x':El u}(h:Li u x off c=some x'):(∃d,(ap u x)[off]? = some d)/\ap u x'=(ap u x).set off c.toD:=by
 unfold Li at h;split at h
 .rename_i a hc;have e:=wV h
  refine⟨⟨a.toD,by grind [bZ]⟩,?_⟩
  grind [bZ,alM]
 grind
theorem Lp:∀{path:List Step}{sub:List Sh}{u:U}{l l':List (El u)}{t:Tt}{k:Prop}{K:List (List D)->Prop},qi sub u l path k->Eb sub u l t path=some l'->K (l'.map (ap u))->iz sub (l.map (ap u)) t.toT path K
 |[],_,_,_,_,_,_,_,h,_,_=>h.elim
 |[st],sub,u,l,l',t,k,K,h,a,b=>by
  obtain⟨h1,_⟩:=h;simp only[Eb]at a;simp only[iz];rw[l7 l h1];dsimp only;split at a
  .rename_i c hs;split at a
   .rename_i x hx;simp only[akO]at a;subst a;obtain⟨⟨d,hd⟩,e⟩:=rH hx;rw[hs,hd];dsimp only;refine⟨trivial,?_⟩;rw[alM,e]at b;exact b
   grind
  .rename_i hs;split at a
   .rename_i u' i hf;split at a
    .rename_i x hx;simp only[akO]at a;subst a;obtain⟨⟨d,hd⟩,e⟩:=rH hx;rw[hs,hd];dsimp only;refine⟨trivial,?_⟩;rw[alM,e]at b;exact b
    grind
   grind
  grind
 |st::m::r,sub,u,l,l',t,k,K,h,a,b=>by
  simp only[Eb]at a;simp only[iz];simp only[qi]at h;split at a
  .rename_i s u' i j g;rw[j,g]at h;obtain⟨h1,h4⟩:=h;rw[l7 l h1];dsimp only;split at a
   .rename_i l2 f;split at a
    .rename_i x hx;simp only[akO]at a;subst a;obtain⟨_,e⟩:=rH hx;have n:(ap u (l.getD st.idx (dflt u)))[st.off]? = some (.li (i.map (ap u'))):=by rw[<- bZ,akT,g];rfl
     rw[j,n];dsimp only;refine Lp h4 f ?_;rw[alM,e]at b;exact b
    grind
   grind
  grind
mutual
theorem Zf:∀{a b:Sh},Ls a b=true->a=b
 |.fr,.fr,_=>rfl
 |.ow a,.ow b,h=>by simp only[Ls]at h;rw[kD h]
 |.fr,.ow _,h=>by simp[Ls]at h
 |.ow _,.fr,h=>by simp[Ls]at h
theorem kD:∀{a b:List Sh},jV a b=true->a=b
 |[],[],_=>rfl
 |a::r,b::q,h=>by simp only[jV,akP]at h;rw[Zf h.1,kD h.2]
 |[],_::_,h=>by simp[jV]at h
 |_::_,[],h=>by simp[jV]at h
end
theorem Jk:∀{path:List Step}{sub:List Sh}{u:U}{l l':List (El u)}{sh:List Sh}{v:U}{j:List (El v)}{k:Prop}{K:List (List D)->Prop},qi sub u l path k->Dn sub u l sh v j path=some l'->K (l'.map (ap u)) ->
  iz sub (bX sub (l.map (ap u)) .any path) (.ow sh (j.map (ap v))) path K
 |[],_,_,_,_,_,_,_,_,_,h,_,_=>h.elim
 |[st],sub,u,l,l',sh,v,j,k,K,h,a,i=>by
  obtain⟨h1,_⟩:=h;have h1':st.idx < (l.map (ap u)).length:=by grind
  simp only[Dn]at a;split at a
  .rename_i s c hs hc;split at a
   .rename_i x n hx;simp only[akO]at a;subst a;obtain⟨⟨d,hd⟩,e⟩:=rH hx;have f:st.off < (ap u (l.getD st.idx (dflt u))).length:=bT hd
    have b:bX sub (l.map (ap u)) .any [st]=(l.map (ap u)).set st.idx ((ap u (l.getD st.idx (dflt u))).set st.off .any):=by grind [bX]
    rw[b];simp only[iz];rw[alH h1'];dsimp only;rw[hs,alH f];dsimp only;refine⟨kD n,?_⟩;rw[amQ,amQ];rw[alM,e]at i;exact i
   grind
  grind
 |st::g::r,sub,u,l,l',sh,v,j,k,K,h,a,i=>by
  simp only[Dn]at a;simp only[qi]at h;split at a
  .rename_i s u' m q p;rw[q,p]at h;obtain⟨h1,h4⟩:=h;have h1':st.idx < (l.map (ap u)).length:=by grind
   split at a
   .rename_i l2 o;split at a
    .rename_i x hx;simp only[akO]at a;subst a;obtain⟨_,e⟩:=rH hx;have t:(ap u (l.getD st.idx (dflt u)))[st.off]? = some (.li (m.map (ap u'))):=by rw[<- bZ,akT,p];rfl
     have f:st.off < (ap u (l.getD st.idx (dflt u))).length:=bT t
     have w:(ap u (l.getD st.idx (dflt u))).getD st.off default=.li (m.map (ap u')):=by grind
     have b:bX sub (l.map (ap u)) .any (st::g::r)=(l.map (ap u)).set st.idx ((ap u (l.getD st.idx (dflt u))).set st.off (.li (bX s (m.map (ap u')) .any (g::r)))):=by grind [bX]
     rw[b];simp only[iz];rw[alH h1'];dsimp only;rw[q,alH f];dsimp only;refine Jk h4 o ?_;rw[amQ,amQ];rw[alM,e]at i;exact i
    grind
   grind
  grind
theorem FQ:∀{path:List Step}{sub:List Sh}{u:U}{l:List (El u)}{k:Prop},qi sub u l path k->k
 |[],_,_,_,_,h=>h.elim
 |[st],_,_,_,_,h=>h.2
 |st::a::r,sub,u,l,k,h=>by
  simp only[qi]at h;split at h
  .exact FQ h.2
  grind
theorem rA:∀{path:List Step}{sub:List Sh}{u:U}{l:List (El u)}{k k':Prop},(k->k')->qi sub u l path k->qi sub u l path k'
 |[],_,_,_,_,_,_,h=>h.elim
 |[st],_,_,_,_,_,hk,h=>⟨h.1,hk h.2⟩
 |st::a::r,sub,u,l,k,k',hk,h=>by
  simp only[qi]at h|-;split at h
  .exact⟨h.1,rA hk h.2⟩
  omega
theorem Dm:∀{a b:List Step}{k:Prop},ou a b k->a=b/\k
 |[],[],_,h=>⟨rfl,h⟩
 |x::r,y::q,k,h=>by
  simp only[ou]at h;split at h
  .rename_i hb;rw[akP]at hb;obtain⟨e,hk⟩:=Dm h.2;obtain⟨c,d,a3⟩:=x;simp_all
  grind
 |[],_::_,_,h=>h.elim
 |_::_,[],_,h=>h.elim
theorem xr:∀{a b:List Step}{k k':Prop},(k->k')->ou a b k->ou a b k'
 |[],[],_,_,hk,h=>hk h
 |x::r,y::q,k,k',hk,h=>by
  simp only[ou]at h|-;split at h
  .exact⟨h.1,xr hk h.2⟩
  omega
 |[],_::_,_,_,_,h=>h.elim
 |_::_,[],_,_,_,h=>h.elim
theorem Ap:∀{path:List Step}{sub:List Sh}{u:U}{l:List (El u)}{sh:List Sh}{v:U}{f:List (El v)},okO sub (l.map (ap u)) path->inT sub u l 1 path=some [.ow sh v f]->bG sub (l.map (ap u)) path=some (.ow sh,.li (f.map (ap v)))
 |[],_,_,_,_,_,_,h,_=>h.elim
 |[st],sub,u,l,sh,v,f,h,a=>by
  obtain⟨h1,h2,h3⟩:=h;rw[akV]at h1;simp only[inT]at a;split at a
  .simp only[akO]at a;have b:sub[st.off]? = some sub[st.off]:=akQ h3
   cases hc:(flat u (l.getD st.idx (dflt u)))[st.off]? with
   |none=>simp_all[List.drop_eq_nil_of_le]
   |some c=>
    have g:=bT hc
    have o:(flat u (l.getD st.idx (dflt u)))[st.off]=c:=by grind
    have n:(sub.drop st.off).take 1=[sub[st.off]]:=by grind [alF]
    have j:((flat u (l.getD st.idx (dflt u))).drop st.off).take 1=[c]:=by grind [alF]
    rw[n,j]at a;simp only[List.zipWith_cons_cons,List.zipWith_nil_left,List.cons.injEq,and_true]at a;simp only[bG,b,Option.map_some,p7 l h1];have d:(ap u (l.getD st.idx (dflt u))).getD st.off default=c.toD:=by grind [bZ]
    rw[d];generalize sub[st.off]=s0 at a;cases s0 with
    |fr=>cases a
    |ow s1=>
     cases c with
     |li u1 l1=>simp only[Tt.ow.injEq]at a;obtain⟨rfl,rfl,e⟩:=a;rw[eq_of_heq e];rfl
     |_=>cases a
  grind
 |st::m::r,sub,u,l,sh,v,f,h,a=>by
  obtain⟨⟨h1,h2,h3⟩,h4⟩:=h;rw[akV]at h1;simp only[inT]at a;split at a
  .rename_i s u' k b i;have d:(ap u (l.getD st.idx (dflt u))).getD st.off default=.li (k.map (ap u')):=by rw[List.getD,<- bZ,akT,i];rfl
   rw[b,p7 l h1,d]at h4;simp only[bG];rw[b,p7 l h1,d];exact Ap h4 a
  grind
variable{sub:List Sh}
theorem JF{cells:List Tt}{l:List (El u)}(st:Step)(q:List Step)(h:cells[off]? = some (.ow sub u l)) :
  holed (cells.map Tt.toT) (some (off,st,q))=(cells.map Tt.toT).set off (.ow sub (bX sub (l.map (ap u)) .any (st::q))):=by
 unfold holed;dsimp only;rw[akT,h];rfl
def DS(row:List D)(off:Nat):List D->List D
 |[]=>row
 |d::r=>DS (row.set off d) (off+1) r
def jU(sub:List Sh)(l:List (List D)):List T->List Step->(List (List D)->Prop)->Prop
 |[],_,K=>K l
 |t::ts,path,K=>iz sub l t path λl1=>jU sub l1 ts (aV path 1) K
theorem qz:∀{path:List Step}{sub:List Sh}{l:List (List D)}{t:T}{K K':List (List D)->Prop},(∀x,K x->K' x)->iz sub l t path K->iz sub l t path K'
 |[],_,_,_,_,_,_,h=>h.elim
 |[st],sub,l,t,K,K',hk,h=>by grind [iz]
 |st::a::r,sub,l,t,K,K',hk,h=>by
  simp only[iz]at h|-;split at h
  .split at h
   .exact qz (λx hx=>hk _ hx) h
   omega
  omega
def JN:T->Bool
 |.d _=>true
 |.nil=>true
 |_=>false
theorem Bz{idx esz:Nat}:∀{ts:List T}{l:List (List D)}{off:Nat}{row:List D}{K:List (List D)->Prop},l[idx]? = some row->ts.all JN=true->frs sub off ts.length=true->off+ts.length<=row.length ->
  K (l.set idx (DS row off (ts.map T.toD)))->jU sub l ts [⟨idx,esz,off⟩] K
 |[],l,off,row,K,hl,_,_,_,c=>by
  have:l.set idx row=l:=by
   apply al1
   grind
  simp only[List.map_nil,DS,this]at c;exact c
 |t::ts,l,off,row,K,hl,hd,hf,a,c=>by
  simp only[ak2,akP]at hd;simp only[akY]at a hf;simp only[frs]at hf;cases hs:sub[off]? with
  |none=>grind
  |some s=>
   rw[hs]at hf;cases s with
   |ow _=>cases hf
   |fr=>
    dsimp only at hf;have b:off<row.length:=by omega
    simp only[jU,iz];rw[hl];dsimp only;rw[hs,akQ b];dsimp only;refine⟨by have h0:=hd.1;cases t<;>first|trivial|(simp[JN]at h0),?_⟩;have d:=bT hl
    show jU sub _ ts [⟨idx,esz,off+1⟩] K
    refine Bz (row:=row.set off t.toD) (alH d) hd.2 hf (by grind) ?_;rw[amQ];exact c
theorem EC(st a:Step)(r:List Step)(n:Nat):aV (st::a::r) n=st::aV (a::r) n:=rfl
theorem xK{s:List Sh}{st c:Step}:∀{ts:List T}{r:List Step}{l l':List (List D)}{row:List D}{K:List (List D)->Prop},l[st.idx]? = some row->sub[st.off]? = some (.ow s)->row[st.off]? = some (.li l') ->
  jU s l' ts (c::r) (λg=>K (l.set st.idx (row.set st.off (.li g))))->jU sub l ts (st::c::r) K
 |[],r,l,l',row,K,hl,hs,hc,h=>by
  have k:row.set st.off (.li l')=row:=by
   apply al1
   grind
  have j:l.set st.idx row=l:=by
   apply al1
   grind
  grind [jU]
 |t::ts,r,l,l',row,K,hl,hs,hc,h=>by
  simp only[jU,iz]at h|-;rw[hl];dsimp only;rw[hs,hc];dsimp only;refine qz (λl1 h1=>?_) h;rw[EC];have i:=bT hl
  have d:=bT hc
  obtain⟨f,r2,e⟩:∃f r2,aV (c::r) 1=f::r2:=by
   cases r with
   |nil=>exact⟨_,_,rfl⟩
   |cons a b=>exact⟨_,_,rfl⟩
  rw[e]at h1|-;refine xK (row:=row.set st.off (.li l1)) (l':=l1) (alH i) hs (alH d) ?_
  grind [amQ]
theorem A3:∀{ts:List Tt}{cs a:List C}{off:Nat},lf cs off ts=some a->a.map C.toD=DS (cs.map C.toD) off ((ts.map Tt.toT).map T.toD)/\(ts.map Tt.toT).all JN=true/\(ts≠[]->off+ts.length<=cs.length)/\a.length=cs.length
 |[],cs,a,off,h=>by simp only[lf,akO]at h;subst h;exact⟨rfl,rfl,λh=>(h rfl).elim,rfl⟩
 |t::r,cs,a,off,h=>by
  have step:∀{c:C},(∃e,cs[off]? = some e)->lf (cs.set off c) (off+1) r=some a->t.toT.toD=c.toD->JN t.toT=true ->
    a.map C.toD=DS (cs.map C.toD) off (((t::r).map Tt.toT).map T.toD)/\((t::r).map Tt.toT).all JN=true/\((t::r)≠[]->off+(t::r).length<=cs.length)/\a.length=cs.length:=by
   rintro c ⟨e,b⟩ h2 h3 h4
   obtain⟨k1,k2,k3,k4⟩:=A3 h2;have f:=bT b
   refine⟨?_,by grind,λ_=>?_,by grind⟩
   .grind [DS,alM]
   simp only[akY]
   grind
  cases t with
  |d c=>
   simp only[lf]at h;split at h
   .cases h
   .rename_i hc;exact step ⟨_,hc⟩ h rfl rfl
   grind
  |nil=>
   simp only[lf]at h;split at h
   .rename_i u' g hc;exact step ⟨_,hc⟩ h rfl rfl
   grind
  |_=>simp[lf]at h
theorem Lq:∀{path:List Step}{sub:List Sh}{u:U}{l l':List (El u)}{ts:List Tt}{k:Prop}{K:List (List D)->Prop},ts≠[]->qi sub u l path k->sm sub u l ts path=some l'->K (l'.map (ap u))->jU sub (l.map (ap u)) (ts.map Tt.toT) path K
 |[],_,_,_,_,_,_,_,_,h,_,_=>h.elim
 |[st],sub,u,l,l',ts,k,K,b,h,a,c=>by
  obtain⟨h1,_⟩:=h;simp only[sm]at a;split at a
  .rename_i cs hf i;split at a
   .rename_i x hx;simp only[akO]at a;subst a;obtain⟨k1,k2,k3,k4⟩:=A3 i;have e:=wV hx
    obtain⟨idx,esz,off⟩:=st;refine Bz (l7 l h1) k2 (by grind) ?_ ?_
    all_goals grind [bZ,alM]
   grind
  grind
 |st::m::r,sub,u,l,l',ts,k,K,b,h,a,c=>by
  simp only[sm]at a;simp only[qi]at h;split at a
  .rename_i s u' j g f;rw[g,f]at h;obtain⟨h1,h4⟩:=h;split at a
   .rename_i l2 d;split at a
    .rename_i x hx;simp only[akO]at a;subst a;obtain⟨_,e⟩:=rH hx;have n:(ap u (l.getD st.idx (dflt u)))[st.off]? = some (.li (j.map (ap u'))):=by rw[<- bZ,akT,f];rfl
     refine xK (l7 l h1) g n (Lq b h4 d ?_);rw[alM,e]at c;exact c
    grind
   grind
  grind
theorem Ea:∀{m:Mm}{n:Nm}{r a:Root},cz (cz m n r) n a=cz m n a
 |[],_,_,_=>rfl
 |(k,x)::m,n,r,a=>by
  simp only[cz];by_cases h:k=n
  .grind [cz]
  rw[if_neg h,if_neg h];simp only[cz,if_neg h,Ea]
theorem D9:∀{m:Mm}{n:Nm}{r:Root},ah m n=some r->cz m n r=m
 |[],_,_,h=>by rfl
 |(k,x)::m,n,r,h=>by
  simp only[ah]at h;simp only[cz];by_cases hk:k=n
  .grind
  rw[if_neg hk]at h|-;rw[D9 h]
variable{K:S->Prop}
theorem xS:∀{ts:List T}{s:S}{p:Pl}{r:Root}{sub:List Sh}{l:List (List D)}{st:Step}{q:List Step},ah s.m p.root=some r->p.path=st::q->r.cells[p.off]? = some (.ow sub l)->ts.all JN=true->(∀t∈ts,t≠.d .any) ->
  jU sub l ts (st::q) (λl'=>K ⟨s.t,cz s.m p.root { r with cells:=r.cells.set p.off (.ow sub l') }⟩)->dG s p ts K
 |[],s,p,r,sub,l,st,q,hr,hp,hc,_,_,h=>by
  have j:r.cells.set p.off (.ow sub l)=r.cells:=by
   apply al1
   grind
  simp only[jU,j]at h;have:cz s.m p.root r=s.m:=D9 hr
  rw[show({ blk:=r.blk,cells:=r.cells }:Root)=r from rfl,this]at h;exact h
 |t::ts,s,p,r,sub,l,st,q,hr,hp,hc,hd,hn,h=>by
  simp only[ak2,akP]at hd;have key:dG s p (t::ts) K=tf s.m p t λm'=>dG ⟨s.t,m'⟩ (p.add 1) ts K:=by
   cases t with
   |d c=>cases c with
    |any=>grind
    |_=>rfl
   |nil=>rfl
   |_=>grind [JN]
  rw[key];unfold tf;rw[hr];dsimp only;rw[hp,hc];dsimp only;simp only[jU]at h;refine qz (λl1 h1=>?_) h;have g:=bT hc
  have i:(p.add 1).root=p.root/\(p.add 1).off=p.off/\(p.add 1).path=aV (st::q) 1:=by obtain⟨pr,o,n⟩:=p;dsimp only at hp;subst hp;exact⟨rfl,rfl,rfl⟩
  obtain⟨f,q2,e⟩:∃f r2,aV (st::q) 1=f::r2:=by
   cases q with
   |nil=>exact⟨_,_,rfl⟩
   |cons a b=>exact⟨_,_,rfl⟩
  rw[e]at h1;refine xS (s:=⟨s.t,cz s.m p.root { r with cells:=r.cells.set p.off (.ow sub l1) }⟩) (p:=p.add 1) (r:={ r with cells:=r.cells.set p.off (.ow sub l1) }) (sub:=sub) (l:=l1) (st:=f) (q:=q2) ?_ (i.2.2.trans e) ?_ hd.2 (λt k=>hn t (by simp[k])) ?_
  all_goals grind [fM,Ea,amQ]
theorem wC:∀{ts:List Tt}{cs a:List C}{off:Nat},lf cs off ts=some a->∀t∈ts.map Tt.toT,t≠.d .any
 |[],_,_,_,_,t,g=>by grind
 |t::r,cs,a,off,h,x,hx=>by
  cases t with
  |d c=>
   have f:c≠.any:=by rintro rfl;simp[lf]at h
   have h':∃b o,lf b o r=some a:=by
    simp only[lf]at h
    grind
   obtain⟨b,o,h'⟩:=h';rcases akX.1 hx with rfl|hx
   .intro e;simp only[Tt.toT,T.d.injEq]at e;cases c<;>first|exact f rfl|grind [C.toD]
   exact wC h' x hx
  |nil=>
   simp only[lf]at h;split at h
   .rcases akX.1 hx with rfl|hx
    .intro e;cases e
    exact wC h x hx
   grind
  |_=>simp[lf]at h
theorem Ec:∀{path:List Step}{sub:List Sh}{u:U}{l l':List (El u)}{ts:List Tt},sm sub u l ts path=some l'->(∀t∈ts.map Tt.toT,t≠.d .any)/\(ts.map Tt.toT).all JN=true
 |[],_,_,_,_,_,h=>by simp[sm]at h
 |[st],_,_,_,_,_,h=>by
  simp only[sm]at h;split at h
  .rename_i a;exact⟨wC a,(A3 a).2.1⟩
  grind
 |st::b::r,_,_,_,_,_,h=>by
  simp only[sm]at h;split at h
  .split at h
   .rename_i hl;exact Ec hl
   grind
  grind
def uf(P:Program)(s:S)(t u:TypeId)(x y:Operand)(d:Tmp)(k:S->Prop):Prop:=
 match(ty P t).k with
 |.sl e=>(ty P e).ok=true/\(ty P u).k.isSS=true/\((zcells P e).map (·.length))=some (ty P e).size /\
  match jo s (ty P e).size (ev s y)with
  |some (s1,a,b)=>match jo s1 (ty P e).size (ev s1 x)with
   |some (s2,sub,l)=>a=sub/\FP a.length b/\l.length+b.length<=4611686018427387904/\(l.length+b.length)*(ty P e).bytes<=140737488355328 /\
    k (((s2.fresh (.gh d)).root (.gh d) ⟨false,[.ow sub (l++b)]⟩).put (some d) (.one (.c (.rf ⟨.gh d,0,[]⟩))))
   |none=>False
  |none=>False
 |_=>False
variable{d:Tmp}{l:List (List D)}{y:Operand}
section
variable {P:Program} {g:G} {s:S} {a:Act} {w:World} {H:FH} {γ:Gam} {F:Nm->Fp}
theorem afZ{k:Nat}{sh:Sh}{x:D}{f:Fp}{y:Value}(hs:x.sure=true)(h:OD w H k sh x f y):pi y=true:=by
 cases sh with
 |fr=>grind [Pq,fV]
 |ow sub=>
  cases k with
  |zero=>cases x<;>first|(simp[OD]at h;done)|grind [D.sure]
  |succ k=>
   cases x with
   |li l=>obtain⟨a,c,_,_,rfl,_⟩:=mU h;rfl
   |any=>grind [D.sure]
   |_=>simp[OD]at h
theorem Vj{k:Nat}:∀{b:List Sh}{xs:List D}{f:Fp}{vs:List Value},vs.length=xs.length->(∀x∈xs,x.sure=true)->Cs (OD w H k) b xs f vs->∀u∈vs,pi u=true
 |[],[],_,vs,hl,_,_=>by grind
 |s::b,x::xs,f,vs,hl,hx,h=>by
  obtain⟨v,r,f1,c,rfl,_,h1,h2⟩:=h;intro u a;rcases akX.1 a with rfl|a
  .exact afZ (hx x (by simp)) h1
  exact Vj (by grind) (λy hy=>hx y (by simp[hy])) h2 u a
 |[],_::_,_,_,_,_,h=>h.elim
 |_::_,[],_,_,_,_,h=>h.elim
theorem ad2{k:Nat}{d:List (List D)}{f:Fp}{v:Value}(h:OD w H k (.ow sub) (.li d) f v)(l:FP sub.length d) :
  ∃(kx:Nat)(gx:Fp)(ws:List Value),Src P w sub.length v d.length ws/\Cs (OD w H kx) (List.replicate d.length sub).flatten d.flatten gx ws/\(∀u∈ws,pi u=true)/\∀b,gx b<=f b:=by
 cases k with
 |zero=>simp[OD]at h
 |succ k=>
  obtain⟨ad,c,n,vs,rfl,hlc,o,m,g,e,a⟩:=mU h;refine⟨k,n,vs,?_,e,?_,?_⟩
  .rcases a with⟨rfl,rfl,rfl,_⟩|⟨b,cs,ty,fz,rfl,hb,hfz,hcsz,rfl,hf⟩
   .simp_all[pD]
   refine vR g (λj u hj=>?_)
   grind [World.cell?]
  .refine Vj (by grind [cQ]) (λx hx=>?_) e;rw[List.mem_flatten]at hx;obtain⟨y,hy,i⟩:=hx;exact(l y hy).2 x i
  grind [Cs]
theorem mY(h:RX g s a w H γ F){size:Nat}{x:AV}{v:Value}{s1:S}(hx:AR w H γ s.m x v)(hb:jo s size x=some (s1,sub,l)) :
  ∃k f F1,OD w H k (.ow sub) (.li l) f v/\RX g s1 a w H γ F1/\sub.length=size/\(∀b,tot F1 s1.m b+f b=tot F s.m b)/\(∀b,f b≠0->b<w.heap.size/\(∀o,H b o=none)/\(g.own0 b≠0\/g.w0.heap.size<=b)):=by
 match x,hb with
 |.one (.c .nil),hb=>
  simp only[jo,akO,Prod.mk.injEq]at hb;obtain⟨rfl,rfl,rfl⟩:=hb;obtain⟨_,rfl⟩:=hx;refine⟨1,λ_=>0,F,?_,h,by simp,λb=>rfl,λb hb=>absurd rfl hb⟩
  grind [fo]
 |.one (.c (.rf q)),hb=>
  simp only[jo]at hb;cases j:aU s.m q with
  |none=>grind
  |some t=>
   rw[j]at hb;cases t with
   |ow n l'=>
    dsimp only at hb;split at hb
    .rename_i i;simp only[akO,Prod.mk.injEq]at hb;obtain⟨rfl,rfl,rfl⟩:=hb;obtain⟨_,e,hv⟩:=hx;obtain⟨r,f,F',y,⟨k,u⟩,z,p⟩:=Is h (fA e) j;rw[hv]at y;obtain rfl:v=r:=by grind
     exact⟨k,f,F',u,z,i,p,λb hb=>by
      have d:tot F s.m b≠0:=by grind
      exact⟨h.mem.lt b d,h.mem.nofz b d,h.fr.tt b d⟩⟩
    grind
   |_=>grind
theorem ID(h:RX g s a w H γ F){t u tt:TypeId}{x:Operand}{k:S->Prop}(hd:okD g.nt (some d)=true)(hx:aI x=true)(hy:aI y=true)(c:uf P s t u x y d k) :
  ∃s' z w' H' γ' F',(Builtin.append_ #[t,u] tt #[a.eval x,a.eval y]).run P w=.ok z w'/\k s'/\RX g s' (a.put (some d) z) w' H' γ' F':=by
 unfold uf at c;cases hk:(ty P t).k with
 |sl e=>
  rw[hk]at c;obtain⟨V,Q,A,c⟩:=c;obtain⟨_,td,hit,Z,ab,_⟩:=aT hk (by simp);have:=pg ab
  subst this;obtain⟨L,de,G,_,_,j,p,_⟩:=jG V;rw[j,p]at c;rw[j]at A;obtain⟨zs,M,A⟩:=ak5.1 A;obtain⟨N,z,T,hz,ad,_⟩:=kH M;rw[G]at T;obtain rfl:L=N:=by grind
  have K:z.cells.size=L.size:=by grind
  obtain⟨C,huu,hudd⟩:∃C,P.underlying u=some C/\isSS C=true:=by
   have Y:(ty P u).k≠.ot:=λe=>by grind [TK.isSS]
   obtain⟨_,C,_,h2,h3,_⟩:=aT rfl Y;refine⟨C,h2,?_⟩;rw[<- h3]at Q;cases C<;>first|rfl|grind [gn,TK.isSS]
  cases E:jo s L.size (ev s y)with
  |none=>grind
  |some q1=>
   obtain⟨s1,r,ys⟩:=q1;rw[E]at c;dsimp only at c;obtain⟨k1,f1,F1,d1,h1,d3,d4,d5⟩:=mY h (aL h hy) E;cases D:jo s1 L.size (ev s1 x)with
   |none=>grind
   |some q=>
    obtain⟨s2,sub,l⟩:=q;rw[D]at c;obtain⟨J,i,I,X,c⟩:=c;subst J;obtain⟨kb,f,B,b1,b2,b3,U,b5⟩:=mY h1 (aL h1 hx) D;have b4:∀b,tot B s2.m b+f b+f1 b<=1:=λb=>by have:=U b;have:=d4 b;have:=h.mem.le1 b;omega
    obtain⟨kx,gx,ws,r1,r2,r3,r4⟩:=ad2 (P:=P) d1 i;rw[d3]at r1;obtain⟨z',w',f',c1,⟨k',c2⟩,c3,c4,c5,c6,c7,c8,c9⟩:=Bq (tt:=tt) Z huu hudd G hz K (gx:=gx) (kx:=kx) b3 b1 r1 (λy hy=>(i y hy).1)
     r2 r3 (λb=>by grind) (λb hb=>by grind) I X
    have hX:=pB b2 c3 c4 c5 c6 (λb hb=>by grind)
    have O:=cY hX (.gh d)
    have hn:=b9 hX (.gh d)
    have W:∀b,w.heap.size<=b->∀o,H b o=none:=by
     intro b hb o;cases hc:H b o with
     |none=>rfl
     |some y=>have:=(h1.mem.agree _ _ _ hc).lt;omega
    have af:∀b,tot B (s2.fresh (.gh d)).m b<=tot B s2.m b:=by
     intro b;unfold S.fresh;split
     .omega
     show tot B (aM _ _) b<=_
     rw[bg];exact gp
    have ac:tot B s2.m w.heap.size=0:=by
     rcases alO (tot B s2.m w.heap.size)with h'|h'
     .exact h'
     have:=b2.mem.lt w.heap.size kQ1;omega
    have own:∀b,f' b≠0->b≠w.heap.size->b<w.heap.size/\(∀o,H b o=none)/\(g.own0 b≠0\/g.w0.heap.size<=b):=by grind
    obtain⟨γ',F',R,aa⟩:=dR O (n:=.gh d) rfl hn (v:=z') (t:=.ow r (l++ys)) (f:=f') ⟨k',c2⟩ (λb=>by
      grind)
     (λb hb=>⟨c9 b hb,by grind⟩)
     (λb hb=>by
      by_cases ae:b=w.heap.size
      .right;have:=b2.fr.size;omega
      grind)
    refine⟨_,z',w',H,γ',F',c1,c,RX.put R hd (g8 (sub:=r) (l:=l++ys) ?_ aa)⟩;simp[ah]
 |_=>grind
end
def fzS:List Sh->List T->Option (List D)
 |[],[]=>some []
 |.fr::a,t::ts=>match fzS a ts with
  |some r=>some (t.fz::r)
  |none=>none
 |.ow _::a,.nil::ts=>match fzS a ts with
  |some r=>some (.li []::r)
  |none=>none
 |_,_=>none
section
variable {P:Program} {g:G} {s:S} {a:Act} {w:World} {H:FH} {γ:Gam} {F:Nm->Fp}
theorem Er{k:Nat}{m:Mm}:∀{c:List Sh}{ts:List T}{xs:List D}{f:Fp}{vs:List Value},(∀b,f b=0)->fzS c ts=some xs->Ts (TR w H γ m) ts f vs ->
  Cs (OD w H (k+1)) c xs f vs
 |[],[],xs,_,_,hf,a,_=>by simp only[fzS,akO]at a;subst a;exact hf
 |.fr::c,t::ts,xs,f,vs,hf,a,h=>by
  simp only[fzS]at a;cases h5:fzS c ts with
  |none=>grind
  |some r0=>
   rw[h5]at a;simp only[akO]at a;subst a;obtain⟨v,r,f1,e,h1,h2,h3,h4⟩:=h;refine⟨v,r,f1,e,h1,h2,?_,Er (λb=>by grind) h5 h4⟩;rw[fV];refine⟨λb=>by grind,?_⟩;cases t with
   |d x=>exact h3.2
   |nil=>obtain⟨_,rfl⟩:=h3;exact lN
   |_=>exact⟨0,trivial⟩
 |.ow sub::c,.nil::ts,xs,f,vs,hf,a,h=>by
  simp only[fzS]at a;cases h5:fzS c ts with
  |none=>grind
  |some r0=>
   rw[h5]at a;simp only[akO]at a;subst a;obtain⟨v,r,f1,e,h1,h2,h3,h4⟩:=h;refine⟨v,r,f1,e,h1,h2,?_,Er (λb=>by grind) h5 h4⟩;obtain⟨_,rfl⟩:=h3
   grind [fo]
 |[],_::_,_,_,_,_,a,_=>by grind [fzS]
 |.fr::_,[],_,_,_,_,a,_=>by grind [fzS]
 |.ow _::_,[],_,_,_,_,a,_=>by grind [fzS]
 |.ow _::_,.d _::_,_,_,_,_,a,_=>by grind [fzS]
 |.ow _::_,.ow _ _::_,_,_,_,_,a,_=>by grind [fzS]
 |.ow _::_,.el _ _::_,_,_,_,_,a,_=>by grind [fzS]
 |.ow _::_,.pl _::_,_,_,_,_,a,_=>by grind [fzS]
 |.ow _::_,.rf _::_,_,_,_,_,a,_=>by grind [fzS]
 |.ow _::_,.any::_,_,_,_,_,a,_=>by grind [fzS]
theorem zi(h:RX g s a w H γ F)(hno:n.isOut=false)(hn:ah s.m n=none){cs:Array Value}{ty':TypeId}{len cap:Nat}(hl:l.length=len)(f:len<=cap)(e:len<=BIG)
  (hx:∀x∈l,x.length=sub.length) (p:cs.size=cap*sub.length) (j:∀k,Cs (OD w H (k+1)) (List.replicate len sub).flatten l.flatten (λ_=>0) cs.toList) :
  ∃γ' F',RX g (s.root n ⟨false,[.ow sub l]⟩) a (w.alloc (.cells cs ty')) H γ' F'/\γ' n=.gh (.slice (some ⟨w.heap.size,0,none⟩) len cap):=by
 obtain⟨hm,hf,q,A⟩:=qM h.mem cs ty' false;simp only[akS,false_and,if_false]at hm hf q A;have r:RX g s a (w.alloc (.cells cs ty')) H γ F:=j4 h hm hf (λi=>dw q (λ_ _ _ h=>h) (h.t i)) (λ_=>rfl)
 have C:tot F s.m w.heap.size=0:=by
  rcases alO (tot F s.m w.heap.size)with h'|h'
  .exact h'
  have:=h.mem.lt w.heap.size kQ1;omega
 have B:∀o,H w.heap.size o=none:=by
  intro o;cases hc:H w.heap.size o with
  |none=>rfl
  |some y=>have:=(h.mem.agree _ _ _ hc).lt;omega
 have d:∀k,Cs (OD (w.alloc (.cells cs ty')) H (k+1)) (List.replicate len sub).flatten l.flatten (λ_=>0) cs.toList:=by intro k;refine lM _ _ _ _ (λs x g v u c=>?_) (j k);exact cK (λ_ _ _ h=>h) (k+1) (k+1) _ _ _ _ (akR _) (λb hb=>absurd (Nat.le_zero.1 (u b)) hb) c
 subst hl;have c:TR (w.alloc (.cells cs ty')) H γ s.m (.ow sub l) (λb=>0+if b=w.heap.size then 1 else 0) (.slice (some ⟨w.heap.size,0,none⟩) l.length cap):=⟨2,zg (bw) rfl p f e hx (d 0)⟩
 exact dR r hno hn c (λb=>by
   grind [Mem.le1])
  (λb hb=>by simp_all)
  (λb hb=>by
   have z:b=w.heap.size:=by grind
   right;have:=h.fr.size;omega)
def j7(P:Program)(s0:S)(t:TypeId)(len:Nat)(sub:List Sh)(ps:Array (Nat×Operand))(d:Tmp)(k:S->Prop):Prop:=
 match(ty P t).k with
 |.sl e=>(ty P e).ok=true/\(zcells P e).isSome=true/\len*(ty P e).size<=16777216/\len<=16777216/\sub.length=(ty P e).size /\
  let s:=(pc s0 (ps.toList.map λx=>ev s0 x.2)).fresh (.gh d)
  match jX (λi=>some (i*(ty P e).size,(ty P e).size)) (List.replicate (len*(ty P e).size) .any) (lg s ps)with
  |some ts=>match fzS (List.replicate len sub).flatten ts with
   |some xs=>k ((s.root (.gh d) ⟨false,[.ow sub (chunk (ty P e).size len xs)]⟩).put (some d) (.one (.c (.rf ⟨.gh d,0,[]⟩))))
   |none=>False
  |none=>False
 |_=>False
theorem xZ(h:RX g s a w H γ F){t:TypeId}{len:Nat}{sub:List Sh}{k:S->Prop}(hd:okD g.nt (some d)=true)(hp:(ps.toList.all λx=>aI x.2)=true)(b:j7 P s t len sub ps d k) :
  ∃s' y w' H' γ' F',(Instr.buildSlice t len (ps.map λ(i,x)=>(i,a.eval x))).run P w=.ok y w'/\k s'/\RX g s' (a.put (some d) y) w' H' γ' F':=by
 unfold j7 at b;cases hk:(ty P t).k with
 |sl e=>
  rw[hk]at b;obtain⟨G,D,c,U,B,b⟩:=b;obtain⟨_,td,hit,I,J,_⟩:=aT hk (by simp);have:=pg J
  subst this;obtain⟨f,W,p,_⟩:=jG G;have o:(ty P e).size=f.size:=by omega
  obtain⟨zs,u⟩:=Option.isSome_iff_exists.1 D;obtain⟨v,z,E,V,_⟩:=kH u;rw[p]at E;obtain rfl:f=v:=by grind
  obtain⟨H1,F1,h1⟩:=tZ (ps.toList.map λx=>ev s x.2) s H F h;have h2:=cY h1 (.gh d)
  have hn:=b9 h1 (.gh d)
  dsimp only at b;generalize(pc s (ps.toList.map λx=>ev s x.2)).fresh (.gh d)=s2 at b h2 hn;cases hf:jX (λi=>some (i*(ty P e).size,(ty P e).size)) (List.replicate (len*(ty P e).size) .any) (lg s2 ps)with
  |none=>grind
  |some ts=>
   rw[hf]at b;dsimp only at b;rw[o]at hf b c B;have r:PR w H1 γ s2.m (lg s2 ps) (ps.map λ(i,x)=>(i,a.eval x)).toList:=by rw[Array.toList_map];exact tX (m:=s2.m) h2 hp
   have j:∀us:Array Value,us.size=len*f.size->∃cs,Instr.fill (λi=>some (i*f.size,f.size)) us (ps.map λ(i,x)=>(i,a.eval x)).toList=some cs/\cs.size=ts.length/\Ts (TR w H1 γ s2.m) ts (λ_=>0) cs.toList:=by
    intro us hus;refine yq h2.mem _ _ _ us ts r (by grind) ?_ hf;have:=Mj (w:=w) (H:=H1) (γ:=γ) (m:=s2.m) (vs:=us.toList)
    grind
   have M:ts.length=len*f.size:=by rw[ox hf];simp
   obtain⟨us,cs,u1,T,R⟩:=jR (P:=P) (w:=w) (t:=t) (e:=e) (len:=len) (vs:=ps.map λ(i,x)=>(i,a.eval x)) (cells:=#[]) I p V kQ1 (λus hus=>by grind)
   obtain⟨C,N,X,O⟩:=j us u1;rw[T]at N;obtain rfl:cs=C:=by grind
   cases q:fzS (List.replicate len sub).flatten ts with
   |none=>grind
   |some xs=>
    rw[q]at b;dsimp only at b;have A:∀k,Cs (OD w H1 (k+1)) (List.replicate len sub).flatten xs (λ_=>0) cs.toList:=λk=>Er (λ_=>rfl) q O
    have L:xs.length=len*f.size:=by
     have h5:=(Cz _ _ _ _ (A 0)).1
     grind [cQ,amI]
    obtain⟨γ',F',Q,K⟩:=zi h2 (n:=.gh d) rfl hn (cs:=cs) (ty':=e) (len:=len) (cap:=len) (sub:=sub) (l:=chunk f.size len xs) oo (akR _) (by
      show len<=2 ^ 62
      omega) (by grind [wc]) (by grind) (λk=>by grind [sO])
    refine⟨_,_,_,H1,γ',F',R,b,RX.put Q hd (g8 (sub:=sub) (l:=chunk f.size len xs) ?_ K)⟩;simp[S.root,ah]
 |_=>grind
end
abbrev upS(k:St->Prop):S->Prop:=λs'=>∃t:St,SEq s' t.toS/\k t
theorem Pa{P:Program}(h:zcells P t=some zs):zs.all okT=true:=by grind [zcells]
variable{E:Ut}{u0:TypeId}
section
variable {P:Program} {s:St} {k:St->Prop}
theorem RT(hn:ND s.m)(h:pH P s t d k):vS P s.toS t d (upS k):=by
 unfold pH at h;split at h
 .rename_i z zs a;split at h
  .rename_i hd;unfold vS;rw[a];refine⟨by simp,akZ hd,_,?_,h⟩;have e:((s.fresh (lJ t d)).root (lJ t d) ⟨true,(z::zs).map pR,none⟩).toS=(s.toS.fresh (lJ t d)).root (lJ t d) ⟨true,(z::zs).map rQ⟩:=by rw[<- bx hn,<- Qo (Pa a)];rfl
   rw[<- e];exact aQ ((s.fresh (lJ t d)).root (lJ t d) ⟨true,(z::zs).map pR,none⟩) (some d) (.one (.c (.pl ⟨lJ t d,0,[]⟩)))
  grind
 grind
theorem aaK{x:Operand}(hn:ND s.m)(hx:aI x=true)(h:IP s x d k):Sf s.toS x d (upS k):=by
 unfold IP at h;split at h
 .rename_i t ts hc;split at h
  .rename_i hd;simp only[akP]at hd;unfold Sf;rw[<- bx hn,ak hx,sL,hc];dsimp only[Option.map_some];refine⟨by simp,?_,akZ hd.2,_,?_,h⟩
   .grind [LA]
   exact aQ ((s.fresh (.loc d)).root (.loc d) ⟨true,t::ts,none⟩) (some d) (.one (.c (.pl ⟨.loc d,0,[]⟩)))
  grind
 grind
theorem Qx{t:Tt}{x:El u}(h:BU u t=some x):t.toT.fz=(ao u x).toD:=by
 unfold BU at h;split at h
 .split at h
  .simp only[akO]at h;subst h;rfl
  grind
 .rename_i c _;rw[dW h];rfl
 .split at h
  .simp only[akO]at h;subst h;rfl
  grind
 grind
theorem Jy:∀{us:List U}{ts:List Tt}{x:Fl us},lS us ts=some x->ts.map (λt=>t.toT.fz)=(fq us x).map C.toD
 |[],[],_,_=>rfl
 |u::r,c::cs,x,h=>by
  simp only[lS]at h;cases h1:BU u c with
  |none=>grind
  |some y=>
   cases h2:lS r cs with
   |none=>grind
   |some z=>rw[h1,h2]at h;simp only[akO]at h;subst h;rw[fq,uB,vw,List.map_cons,List.map_cons,Qx h1,Jy h2]
 |[],_::_,_,h=>by simp[lS]at h
 |_::_,[],_,h=>by simp[lS]at h
theorem ab4{x:El u}(h:lI u ts=some x):ts.map (λt=>t.toT.fz)=ap u x:=by
 rw[<- bZ];cases u with
 |st n=>
  simp only[lI]at h;cases h1:lS (sd n).fs ts with
  |none=>grind
  |some y=>
   rw[h1]at h;have:=Option.some.inj h
   subst this;show _=(fq (sd n).fs ((sd n).un ((sd n).mkF y))).map C.toD
   rw[(sd n).l2,Jy h1]
 |_=>
  cases ts with
  |nil=>cases h
  |cons t r=>cases r with
   |nil=>rw[kp rfl];simp only[List.map_cons,List.map_nil];rw[Qx h]
   |cons _ _=>cases h
theorem oC:∀{rows:List (List Tt)}{l:List (El u)},ig u rows=some l->rows.map (λr=>r.map λt=>t.toT.fz)=l.map (ap u)
 |[],l,h=>by grind [ig]
 |r::rs,l,h=>by
  simp only[ig]at h;cases h1:lI u r with
  |none=>grind
  |some x=>
   cases h2:ig u rs with
   |none=>grind
   |some xs=>rw[h1,h2]at h;simp only[akO]at h;subst h;rw[List.map_cons,List.map_cons,ab4 h1,oC h2]
theorem wb{α β:Type}(f:α->β)(size:Nat):∀(n:Nat)(l:List α),chunk size n (l.map f)=(chunk size n l).map (·.map f)
 |0,_=>rfl
 |n+1,l=>by simp only[chunk,List.map_cons,amS];rw[<- am3,wb f size n]
theorem IC(h:(fB s ps).all (λx=>x.2.noRf)=true):(ps.toList.map λx=>evA s x.2).all At.noRf=true:=by grind [fB,List.all_map]
theorem Qs{xs:List (Nat×Operand)}(h:(xs.all λx=>aI x.2)=true):(xs.map λx=>ev s.toS x.2)=(xs.map λx=>evA s x.2).map At.toV:=by grind [ak4,ak]
theorem zD{len:Nat}(b:(ps.toList.all λx=>aI x.2)=true)
  (hn:ND (cR s (ps.toList.map λx=>evA s x.2)).m) (h:eh P E s t len ps d k):gR P (cR s (ps.toList.map λx=>evA s x.2)).toS t len ps d (upS k):=by
 unfold eh at h;split at h
 .rename_i e o;split at h
  .rename_i u z r v;split at h
   .rename_i hc;simp only[akP]at hc;obtain⟨⟨⟨i,j⟩,q⟩,p⟩:=hc;have f:=akU j
    dsimp only at h;generalize hs1:cR s (ps.toList.map λx=>evA s x.2)=s1 at h hn;split at h
    .rename_i ts hf hno;split at h
     .rename_i l hl;unfold gR;rw[o];dsimp only;refine⟨i,by grind,by simp_all,akZ p,?_⟩;rw[Qs b,oA (IC hno),<- bx hn,wF b,<- f];have a:=q7 hf
      rw[List.map_replicate]at a;have e0:Tt.any.toT=T.any:=rfl
      rw[e0]at a;rw[a];dsimp only;refine⟨_,?_,h⟩;have n:(⟨false,[.ow (List.replicate (nc u) .fr) u l],none⟩:Rt).toR=⟨false,[.ow (List.replicate (nc u) .fr) (chunk (nc u) len ((ts.map Tt.toT).map T.fz))]⟩:=by
       have g:chunk (nc u) len ((ts.map Tt.toT).map T.fz)=l.map (ap u):=by rw[al3,wb];exact oC hl
       rw[g];rfl
      rw[<- n];exact aQ ((s1.fresh (.gh d)).root (.gh d) ⟨false,[.ow (List.replicate (nc u) .fr) u l],none⟩) (some d) (.one (.c (.rf ⟨.gh d,0,[]⟩)))
     grind
    grind
   grind
  grind
 grind
theorem vp:∀{a:List Sh}{ts:List Tt},nR a ts=true->fzS a (ts.map Tt.toT)=some (ts.map λt=>t.toT.fz)
 |[],[],_=>rfl
 |.fr::r,t::ts,h=>by simp only[List.map_cons,fzS];rw[vp (show nR r ts=true from h)]
 |.ow sub::r,t::ts,h=>by
  cases t with
  |nil=>simp only[List.map_cons,Tt.toT,fzS];rw[vp (show nR r ts=true from h)];rfl
  |_=>simp[nR]at h
 |[],_::_,h=>by simp[nR]at h
 |.fr::_,[],h=>by simp[nR]at h
 |.ow _::_,[],h=>by simp[nR]at h
theorem x8{len:Nat}(f:(ps.toList.all λx=>aI x.2)=true)
  (hn:ND (cR s (ps.toList.map λx=>evA s x.2)).m) (h:dz P E sub s t len ps d k):j7 P (cR s (ps.toList.map λx=>evA s x.2)).toS t len sub ps d (upS k):=by
 unfold dz at h;split at h
 .rename_i e p;split at h
  .rename_i u z v w;split at h
   .rename_i hc;simp only[akP]at hc;obtain⟨⟨⟨⟨j,n⟩,r⟩,q⟩,y⟩:=hc;have g:=akU n
    dsimp only at h;generalize hs1:cR s (ps.toList.map λx=>evA s x.2)=s1 at h hn;split at h
    .rename_i ts hf hno;split at h
     .rename_i l hl b;unfold j7;rw[p];dsimp only;refine⟨j,by grind,by simp_all,akZ q,by grind [akU],?_⟩;rw[Qs f,oA (IC hno),<- bx hn,wF f,<- g];have a:=q7 hf
      rw[List.map_replicate]at a;have e0:Tt.any.toT=T.any:=rfl
      rw[e0]at a;rw[a];dsimp only;rw[vp b];dsimp only;refine⟨_,?_,h⟩;have o:(⟨false,[.ow sub u l],none⟩:Rt).toR=⟨false,[.ow sub (chunk (nc u) len (ts.map λt=>t.toT.fz))]⟩:=by
       have i:chunk (nc u) len (ts.map λt=>t.toT.fz)=l.map (ap u):=by grind [wb,oC]
       rw[i];rfl
      rw[<- o];exact aQ ((s1.fresh (.gh d)).root (.gh d) ⟨false,[.ow sub u l],none⟩) (some d) (.one (.c (.rf ⟨.gh d,0,[]⟩)))
     grind
    grind
   grind
  grind
 grind
theorem ze{m:List (Nm×Nat×Rt)}(h:ND m):ND (dv m n i r):=by grind [DG]
theorem Uk(t:Tt):t.toT.owned=t.owned:=by cases t<;>rfl
theorem Q0{t:Tt}(h:Cp s p t k)(hn:ND s.m):∃m',(∀K:Mm->Prop,K m'->tf s.toS.m p t.toT K)/\∃s':St,s'.toS=⟨s.toS.t,m'⟩/\ND s'.m/\k s':=by
 unfold Cp at h;split at h
 .grind
 rename_i r hr;split at h
 .rename_i t0 a f hc;split at h
  .rename_i n;have d:r.toR.cells=r.cells.map Tt.toT:=by show holed _ r.hole=_;rw[f];rfl
   refine⟨cz s.toS.m p.root ⟨r.blk,(r.cells.map Tt.toT).set p.off t.toT⟩,λK e=>?_,_,?_,ze hn,h⟩
   .unfold tf;rw[show ah s.toS.m p.root=some r.toR from bi hr];dsimp only;rw[a,d,akT,hc];exact⟨by grind [Uk],e⟩
   refine bF.S_ext rfl ?_;show toM (dv s.m p.root s.nx _)=_
   rw[fH]
   congr 1
   grind [Rt.toR,holed,alM]
  grind
 .rename_i st q sub u l a f hc;split at h
  .rename_i l' hl;have d:r.toR.cells=r.cells.map Tt.toT:=by show holed _ r.hole=_;rw[f];rfl
   refine⟨cz s.toS.m p.root ⟨r.blk,(r.cells.map Tt.toT).set p.off (.ow sub (l'.map (ap u)))⟩,λK e=>?_,_,?_,ze hn,FQ h⟩
   .unfold tf;rw[show ah s.toS.m p.root=some r.toR from bi hr];dsimp only;rw[a,d,akT,hc];exact Lp h hl e
   refine bF.S_ext rfl ?_;show toM (dv s.m p.root s.nx _)=_
   rw[fH]
   congr 1
   grind [Rt.toR,holed,alM,Tt.toT]
  grind
 .rename_i st q off i j sub u l a f hc;split at h
  .rename_i sh v o hb;split at h
   .rename_i l' hl;have c:off=p.off:=akU hb
    subst c;obtain⟨b,hk⟩:=Dm (FQ h);have g:p.off < (r.cells.map Tt.toT).length:=by grind
    simp only[List.cons.injEq]at b;obtain⟨rfl,rfl⟩:=b;have d:r.toR.cells=(r.cells.map Tt.toT).set p.off (.ow sub (bX sub (l.map (ap u)) .any (i::j))):=by
     show holed _ r.hole=_
     grind [JF]
    refine⟨cz s.toS.m p.root ⟨r.blk,(r.cells.map Tt.toT).set p.off (.ow sub (l'.map (ap u)))⟩,λK e=>?_,_,?_,ze hn,hk⟩
    .unfold tf;rw[show ah s.toS.m p.root=some r.toR from bi hr];dsimp only;rw[a,d,alH g];refine Jk h hl ?_;rw[amQ];exact e
    refine bF.S_ext rfl ?_;show toM (dv s.m p.root s.nx _)=_
    rw[fH]
    congr 1
    simp only[Rt.toR,holed,alM,Tt.toT]
   grind
  grind
 grind
theorem Yi(n:Nm)(t:Tt):t.toT.ment n=t.ment n:=by cases t<;>rfl
theorem tz(g:∀t:St,k t->K t.toS):∀{ts:List Tt}{s:St}{p:Pl},ND s.m->iB s p ts k->dG s.toS p (ts.map Tt.toT) K
 |[],s,p,hn,h=>g s h
 |t::ts,s,p,hn,h=>by
  have b:∀t:Tt,(∀q,t≠.rf q)->t≠.any->t≠.d .any->Cp s p t (λs'=>iB s' (p.add 1) ts k)->dG s.toS p (t.toT::ts.map Tt.toT) K:=by
   intro t h1 h2 h3 h;obtain⟨m',hp,s',e,hn',hk⟩:=Q0 h hn;have key:dG s.toS p (t.toT::ts.map Tt.toT) K=tf s.toS.m p t.toT λm'=>dG ⟨s.toS.t,m'⟩ (p.add 1) (ts.map Tt.toT) K:=by
    cases t with
    |rf q=>grind
    |any=>grind
    |d c=>cases c with
     |any=>grind
     |_=>rfl
    |_=>rfl
   rw[key];refine hp _ ?_;rw[<- e];exact tz g hn' hk
  cases t with
  |rf q=>
   simp only[iB]at h;split at h
   .rename_i sub u l hr;split at h
    .rename_i a f i;simp only[List.map_cons,Tt.toT,dG];rw[show ah s.toS.m q.root=some (⟨false,[.ow sub u l],none⟩:Rt).toR from bi hr];refine⟨a,by grind,?_,?_⟩
     .grind [Yi]
     rw[<- bF hn];obtain⟨m',hp,s',e,hn',hk⟩:=Q0 h (P4 hn);refine hp _ ?_;rw[<- e];exact tz g hn' hk
    grind
   grind
  |any=>exact h.elim
  |d c=>cases c with
   |any=>exact h.elim
   |_=>exact b _ (λ_ h=>by cases h) (λh=>by cases h) (λh=>by cases h) h
  |_=>exact b _ (λ_ h=>by cases h) (λh=>by cases h) (λh=>by cases h) h
theorem OF(i:∀t:St,k t->K t.toS)(b:ts≠[])(h:ml s p ts k):dG s.toS p (ts.map Tt.toT) K:=by
 unfold ml at h;split at h
 .grind
 rename_i r hr;split at h
 .rename_i st q sub u l a g hc;split at h
  .rename_i l' hl;have d:r.toR.cells=r.cells.map Tt.toT:=by show holed _ r.hole=_;rw[g];rfl
   obtain⟨f,c⟩:=Ec hl;refine xS (bi hr) a (sub:=sub) (l:=l.map (ap u)) (by rw[d,akT,hc];rfl) c f (Lq b h hl ?_);have hk:=i _ (FQ h)
   have e:(⟨s.nx+1,s.t,dv s.m p.root s.nx { r with cells:=r.cells.set p.off (.ow sub u l') }⟩:St).toS=⟨s.toS.t,cz s.toS.m p.root { r.toR with cells:=r.toR.cells.set p.off (.ow sub (l'.map (ap u))) }⟩:=by
    refine bF.S_ext rfl ?_;show toM (dv s.m p.root s.nx _)=_
    rw[fH]
    congr 1
    grind [Rt.toR,holed,alM,Tt.toT]
   grind
  grind
 grind
theorem UP(b:∀t:St,k t->K t.toS)(hn:ND s.m)(h:qD P s t x v k):wT P s.toS t x.toV v.toV K:=by
 unfold qD at h;split at h
 .rename_i p ts hv;split at h
  .rename_i hc;simp only[akP]at hc;unfold wT;rw[sL,hv];refine⟨hc.1.1,by grind [akU],by rw[akV];exact p9 hc.2,?_⟩;split at h
   .rename_i a;refine OF b (λe=>?_) h;subst e;simp[Y9,Nat.blt]at a
   grind [tz]
  grind
 grind
theorem ad1{l:List (El u)}{size:Nat}(hs:nc u=size)(h:ad0 u v=some l):ki size v.toV=some (l.map (ap u))/\v.noRf=true:=by
 unfold ad0 at h;split at h
 .simp only[akO]at h;subst h;exact⟨rfl,rfl⟩
 .rename_i u' l';obtain⟨e,rfl⟩:=js h;subst e;exact⟨rfl,rfl⟩
 .rename_i b;split at h
  .simp only[akO]at h;subst h;have:size=1:=hs.symm
   simp only[At.toV,A1.toV,Tt.toT,C.toD,ki];rw[if_pos this];exact⟨rfl,rfl⟩
  grind
 grind
theorem I8{m:List (Nm×Nat×Rt)}{t:Tt}(hr:bK m q.root=some r)(hp:q.path=[])(h:atT m q 1=some [t]):r.cells[q.off]? = some t:=by
 unfold atT at h;rw[hr]at h;dsimp only at h;rw[hp]at h;dsimp only at h;split at h
 .rename_i hb;simp only[akO]at h;have:=congrArg (·[0]?) h
  grind
 grind
theorem mX{s':St}{l:List (El u)}{size:Nat}(hs:nc u=size)(hn:ND s.m)(hop:∀q,v=.one (.c (.rf q))->okP (toM s.m) q)(h:kL s u v=some (s',sub,l)) :
  jo s.toS size v.toV=some (s'.toS,sub,l.map (ap u))/\ND s'.m/\Ext s s':=by
 unfold kL at h;split at h
 .simp only[akO,Prod.mk.injEq]at h;obtain⟨rfl,rfl,rfl⟩:=h;exact⟨by rw[<- hs];rfl,hn,Ext.refl _⟩
 .rename_i q;split at h
  .rename_i d u' l' y;split at h
   .rename_i l2 s2 k w a;simp only[akO,Prod.mk.injEq]at h;obtain⟨rfl,rfl,rfl⟩:=h;obtain⟨e,rfl⟩:=js k;subst e;unfold Zl at a;split at a
    .grind
    rename_i r hr;split at a
    .rename_i b o;simp only[akO]at a;have i:atT s.m q 1=some [.ow d u' l']:=by grind [sliceAt]
     have hc:=I8 hr b i
     have f:ah s.toS.m q.root=some r.toR:=bi hr
     have g:r.toR.cells=r.cells.map Tt.toT:=by show holed _ r.hole=_;rw[o];rfl
     have j:aU s.toS.m q=some (.ow d (l'.map (ap u'))):=by unfold aU;rw[f,b];dsimp only;rw[g,akT,hc];rfl
     refine⟨?_,?_,?_⟩
     .simp only[At.toV,A1.toV,Tt.toT,jo];rw[j];dsimp only;rw[if_pos (by grind [akU])]
      congr 2
      rw[<- a];refine bF.S_ext (nr _ _ _).symm ?_;show _=toM (cc (thr q) s.nx (dv s.m q.root s.nx _))
      rw[eI,fH]
      congr 1
      unfold bk;rw[f,b];dsimp only;show cz (toM s.m) q.root _=_
      grind [Rt.toR,holed,alM,Tt.toT]
     .grind [Et,ze]
     rw[<- a];exact⟨alN _,gO (akR _),(dx _ _ (akR _) s.m).trans (dQ (akR _))⟩
    .rename_i st A b o;simp only[akO]at a;have i:atT s.m q 1=some [.ow d u' l']:=by grind [sliceAt]
     have f:ah s.toS.m q.root=some r.toR:=bi hr
     have g:r.toR.cells=r.cells.map Tt.toT:=by show holed _ r.hole=_;rw[o];rfl
     have hq:=hop q rfl
     unfold okP at hq;rw[b]at hq;obtain⟨r2,p,l2,g1,g2,g3⟩:=hq;have n:r2=r.toR:=Option.some.inj (g1.symm.trans f)
     subst n;unfold atT at i;rw[hr]at i;dsimp only at i;rw[b]at i;dsimp only at i;split at i
     .rename_i t u0 z _ hc;rw[g,akT,hc]at g2;simp only[Option.map_some,akO,Tt.toT,T.ow.injEq]at g2;obtain⟨rfl,rfl⟩:=g2;have x:=Ap g3 i
      have j:aU s.toS.m q=some (.ow d (l'.map (ap u'))):=by grind [aU,Tt.toT]
      refine⟨?_,?_,?_⟩
      .simp only[At.toV,A1.toV,Tt.toT,jo];rw[j];dsimp only;rw[if_pos (by grind [akU])]
       congr 2
       rw[<- a];refine bF.S_ext (nr _ _ _).symm ?_;show _=toM (cc (thr q) s.nx (dv s.m q.root s.nx _))
       rw[eI,fH]
       congr 1
       unfold bk;rw[f];dsimp only;rw[b];dsimp only;rw[g,akT,hc];show cz (toM s.m) q.root _=_
       grind [Rt.toR,Tt.toT,T.toD,JF]
      .grind [Et,ze]
      rw[<- a];exact⟨alN _,gO (akR _),(dx _ _ (akR _) s.m).trans (dQ (akR _))⟩
     grind
    grind
   grind
  grind
 grind
theorem adS:∀n:Sn,(sd n).fs.all leaf=true:=by intro n;cases n<;>rfl
theorem SU(h:leaf u=true)(x:El u):(ao u x).toD.sure=true:=by
 cases u with
 |st n=>cases h
 |_=>rfl
theorem zR:∀{us:List U}(_:us.all leaf=true)(x:Fl us),∀d∈(fq us x).map C.toD,d.sure=true
 |[],_,_,d,hd=>by grind [fq]
 |u::r,h,x,d,hd=>by
  simp only[ak2,akP]at h;simp only[fq,List.map_cons,akX]at hd;rcases hd with rfl|hd
  .exact SU h.1 _
  exact zR h.2 _ d hd
theorem Jc(x:El u):∀d∈ap u x,d.sure=true:=by
 rw[<- bZ];cases u with
 |st n=>exact zR (adS n) _
 |_=>intro d hd;rw[kp rfl]at hd;simp only[List.map_cons,List.map_nil,ak6]at hd;subst hd;rfl
theorem Mu{x:Operand}(hx:aI x=true)(hy:aI y=true)(hn:ND (fW s (evA s y)).m)(hop:∀q,evA (fW s (evA s y)) x=.one (.c (.rf q))->okP (toM (fW s (evA s y)).m) q)(h:lP P E s t u0 x y d k):qU P (fW s (evA s y)).toS t u0 x y d (upS k):=by
 unfold lP at h;dsimp only at h;generalize hs1:fW s (evA s y)=s1 at h hn hop;split at h
 .rename_i e p;split at h
  .rename_i u z A B;split at h
   .rename_i hc;simp only[akP]at hc;obtain⟨⟨⟨j,n⟩,w⟩,v⟩:=hc;have g:=akU v
    split at h
    .rename_i i s2 sub l b a;split at h
     .rename_i f;obtain⟨⟨h1,h2⟩,h3⟩:=h;obtain⟨k1,k2⟩:=ad1 g b;obtain⟨b1,b2,_⟩:=mX g hn hop a;unfold qU;dsimp only;rw[ak hy,wj k2,p];dsimp only;refine⟨j,n,by grind [akU],?_⟩;rw[ak hy,ak hx,k1,b1];dsimp only;refine⟨f,?_,by grind,by grind,_,?_,h3⟩
      .intro r hr
       grind [lZ,Jc]
      rw[<- bx b2];have o:(⟨false,[.ow sub u (l++i)],none⟩:Rt).toR=⟨false,[.ow sub (l.map (ap u)++i.map (ap u))]⟩:=by rw[<- al0];rfl
      rw[<- o];exact aQ ((s2.fresh (.gh d)).root (.gh d) ⟨false,[.ow sub u (l++i)],none⟩) (some d) (.one (.c (.rf ⟨.gh d,0,[]⟩)))
     grind
    grind
   grind
  grind
 grind
theorem IE{x:Operand}(hx:aI x=true)(hy:aI y=true)(hn:ND s.m)(g:∀q,evA s y=.one (.c (.rf q))->okP (toM s.m) q)
  (j:∀(size:Nat)(s1:St)(sub:List Sh)(l:List (List D))q,ND s1.m->jo s.toS size (evA s y).toV=some (s1.toS,sub,l)->evA s1 x=.one (.c (.rf q))->okP (toM s1.m) q) (h:jl P E s t u0 x y d k):uf P s.toS t u0 x y d (upS k):=by
 unfold jl at h;split at h
 .rename_i e G;split at h
  .rename_i u z I J;split at h
   .rename_i hc;simp only[akP]at hc;obtain⟨⟨⟨A,C⟩,H⟩,B⟩:=hc;have i:=akU B
    split at h
    .rename_i s1 f o a;split at h
     .rename_i s2 sub l n;split at h
      .rename_i b;obtain⟨⟨h1,h2⟩,h3⟩:=h;obtain⟨v,p,_⟩:=mX i hn g a;obtain⟨b1,b2,_⟩:=mX i p (λq hq=>j _ s1 _ _ q p v hq) n;unfold uf;rw[G];dsimp only;refine⟨A,C,by grind [akU],?_⟩;rw[ak hy,v];dsimp only;rw[ak hx,b1];dsimp only;have w:f.length=nc u:=by
        unfold kL at a;split at a
        all_goals grind [akU]
       refine⟨kD b,?_,by grind,by grind,_,?_,h3⟩
       .intro r hr
        grind [lZ,Jc]
       rw[<- bx b2];have F:(⟨false,[.ow sub u (l++o)],none⟩:Rt).toR=⟨false,[.ow sub (l.map (ap u)++o.map (ap u))]⟩:=by rw[<- al0];rfl
       rw[<- F];exact aQ ((s2.fresh (.gh d)).root (.gh d) ⟨false,[.ow sub u (l++o)],none⟩) (some d) (.one (.c (.rf ⟨.gh d,0,[]⟩)))
      grind
     grind
    grind
   grind
  grind
 grind
end
end Go.Am
end
