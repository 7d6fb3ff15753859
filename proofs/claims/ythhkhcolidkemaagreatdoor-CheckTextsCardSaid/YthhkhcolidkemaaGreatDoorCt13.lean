/-
  Part 13: AmIter · AmE3 · AmE3b · AmE3c · AmE3d · AmE20 · AmAppTwo · AmBuildTwo · AmE3e.
-/
import Derived.Test.YthhkhcolidkemaaGreatDoorCt12
import Derived.Shelf.SlIter.Nil
import Derived.Shelf.SortM.Plain
import Derived.Shelf.SortM.SortNone
import Derived.Shelf.SlMaps.Clone
set_option linter.unusedSimpArgs false
set_option linter.unusedVariables false
set_option linter.unusedSectionVars false
set_option linter.unnecessarySimpa false
open Go.Proofs.Tryz
section
namespace Go.Proofs
open Go.RowKit Go.Maps Go.Sort Go.Shelf
def Tryz.keys210_ren:Go.Shelf.Ren:=⟨λ|7=>210|10=>237|n=>n,λ|23=>221|26=>9|3=>4|28=>261|0=>0|27=>260|33=>40|4=>4|n=>n,λ|n=>n⟩
theorem Tryz.keys210:Go.Proofs.SlLaysZ.n7 prog Tryz.keys210_ren:={
 mixed:=by rfl
 f7:=⟨f210.name,by decide,func210.trans (congrArg some (by rfl))⟩
 f10:=⟨f237.name,by decide,func237.trans (congrArg some (by rfl))⟩
 t0:=underlying0
 a0:=isAgg0
 z0:=sizeOf0
 v0:=zeroValue0
 t4:=underlying4
 a4:=isAgg4
 z4:=sizeOf4
 v4:=zeroValue4
 t23:=underlying221
 a23:=isAgg221
 z23:=sizeOf221
 v23:=zeroValue221
 t26:=underlying9
 a26:=isAgg9
 z26:=sizeOf9
 v26:=zeroValue9
 t27:=underlying260
 a27:=isAgg260
 z27:=sizeOf260
 v27:=zeroValue260
 t28:=underlying261
 a28:=isAgg261
 z28:=sizeOf261
 v28:=zeroValue261
 t33:=underlying40
 a33:=isAgg40
 z33:=sizeOf40
 v33:=zeroValue40 }
def Tryz.sorted209_ren:Go.Shelf.Ren:=⟨λ|6=>209|8=>235|9=>236|11=>248|13=>250|12=>249|23=>262|24=>263|14=>253|15=>254|16=>255|17=>256|18=>257|19=>258|20=>259|21=>260|22=>261|25=>266|26=>267|27=>268|28=>269|29=>270|30=>271|31=>273|n=>n,λ|26=>9|28=>261|24=>45|0=>0|3=>3|37=>280|48=>285|50=>137|4=>4|40=>300|39=>299|45=>156|5=>5|9=>9|51=>308|55=>312|57=>314|58=>315|33=>40|n=>n,λ|n=>n⟩
theorem Tryz.sorted209:Go.Proofs.SlLaysZ.n6 prog Tryz.sorted209_ren:={
 mixed:=by rfl
 f6:=⟨f209.name,by decide,func209.trans (congrArg some (by rfl))⟩
 f8:=⟨f235.name,by decide,func235.trans (congrArg some (by rfl))⟩
 f11:=⟨f248.name,by decide,func248.trans (congrArg some (by rfl))⟩
 t0:=underlying0
 a0:=isAgg0
 z0:=sizeOf0
 v0:=zeroValue0
 t24:=underlying45
 a24:=isAgg45
 z24:=sizeOf45
 v24:=zeroValue45
 t26:=underlying9
 a26:=isAgg9
 z26:=sizeOf9
 v26:=zeroValue9
 t28:=underlying261
 a28:=isAgg261
 z28:=sizeOf261
 v28:=zeroValue261
 i26:=by kernel_rfl }
def Tryz.sort236_ren:Go.Shelf.Ren:=⟨λ|6=>236|8=>250|9=>249|19=>262|20=>263|21=>253|22=>254|23=>255|24=>256|25=>257|26=>258|27=>259|28=>260|29=>261|36=>266|31=>267|32=>268|37=>269|38=>270|39=>271|41=>273|n=>n,λ|27=>45|29=>9|3=>3|32=>280|26=>45|0=>0|44=>285|46=>137|4=>4|36=>300|35=>299|41=>156|5=>5|9=>9|53=>308|57=>312|63=>314|64=>315|n=>n,λ|n=>n⟩
theorem Tryz.sort236:Go.Proofs.SlLaysM.n6 prog Tryz.sort236_ren:={
 mixed:=by rfl
 f6:=⟨f236.name,by decide,func236.trans (congrArg some (by rfl))⟩
 f8:=func250.trans (congrArg some (by rfl))
 f9:=⟨f249.name,by decide,func249.trans (congrArg some (by rfl))⟩
 f19:=func262.trans (congrArg some (by rfl))
 f20:=func263.trans (congrArg some (by rfl))
 f21:=⟨f253.name,by decide,func253.trans (congrArg some (by rfl))⟩
 f22:=⟨f254.name,by decide,func254.trans (congrArg some (by rfl))⟩
 f23:=⟨f255.name,by decide,func255.trans (congrArg some (by rfl))⟩
 f24:=⟨f256.name,by decide,func256.trans (congrArg some (by rfl))⟩
 f25:=⟨f257.name,by decide,func257.trans (congrArg some (by rfl))⟩
 f26:=⟨f258.name,by decide,func258.trans (congrArg some (by rfl))⟩
 f27:=⟨f259.name,by decide,func259.trans (congrArg some (by rfl))⟩
 f28:=⟨f260.name,by decide,func260.trans (congrArg some (by rfl))⟩
 f29:=⟨f261.name,by decide,func261.trans (congrArg some (by rfl))⟩
 f31:=func267.trans (congrArg some (by rfl))
 f32:=func268.trans (congrArg some (by rfl))
 f36:=⟨f266.name,by decide,func266.trans (congrArg some (by rfl))⟩
 f37:=⟨f269.name,by decide,func269.trans (congrArg some (by rfl))⟩
 f38:=⟨f270.name,by decide,func270.trans (congrArg some (by rfl))⟩
 f39:=⟨f271.name,by decide,func271.trans (congrArg some (by rfl))⟩
 f41:=⟨f273.name,by decide,func273.trans (congrArg some (by rfl))⟩
 t0:=underlying0
 a0:=isAgg0
 z0:=sizeOf0
 v0:=zeroValue0
 t3:=underlying3
 a3:=isAgg3
 z3:=sizeOf3
 v3:=zeroValue3
 t4:=underlying4
 a4:=isAgg4
 z4:=sizeOf4
 v4:=zeroValue4
 t5:=underlying5
 a5:=isAgg5
 z5:=sizeOf5
 v5:=zeroValue5
 t9:=underlying9
 a9:=isAgg9
 z9:=sizeOf9
 v9:=zeroValue9
 t26:=underlying45
 a26:=isAgg45
 z26:=sizeOf45
 v26:=zeroValue45
 t27:=underlying45
 a27:=isAgg45
 z27:=sizeOf45
 v27:=zeroValue45
 t29:=underlying9
 a29:=isAgg9
 z29:=sizeOf9
 v29:=zeroValue9
 t32:=underlying280
 a32:=isAgg280
 z32:=sizeOf280
 v32:=zeroValue280
 t35:=underlying299
 a35:=isAgg299
 z35:=sizeOf299
 v35:=zeroValue299
 t36:=underlying300
 a36:=isAgg300
 z36:=sizeOf300
 v36:=zeroValue300
 t41:=underlying156
 a41:=isAgg156
 z41:=sizeOf156
 v41:=zeroValue156
 t44:=underlying285
 a44:=isAgg285
 z44:=sizeOf285
 v44:=zeroValue285
 t46:=underlying137
 a46:=isAgg137
 z46:=sizeOf137
 v46:=zeroValue137
 t53:=underlying308
 a53:=isAgg308
 z53:=sizeOf308
 v53:=zeroValue308
 t57:=underlying312
 a57:=isAgg312
 z57:=sizeOf312
 v57:=zeroValue312
 t63:=underlying314
 a63:=isAgg314
 z63:=sizeOf314
 v63:=zeroValue314
 t64:=underlying315
 a64:=isAgg315
 z64:=sizeOf315
 v64:=zeroValue315 }
def Tryz.clone106_ren:Go.Shelf.Ren:=⟨λ|5=>106|7=>173|n=>n,λ|23=>118|25=>9|3=>4|4=>4|20=>20|n=>n,λ|n=>n⟩
theorem Tryz.clone106:Go.Proofs.SlLaysW.n5 prog Tryz.clone106_ren:={
 mixed:=by rfl
 f5:=⟨f106.name,by decide,func106.trans (congrArg some (by rfl))⟩
 f7:=func173.trans (congrArg some (by rfl))
 t4:=underlying4
 a4:=isAgg4
 z4:=sizeOf4
 v4:=zeroValue4
 t20:=underlying20
 a20:=isAgg20
 z20:=sizeOf20
 v20:=zeroValue20
 t23:=underlying118
 a23:=isAgg118
 z23:=sizeOf118
 v23:=zeroValue118 }
theorem Tryz.sorts209(m:Nat):AnyZ.SortsIn prog Tryz.sorted209_ren Fence.wide m:=
 ⟨λblk off cap ss W hH hblk hsz=>callsIn_wide.2 (AnyM.slices_Sort_string Tryz.sort236 blk off cap ss W hH hblk hsz),
  λp cap W=>callsIn_wide.2 (AnyM.slices_Sort_string_none Tryz.sort236 p cap W)⟩
theorem Tryz.maps_Keys_210(mb:Option Nat)(W:World):CallsIn Fence.wide 5 prog 210 #[.map mb] W λe w'=>e=.returned (.func (.func 237) #[] #[.pointer (some ⟨W.heap.size,0,none⟩)])/\w'=W.alloc (.cells #[.map mb] 221):=AnyZ.keys_in Tryz.keys210 Fence.wide 5 trivial rfl mb W
set_option maxHeartbeats 1000000 in
theorem Tryz.slices_Sorted_keys_209_210{H:Type}(b nn:Nat)(D0:DataW H)(R:Value->Option (DataW H×List MemPlace))(w:World)(hown:w.ownsMap prog 9 R b nn D0)(hmax:Maps.size D0<=maxLen)(hbytes:Maps.size D0*16<=140737488355328) :
  CallsIn Fence.wide 5 prog 209 #[.func (.func 237) #[] #[.pointer (some ⟨w.heap.size,0,none⟩)]] (w.alloc (.cells #[.map (some b)] 221)) λe w'=>∃(v:Value)(ss:List (List UInt8)),e=.returned v/\ss.Perm (strKeys D0) /\
   w'.ownsRow (w.alloc (.cells #[.map (some b)] 221)).heap.size 9 1 v ss.length ((ss.mergeSort (λx y=>decide (x<=y))).map encStr)/\(v=.slice none 0 0 ↔ ss=[])/\Below (w.alloc (.cells #[.map (some b)] 221)).heap.size (w.alloc (.cells #[.map (some b)] 221)) w':=by
 have hbl:=hown.lt
 have hseq:SeqGives Fence.wide 2 prog 237 #[.pointer (some ⟨w.heap.size,0,none⟩)] encStr (λss=>ss.Perm (strKeys D0)) (Maps.size D0) (w.alloc (.cells #[.map (some b)] 221)):=
  AnyZ.keys_gives (ρ:=Tryz.keys210_ren) { Tryz.keys210 with } Fence.wide _ trivial rfl kQ1 w.heap.size b nn D0 _ (by simp) (by simp) (by obtain⟨es,clock,hb,Ft,hs,hD⟩:=hown;exact⟨es,clock,(Below.heap_alloc _ _ b hbl).trans hb,Ft,hs,hD⟩)
 exact AnyZ.sorted_in Tryz.sorted209 Fence.wide 5 trivial trivial trivial trivial rfl kQ1 (Tryz.sorts209 _) (enters_of func236 (by rfl) rfl) 237 #[.pointer (some ⟨w.heap.size,0,none⟩)] trivial (enters_of func237 (by rfl) rfl) _ _ hmax hbytes _ hseq
end Go.Proofs
end

section
namespace Go.Am
theorem Rh(c:C):(sct c).toV=sc c.toD:=rfl
theorem zE{n:Int}(h:0<=n/\n < 256):(((UInt8.ofNat n.toNat).toNat:Nat):Int)=n:=by grind [UInt8.toNat_ofNat']
theorem aa9(x:UInt8):0<=((x.toNat:Nat):Int)/\((x.toNat:Nat):Int) < 256:=by
 have:=x.toNat_lt
 omega
theorem FA{k:IntKind}{n:Int}(h:k=.u8->0<=n/\n < 256):(mkC k n).toD=.int k n:=by
 cases k with
 |u8=>show D.int .u8 _=_;grind [zE]
 |_=>rfl
theorem aj3(n:Int):0<=IntKind.u8.wrap n/\IntKind.u8.wrap n < 256:=by
 have:=wf_wrap (k:=.u8) n
 simp only[Lit.wf,akI,decide_eq_true_eq]at this;have h1:IntKind.u8.min=0:=by decide
 have h2:IntKind.u8.max=255:=by decide
 omega
theorem fA{k:IntKind}{n:Int}:(mkC k (k.wrap n)).toD=.int k (k.wrap n):=FA λh=>by simp_all[aj3]
variable{c:C}
theorem js{k:IntKind}{n:Int}(h:sF c=some (k,n)):c.toD=.int k n/\(k=.u8->0<=n/\n < 256):=by
 unfold sF at h;split at h
 .rename_i k' n';cases k'<;>simp only[akJ,Prod.mk.injEq,reduceCtorEq]at h<;>(obtain⟨rfl,rfl⟩:=h;exact⟨rfl,λh=>by cases h⟩)
 .rename_i x;simp only[akJ,Prod.mk.injEq]at h;obtain⟨rfl,rfl⟩:=h;exact⟨rfl,λ_=>aa9 x⟩
 grind
theorem X3{k:Nat}{row:List D}(h:sC k=some row):row=gw.map D.str:=by grind [sC]
theorem ww{v:Value}(h:okT v=true):(uJ v).toT=sr v:=by
 cases v with
 |int k n=>
  simp only[uJ,sr];cases k with
  |u8=>
   simp only[okT,Lit.wf,akI,decide_eq_true_eq]at h;have h1:IntKind.u8.min=0:=by decide
   have h2:IntKind.u8.max=255:=by decide
   grind [Tt.toT,C.toD,zE]
  |_=>rfl
 |slice a l c=>cases a with
  |none=>match l,c with
   |0,0=>rfl
   |0,_+1=>rfl
   |_+1,_=>rfl
  |some _=>rfl
 |pointer p=>cases p<;>rfl
 |map p=>cases p<;>rfl
 |_=>rfl
theorem aj{s:St}{x:Operand}(h:aH x=true):ev s.toS x=(evA s x).toV:=by
 cases x with
 |tmp t=>exact dy t s.t
 |const v=>
  simp only[aH]at h;cases v with
  |agg cs=>
   simp only[ev,evA,cst,agZ,At.toV,A1.toV]
   grind [ak2,okC,ww,Array.all_eq_true_iff_forall_mem]
  |_=>grind [ev,evA,cst,agZ,At.toV,A1.toV,ww,okC]
 |func f=>rfl
 |global g=>
  simp only[aH]at h;simp only[ev,evA,afC];cases a:sC g with
  |none=>rfl
  |some row=>simp only[At.toV,A1.toV,Tt.toT,X3 a];rfl
variable{i:Nat}{op:BinOp}{t:TypeId}{x:At}
section
variable {k:At->Prop}
abbrev up(k:At->Prop):AV->Prop:=λv=>∃a,v=a.toV/\k a
theorem O3{d:D}(h:k (sct c))(e:c.toD=d):up k (sc d):=⟨sct c,by rw[Rh,e],h⟩
theorem Zg{c y:At}(h:DU c x y k):KO c.toV x.toV y.toV (up k):=by
 unfold DU at h;split at h
 .rename_i b;cases b
  .rw[if_neg (by simp)]at h;exact⟨y,rfl,h⟩
  rw[if_pos rfl]at h;exact⟨x,rfl,h⟩
 grind
theorem ajX{a b:Int}(d:0<=a/\a < 256):0<=a.tmod b/\a.tmod b < 256:=by
 refine⟨Int.tmod_nonneg _ d.1,?_⟩;rcases Int.lt_or_le b 0 with h|h
 .rw[<- Int.tmod_neg];rcases Int.lt_or_le a (-b)with h'|h'
  .simp_all[Int.tmod_eq_of_lt]
  have:=Int.tmod_lt_of_pos a (show 0 < -b by omega);omega
 rcases Int.lt_or_le a b with h'|h'
 .simp_all[Int.tmod_eq_of_lt]
 rcases Int.lt_or_eq_of_le h with c|c
 .have:=Int.tmod_lt_of_pos a c;omega
 grind
theorem ajE{a:Int}{m:Nat}(b:0<=a/\a < 256):0<=a.fdiv (2 ^ m)/\a.fdiv (2 ^ m) < 256:=by
 have hp:(0:Int) < 2 ^ m:=Int.pow_pos (by decide)
 rw[Int.fdiv_eq_ediv_of_nonneg _ kQ1];refine⟨Int.ediv_nonneg b.1 kQ1,?_⟩;have:=Int.ediv_le_self (2 ^ m) b.1
 omega
theorem aa3{x y:C}{K:C->Prop}(h:Iw op x y K):wi op x.toD y.toD (λd=>∃c:C,c.toD=d/\K c):=by
 unfold Iw at h;split at h
 .rename_i a b;cases op<;>first|exact h.elim|exact⟨_,rfl,h⟩|exact⟨h.1,_,rfl,h.2⟩
 split at h
 .rename_i k a k' b hx hy;obtain⟨ex,g⟩:=js hx;obtain⟨e,f⟩:=js hy;rw[ex,e];split at h
  .rename_i hk;unfold Y2 at h;cases op<;>simp only[ajL,akP,false_or,true_or]at hk<;>simp only[wi]
   case add=>grind [fA]
   case sub=>grind [fA]
   case mul=>grind [fA]
   case quo=>grind [fA]
   case rem=>grind [FA,ajX]
   case and=>grind [fA]
   case or=>grind [fA]
   case xor=>grind [fA]
   case andNot=>grind [fA]
   case shl=>grind [fA]
   case shr=>grind [FA,ajE]
   case eql=>exact⟨hk,_,rfl,h⟩
   case neq=>exact⟨hk,_,rfl,h⟩
   case lss=>exact⟨hk,_,rfl,h⟩
   case leq=>exact⟨hk,_,rfl,h⟩
   case gtr=>exact⟨hk,_,rfl,h⟩
   case geq=>exact⟨hk,_,rfl,h⟩
  grind
 grind
theorem Mr{x y:D}{K K':D->Prop}(hk:∀d,K d->K' d)(h:wi op x y K):wi op x y K':=by
 cases x<;>cases y<;>try exact h.elim
 .cases op<;>simp only[wi]at h|-<;>first|exact⟨h.1,h.2.1,hk _ h.2.2⟩|grind
 cases op<;>simp only[wi]at h|-<;>first|exact⟨h.1,hk _ h.2⟩|grind|exact h.elim
theorem ag3{ck:CK}{x y:C}{b:Bool}(h:eqC ck x y=some b):eqD ck x.toD y.toD=some b:=by
 unfold eqC at h;cases ck with
 |i=>
  dsimp only at h;split at h
  .rename_i k a k' b' hx hy;rw[(js hx).1,(js hy).1];exact h
  grind
 |s=>
  dsimp only at h;split at h
  .exact h
  grind
 |b=>
  dsimp only at h;split at h
  .exact h
  grind
theorem ET:∀{l:List (Nat×CK)}{xs ys:List C}{b:Bool},XJ l xs ys=some b->kp l (xs.map C.toD) (ys.map C.toD)=some b
 |[],_,_,_,h=>h
 |(o,ck)::l,xs,ys,b,h=>by
  unfold XJ at h;unfold kp;rw[akN,akN];cases hx:xs[o]? with
  |none=>grind
  |some x=>
   cases hy:ys[o]? with
   |none=>grind
   |some y=>
    rw[hx,hy]at h;dsimp only[Option.map_some]at h|-;cases a:eqC ck x y with
    |none=>grind
    |some c=>
     rw[a]at h;rw[ag3 a];cases l with
     |nil=>exact h
     |cons z l=>
      dsimp only at h|-;cases hr:XJ (z::l) xs ys with
      |none=>grind
      |some r=>rw[hr]at h;rw[ET hr];exact h
theorem Wz(t:Tt)(h:TD t.toT≠.any\/True):(TC t).toD=TD t.toT:=by cases t<;>rfl
theorem af8{x y:C}{K:C->Prop}(h:Iw op x y K):(∃b,y=.s b)\/∃k n,sF y=some (k,n):=by
 unfold Iw at h
 grind
theorem aa6{P:Program}{y:At}(h:Sf P op t x y k):Ms P op t x.toV y.toV (up k):=by
 unfold Sf at h;split at h
 .rename_i a b;split at h
  .rename_i f;refine⟨f,?_⟩;cases op<;>first|exact h.elim|exact⟨_,rfl,h⟩
  grind
 .rename_i q;split at h
  .rename_i kt et z f hz;have e:ahO q.toD=some z:=by
    unfold ajM at hz;split at hz
    .rename_i ku vu m;rw[<- hz];cases m<;>rfl
    .rw[<- hz];rfl
    grind
   have key:ahP P op t q.toD (up k):=⟨⟨_,_,f⟩,by rw[e];cases op<;>first|exact h.elim|exact⟨_,rfl,h⟩⟩
   cases q<;>exact key
  grind
 .rename_i a b o g;have h':=aa3 h
  have key:wi op a.toD b.toD (λd=>up k (sc d)):=by
   refine Mr ?_ h';rintro d ⟨c,rfl,hc⟩
   exact⟨sct c,rfl,hc⟩
  rcases af8 h with⟨b',rfl⟩|⟨κ,n,hb⟩
  .cases a with
   |mp ku vu l=>exact h.elim
   |_=>exact key
  cases b with
  |i k n=>cases a with
   |mp ku vu l=>exact h.elim
   |_=>exact key
  |b x=>cases a with
   |mp ku vu l=>exact h.elim
   |_=>exact key
  |_=>cases hb
 .rename_i xs ys;split at h
  .rename_i l hl;have j:(xs.map Tt.toT).map TD=(xs.map TC).map C.toD:=by grind [ak2,Wz]
   have p:(ys.map Tt.toT).map TD=(ys.map TC).map C.toD:=by grind [ak2,Wz]
   simp only[At.toV,A1.toV,Ms];rw[hl,j,p];dsimp only;split at h
   .rename_i b hb;rw[ET hb];exact⟨_,rfl,h⟩
   .rename_i b hb;rw[ET hb];exact⟨_,rfl,h⟩
   grind
  grind
 grind
theorem aiB{op:UnOp}(h:unT op x k):unK op x.toV (up k):=by
 unfold unT at h;split at h
 .exact⟨_,rfl,h⟩
 .rename_i c;split at h
  .rename_i κ n hc;simp only[At.toV,A1.toV,Tt.toT,(js hc).1];exact O3 h fA
  grind
 .rename_i c;split at h
  .rename_i κ n hc;simp only[At.toV,A1.toV,Tt.toT,(js hc).1];exact O3 h fA
  grind
 grind
theorem I4(h:nk x i k):lq x.toV i (up k):=by
 unfold nk at h
 grind [At.toV,lq]
theorem UZ{i:At}(h:xi x i k):xh x.toV i.toV (up k):=by
 unfold xi at h
 grind [C.toD,xh,Rh]
theorem FC(h:kU x k):nN x.toV (up k):=by
 unfold kU at h;split at h
 .exact⟨_,rfl,h⟩
 .exact⟨_,rfl,h⟩
 .exact⟨_,rfl,h⟩
 grind
theorem Tc{P:Program}(h:wA P t x i k):wz P t x.toV i (up k):=by
 unfold wA at h;split at h
 .rename_i fs ts hk;simp only[At.toV,A1.toV,wz];rw[hk];dsimp only;cases hf:fs[i]? with
  |none=>grind
  |some f=>
   obtain⟨off,size,b⟩:=f;rw[hf]at h
   match b,h with
   |some false,h=>
    dsimp only at h|-;rw[akN];cases a:ts[off]? with
    |none=>grind
    |some t'=>rw[a]at h;exact⟨_,rfl,h⟩
   |some true,h=>
    dsimp only at h|-;split at h
    .rename_i hb;refine⟨by simp_all,.one (.agg ((ts.drop off).take size)),?_,h⟩;simp only[At.toV,A1.toV,amE,amQ]
    grind
   |none,h=>omega
 grind
theorem XG{P:Program}{b d:TypeId}(h:De P b d x k):uH P b d x.toV (up k):=by
 unfold De at h;split at h
 .rename_i g κ h1 h2;split at h
  .rename_i c;split at h
   .rename_i f n hc;simp only[At.toV,A1.toV,Tt.toT,(js hc).1,uH,h1,h2];exact O3 h fA
   grind
  grind
 .rename_i e h1 h2;split at h
  .rename_i h3;split at h
   .rename_i l;simp only[At.toV,A1.toV,Tt.toT,C.toD,uH,h1,h2];refine⟨h3,?_⟩;have:∀l:List UInt8,uK (l.map (aw .b8))=some l:=by
     intro l;induction l with
     |nil=>rfl
     |cons a l ih=>simp_all[aw,uK]
    rw[this l];exact⟨_,rfl,h⟩
   .simp only[At.toV,A1.toV,Tt.toT,uH,h1,h2];exact⟨h3,_,rfl,h⟩
   grind
  grind
 grind
end
theorem Lu(t:Tt):t.toT.sure=t.sure:=by
 cases t with
 |d c=>cases c<;>rfl
 |_=>rfl
def RH(t:Tt)(t':T):Prop:=t'=t.toT\/∃sh u l,∃l':List (List D),t=.ow sh u l/\t'=.ow sh l'/\l'.length=l.length
structure HL (ts:List Tt) (ts':List T):Prop where
 len:ts'.length=ts.length
 nth:∀(i:Nat)(t:Tt)(t':T),ts[i]? = some t->ts'[i]? = some t'->RH t t'
theorem vY(ts:List Tt):HL ts (ts.map Tt.toT):=by refine⟨by simp,λi t t' h h'=>?_⟩;rw[akN,h]at h';exact .inl (Option.some.inj h').symm
variable{ts:List Tt}{ts':List T}
theorem HL.drop(h:HL ts ts')(n:Nat):HL (ts.drop n) (ts'.drop n):=⟨by simp[h.len],λi t t' h1 h2=>by grind [nth]⟩
theorem HL.take(h:HL ts ts')(n:Nat):HL (ts.take n) (ts'.take n):=
 ⟨by simp[h.len],λi t t' h1 h2=>by grind [nth]⟩
theorem mi:∀(q:List Step)(sub:List Sh)(l:List (List D))(x:D),(cC sub l x q).length=l.length
 |[],_,_,_=>rfl
 |[st],_,_,_=>by simp[cC]
 |st::a::r,sub,l,x=>by grind [cC]
theorem zg(cells:List Tt)(hole:Option (Nat×Step×List Step)):HL cells (holed (cells.map Tt.toT) hole):=by
 cases hole with
 |none=>exact vY cells
 |some h=>
  obtain⟨off,st,q⟩:=h;simp only[holed];split
  .rename_i sub l hc;refine⟨by simp,λi t t' h1 h2=>?_⟩;by_cases hi:off=i
   .subst hi;rw[akN,h1]at hc;have a:=Option.some.inj hc
    have c:off < (cells.map Tt.toT).length:=by grind
    rw[ak7 c]at h2;have b:=Option.some.inj h2
    cases t with
    |ow sh u d=>obtain⟨rfl,rfl⟩:=a;exact .inr ⟨_,_,_,_,rfl,b.symm,by rw[mi];simp⟩
    |_=>grind [Tt.toT]
   rw[amN hi]at h2;exact(vY cells).nth i t t' h1 h2
  grind [vY]
theorem Wk{t:Tt}{t':T}(h:RH t t')(q:Pl):Co q t'=(QZ q t).toT:=by
 rcases h with rfl|⟨sh,u,l,l',rfl,rfl,_⟩
 .cases t<;>rfl
 rfl
theorem aaM(h:HL ts ts')(p:Pl):vA p ts'=(FU p ts).map Tt.toT:=by
 refine alP λi=>?_
 grind [vA,FU,HL.len,Wk,HL.nth]
variable{u:U}
theorem qe(l:List (El u))(h:i<l.length):(l.map (aw u)).getD i []=aw u (l.getD i (dflt u)):=by grind
theorem me(l:List (El u))(h:i<l.length):(l.map (aw u))[i]? = some (aw u (l.getD i (dflt u))):=by grind
def YV(s:Sh)(c:C):Tt:=match s,c with
 |Sh.fr,x=>Tt.d x
 |Sh.ow s,C.li u' l'=>Tt.ow s u' l'
 |_,_=>Tt.any
theorem YW(s:Sh)(c:C):mkT s c.toD=(YV s c).toT:=by
 cases s with
 |fr=>rfl
 |ow s=>cases c<;>rfl
theorem Gk:∀(s:List Sh)(c:List C),List.zipWith mkT s (c.map C.toD)=(List.zipWith YV s c).map Tt.toT
 |[],_=>by simp
 |_::_,[]=>by simp
 |s::a,c::cs=>by grind [YW]
theorem M2:∀{path:List Step}{sub:List Sh}{u:U}{l:List (El u)}{n:Nat}{ts:List Tt}{K:List T->Prop},okO sub (l.map (aw u)) path->inT sub u l n path=some ts->K (ts.map Tt.toT)->inK sub (l.map (aw u)) n path K
 |[],_,_,_,_,_,_,h,_,_=>h.elim
 |[st],sub,u,l,n,ts,K,h,a,b=>by
  obtain⟨h1,h2,h3⟩:=h;rw[akT]at h1;simp only[inT]at a;split at a
  .rename_i hb;simp only[akJ]at a;refine⟨akR hb,?_⟩;rw[me l h1];dsimp only;rw[<- cj,<- amQ,<- amE,Gk];subst a;exact b
  grind
 |st::e::r,sub,u,l,n,ts,K,h,a,b=>by
  obtain⟨⟨h1,h2,h3⟩,h4⟩:=h;rw[akT]at h1;simp only[inT]at a;split at a
  .rename_i s u' l' c f;simp only[inK];rw[me l h1];dsimp only;have d:(aw u (l.getD st.idx (dflt u)))[st.off]? = some (.li (l'.map (aw u'))):=by rw[<- cj,akN,f];rfl
   rw[c,d];rw[c,qe l h1,List.getD,d]at h4;exact M2 h4 a b
  grind
def okP(m:Mm)(p:Pl):Prop:=match p.path with
 |[]=>True
 |st::q=>∃r sub l,ah m p.root=some r/\r.cells[p.off]? = some (.ow sub l)/\okO sub l (st::q)
variable{p:Pl}
theorem Oe{m:Mm}(h:cq m p):okP m p:=by grind [okP,cq]
theorem qq{m:Mm}(h:iB m p):okP m p:=by grind [okP,iB]
variable{n:Nm}{r:Rt}
theorem bz{m:List (Nm×Nat×Rt)}(h:cm m n=some r):ah (toM m) n=some r.toR:=by grind [uP]
theorem Rm{a:List Sh}{xs:List D}{t:T}(h:(List.zipWith mkT a xs)[i]? = some t):∃s x,a[i]? = some s/\xs[i]? = some x/\t=mkT s x:=by grind
theorem Yd:∀{path hp:List Step}{sub:List Sh}{u:U}{l:List (El u)}{n:Nat}{ts:List Tt}{K:List T->Prop},path.length<hp.length->okO sub (cC sub (l.map (aw u)) .any hp) path->inT sub u l n path=some ts->(∀ts',HL ts ts'->K ts')->inK sub (cC sub (l.map (aw u)) .any hp) n path K
 |[],_,_,_,_,_,_,_,_,h,_,_=>h.elim
 |_::_,[],_,_,_,_,_,_,g,_,_,_=>by grind
 |[_],[_],_,_,_,_,_,_,g,_,_,_=>by grind
 |_::_::_,[_],_,_,_,_,_,_,g,_,_,_=>by grind
 |[st],h::h'::hr,sub,u,l,n,ts,K,g,q,j,z=>by
  have b:(cC sub (l.map (aw u)) .any (h::h'::hr)).length=l.length:=by grind [mi]
  have f:=q.1
  rw[b]at f;simp only[inT]at j;split at j
  .rename_i hb;simp only[akJ]at j;refine⟨akR hb,?_⟩;have y:((l.map (aw u))[st.idx]?)=some (aw u (l.getD st.idx (dflt u))):=me l f
   have key:∀x,(cC sub (l.map (aw u)) .any (h::h'::hr))[st.idx]? = some x->(x=aw u (l.getD st.idx (dflt u))\/∃s l1,sub[h.off]? = some (.ow s)/\(aw u (l.getD st.idx (dflt u)))[h.off]? = some (.li l1)/\x=(aw u (l.getD st.idx (dflt u))).set h.off (.li (cC s l1 .any (h'::hr)))):=by
    intro x hx;simp only[cC]at hx;split at hx
    .rename_i s l1 w k;rw[List.getElem?_set]at hx;split at hx
     .rename_i D;split at hx
      .have B:=Option.some.inj hx
       rw[D,qe l f]at k B;rw[List.getD]at k;cases h3:(aw u (l.getD st.idx (dflt u)))[h.off]? with
       |none=>rw[h3]at k;cases k
       |some d=>grind
      grind
     grind
    grind
   have m:st.idx < (cC sub (l.map (aw u)) .any (h::h'::hr)).length:=by omega
   rw[akL m];dsimp only;rcases key _ (akL m)with e|⟨s,l1,w,k,e⟩
   .rw[e,<- cj,<- amQ,<- amE,Gk];subst j;exact z _ (vY _)
   rw[e];refine z _ ?_;subst j;have p:List.zipWith mkT ((sub.drop st.off).take n) (((aw u (l.getD st.idx (dflt u))).drop st.off).take n)=(List.zipWith YV ((sub.drop st.off).take n) (((flat u (l.getD st.idx (dflt u))).drop st.off).take n)).map Tt.toT:=by rw[<- cj,<- amQ,<- amE,Gk]
   refine⟨?_,λi t t' P G=>?_⟩
   .grind [akT]
   obtain⟨s0,N,b1,b2,b3⟩:=Rm G;have v:((List.zipWith YV ((sub.drop st.off).take n) (((flat u (l.getD st.idx (dflt u))).drop st.off).take n)).map Tt.toT)[i]? = some t.toT:=by grind [YV]
   rw[<- p]at v;obtain⟨s1,M,C,o,c3⟩:=Rm v;rw[b1]at C;obtain rfl:=Option.some.inj C;rw[List.getElem?_take]at b1 b2 o;split at b2
   .rename_i A;rw[if_pos A]at b1 o;rw[amH]at b1 b2 o;rw[List.getElem?_set]at b2;split at b2
    .rename_i I;rw[<- I]at b1 o;rw[w]at b1;obtain rfl:=Option.some.inj b1;rw[k]at o;obtain rfl:=Option.some.inj o;split at b2
     .obtain rfl:=Option.some.inj b2;rw[b3];cases t with
      |ow H L l2=>
       obtain⟨rfl,J⟩:=c3;refine .inr ⟨_,_,_,_,rfl,rfl,?_⟩
       grind [mi]
      |_=>grind [mkT,Tt.toT]
     grind
    rw[b2]at o;obtain rfl:=Option.some.inj o;rw[b3,<- c3];exact .inl rfl
   grind
  grind
 |st::E::r,h::h'::hr,sub,u,l,n,ts,K,g,q,j,z=>by
  have b:(cC sub (l.map (aw u)) .any (h::h'::hr)).length=l.length:=by grind [mi]
  obtain⟨⟨hi,hz,ho⟩,a⟩:=q;rw[b]at hi;simp only[inT]at j;split at j
  .rename_i s u' l' w k;have y:=me l hi
   have O:(aw u (l.getD st.idx (dflt u)))[st.off]? = some (.li (l'.map (aw u'))):=by rw[<- cj,akN,k];rfl
   have key:∃x,(cC sub (l.map (aw u)) .any (h::h'::hr))[st.idx]? = some x/\(x[st.off]? = some (.li (l'.map (aw u')))\/x[st.off]? = some (.li (cC s (l'.map (aw u')) .any (h'::hr)))):=by
    simp only[cC]
    grind
   obtain⟨x,hx,c⟩:=key;have F:(cC sub (l.map (aw u)) .any (h::h'::hr)).getD st.idx []=x:=by grind
   rw[w,F]at a;simp only[inK];rw[hx];dsimp only;rw[w];rcases c with c|c
   .grind [M2,vY]
   rw[List.getD,c]at a;rw[c];exact Yd (by grind) a j z
  grind
theorem Mp{m:List (Nm×Nat×Rt)}{n:Nat}{K:List T->Prop}(hp:okP (toM m) p)(h:atT m p n=some ts)(t:∀ts',HL ts ts'->K ts'):atK (toM m) p n K:=by
 unfold atT at h;split at h
 .cases h
 rename_i r hr;unfold atK;rw[bz hr];unfold okP at hp;split at h
 .rename_i a;rw[a];split at h
  .simp only[akJ]at h;have g:=zg r.cells r.hole
   refine⟨?_,t _ ?_⟩
   .show p.off+n<=(holed (r.cells.map Tt.toT) r.hole).length
    rw[g.len];simp_all
   subst h;exact(g.drop _).take _
  grind
 rename_i st q a;rw[a]at hp|-;split at h
 .rename_i sub u l b hc;obtain⟨x,i,l',j,y,w⟩:=hp;rw[bz hr]at j;have c:r.toR.cells[p.off]? = some (.ow sub (l.map (aw u)))->(match st::q,r.toR.cells[p.off]? with
    |[],_=>p.off+n<=r.toR.cells.length/\K ((r.toR.cells.drop p.off).take n)
    |st::q,some (.ow sub l)=>inK sub l n (st::q) K
    |_,_=>False):=by
   grind [M2,vY]
  cases d:r.hole with
  |none=>
   refine c ?_;show(holed (r.cells.map Tt.toT) r.hole)[p.off]? = _
   rw[d];show(r.cells.map Tt.toT)[p.off]? = _
   rw[akN,hc];rfl
  |some s=>
   obtain⟨off,f,o⟩:=s;rw[d]at b;have k:=akR b
   by_cases e:off=p.off
   .have v:r.toR.cells[p.off]? = some (.ow sub (cC sub (l.map (aw u)) .any (f::o))):=by
     show(holed (r.cells.map Tt.toT) r.hole)[p.off]? = _
     grind [holed,Tt.toT]
    grind [Yd]
   refine c ?_;show(holed (r.cells.map Tt.toT) r.hole)[p.off]? = _
   rw[d];simp only[holed];split
   .rw[amN e,akN,hc];rfl
   rw[akN,hc];rfl
 grind
theorem BC{m:List (Nm×Nat×Rt)}{sh:List Sh}{l:List (El u)}{K:List T->Prop}(hp:okP (toM m) p)(h:sliceAt m p=some ⟨sh,u,l⟩)(c:∀l':List (List D),l'.length=l.length->K [.ow sh l']):atK (toM m) p 1 K:=by
 unfold sliceAt at h;split at h
 .rename_i f u' l' d;cases h;refine Mp hp d (λts' a=>?_);have hl:=a.len
  match ts',hl with
  |[t'],_=>
   rcases a.nth 0 _ _ rfl rfl with e|⟨b,k,l2,i,g,n,j⟩
   .rw[e];exact c _ (by simp)
   grind
 grind
variable{gd:Option (Nat×Bool)}{ps:Array (Nat×Operand)}{zs:List Value}
section
variable {k:At->Prop} {m:List (Nm×Nat×Rt)}
theorem EY{n:Nat}{q:Prop}(h:gift gd n q):n<=4611686018427387904->q:=by
 cases gd with
 |none=>exact h
 |some _=>exact λ_=>h
theorem adA{k:Nat->Prop}(hp:∀p,x=.one (.c (.rf p))->okP (toM m) p)(h:Ud gd m x k):Km (toM m) x.toV k:=by
 unfold Ud at h;split at h
 .exact EY h
 .grind [At.toV,A1.toV,Tt.toT,C.toD,Km,EY]
 all_goals grind [At.toV,A1.toV,Tt.toT,Km,BC,EY]
theorem nb{x:Option At}{d:Nat}{k:Nat->Prop}(h:iJ x d k):iI (x.map At.toV) d k:=by
 unfold iJ at h;split at h
 .exact h
 .exact h
 grind
theorem UP{P:Program}{lo hi:Option At}(h:xe P t x lo hi k):mQ P t x.toV (lo.map At.toV) (hi.map At.toV) (up k):=by
 have c:∀{y:Option At}{d:Nat}{k1 k2:Nat->Prop},(∀n,k1 n->k2 n)->iJ y d k1->iJ y d k2:=by
  intro y d k1 k2 hk hb;unfold iJ at hb|-
  grind
 unfold xe at h;split at h
 .split at h
  .rename_i f;refine⟨f,nb (c (λa g=>nb (c (λb hb=>?_) g)) h)⟩;exact⟨hb.1,_,rfl,hb.2⟩
  grind
 .split at h
  .rename_i e f;split at h
   .rename_i hc;simp only[akI]at hc;simp only[mQ,f];refine⟨hc.1,λy hy=>?_,nb (c (λa g=>?_) h)⟩
    .grind [ma,akO]
    rw[akT]
    grind [nb,At.toV,A1.toV,Tt.toT,C.toD,amE,amQ]
   grind
  grind
 all_goals grind [At.toV,A1.toV,Tt.toT,mQ,nb]
theorem qg{n:Nat}(h:qf m p n=true):jD (toM m) p n:=by
 unfold qf at h;split at h
 .cases h
 rename_i r hr;unfold jD room;rw[bz hr];have c:=zg r.cells r.hole
 split at h
 .rename_i a;rw[a];show n < (holed (r.cells.map Tt.toT) r.hole).length-p.off
  rw[c.len];exact akR h
 .rename_i st q sub u l a hc;split at h
  .have b:p.off < (holed (r.cells.map Tt.toT) r.hole).length:=by grind [HL.len]
   have:=c.nth p.off _ _ hc (akL b)
   have e:∃l',r.toR.cells[p.off]? = some (.ow sub l'):=by
    rcases this with e|⟨sh,g,l2,d,f,i,_⟩
    .exact⟨_,by show(holed _ _)[p.off]? = _;rw[akL b,e];rfl⟩
    exact⟨d,by show(holed _ _)[p.off]? = _;grind⟩
   grind [akR]
  grind
 grind
theorem B1{P:Program}(h:jm P m t x i k):gV P (toM m) t x.toV i (up k):=by
 unfold jm at h;split at h
 .rename_i fs a;unfold gV;rw[a];dsimp only;cases hf:fs[i]? with
  |none=>grind
  |some f=>
   obtain⟨off,size,b⟩:=f;rw[hf]at h;cases size with
   |zero=>grind
   |succ size=>
    dsimp only at h|-;refine⟨by omega,?_⟩;split at h
    .split at h
     .rename_i hr;exact⟨qg hr,_,rfl,h⟩
     grind
    .exact⟨_,rfl,h⟩
    grind
 grind
theorem sE{P:Program}{i:At}(hp:∀p,x=.one (.c (.rf p))->okP (toM m) p)(h:gZ P m t x i k):gY P (toM m) t x.toV i.toV (up k):=by
 unfold gZ at h;split at h
 .simp only[At.toV,A1.toV,Tt.toT,C.toD,gY];split at h
  .rename_i e a;rw[a];split at h
   .grind [At.toV,A1.toV,Tt.toT,ma,akO,cj]
   .rename_i p;split at h
    .rename_i hc;simp only[akI]at hc;split at h
     .rename_i sh u l hs;split at h
      .rename_i hb;obtain⟨h1,h2⟩:=h;refine⟨hc.1,by have:=akR hc.2;omega,BC (hp p rfl) hs (λl' hl=>?_)⟩;exact⟨⟨h1.1,by omega⟩,akO hb,_,rfl,h2⟩
      grind
     grind
    grind
   grind
  .rename_i N e a;rw[a];split at h
   .split at h
    .rename_i hc;simp only[akI]at hc;obtain⟨h1,h2⟩:=h;refine⟨hc.1.1,h1,_,?_,h2⟩;rw[akO hc.1.2,Nat.mul_one,Nat.add_comm];rfl
    grind
   all_goals grind [At.toV,A1.toV,Tt.toT,qg]
  grind
 grind
theorem AG{P:Program}(hp:∀p,x=.one (.c (.pl p))->okP (toM m) p)(h:pH P m t x k):uZ P (toM m) t x.toV (up k):=by
 unfold pH at h;split at h
 .rename_i b;refine⟨b,?_⟩;split at h
  .simp only[At.toV,A1.toV,Tt.toT];split at h
   .rename_i g;rw[if_pos g];split at h
    .refine⟨by simp_all,λ_=>⟨_,?_,h⟩⟩;simp only[At.toV,A1.toV];rw[alW,<- amQ,<- amE,alW];rfl
    grind
   rw[if_neg (by grind),akN];split at h
   .rename_i c hc;rw[hc];exact λ_=>⟨_,rfl,h⟩
   grind
  .rename_i u l i;simp only[At.toV,A1.toV,Tt.toT];split at h
   .have e:l[i]? = some (l.getD i (dflt u)):=by grind
    rw[if_neg (by grind),akN,e];exact λ_=>⟨_,rfl,h.2⟩
   grind
  .rename_i p;simp only[At.toV,A1.toV,Tt.toT];split at h
   .grind [Mp,At.toV,A1.toV,aaM]
   rw[if_neg (by grind)];split at h
   .rename_i t' a;refine Mp (hp p rfl) a (λts' d=>?_);have hl:=d.len
    match ts',hl with
    |[f],_=>
     refine λ_=>⟨_,?_,h⟩
     simp only[At.toV,A1.toV];rw[Wk (d.nth 0 _ _ rfl rfl)]
   grind
  grind
 grind
theorem s4(x:At):fH x.toV=(ri x).map (·.map Tt.toT):=by
 cases x with
 |one x=>cases x<;>rfl
 |_=>rfl
theorem Up{α β:Type}(f:α->β)(ts cs:List α)(off:Nat):(overw ts off cs).map f=overw (ts.map f) off (cs.map f):=by grind [overw,amE,amQ]
theorem rm{pl:Nat->Option (Nat×Nat)}:∀{a:List (Nat×At)}{ts ts':List Tt},ta pl ts a=some ts'->ki pl (ts.map Tt.toT) (a.map λx=>(x.1,x.2.toV))=some (ts'.map Tt.toT)
 |[],ts,ts',h=>by simp only[ta,akJ]at h;subst h;rfl
 |(i,x)::r,ts,ts',h=>by
  simp only[ta]at h;simp only[akM,ki];cases b:pl i with
  |none=>grind
  |some q=>
   cases hc:ri x with
   |none=>grind
   |some cs=>
    rw[b,hc]at h;dsimp only at h;split at h
    .rename_i hb;simp only[akI]at hb;rw[s4,hc];dsimp only[Option.map_some];have hs:(cs.map Tt.toT).all T.sure=true:=by grind [Lu]
     rw[if_pos ⟨by grind [akO],by rw[akT,akT];exact akR hb.1.2,hs⟩];rw[<- Up];exact rm h
    grind
theorem wT{s:St}(h:(ps.toList.all λx=>aH x.2)=true):lC s.toS ps=(lD s ps).map λx=>(x.1,x.2.toV):=by grind [lC,lD,ak2,aj]
theorem Qo(h:zs.all okT=true):(zs.map uJ).map Tt.toT=zs.map sr:=by grind [ak2,ww]
theorem aeS{P:Program}{pl:List (Nat×Nat)}(h:zst P t=some (zs,pl)):zs.all okT=true:=by grind [zst]
theorem So{P:Program}{a:List (Nat×At)}(h:wq P t a k):sX P t (a.map λx=>(x.1,x.2.toV)) (up k):=by
 unfold wq at h;split at h
 .rename_i zs b hz;split at h
  .rename_i ts hf;unfold sX;rw[hz];dsimp only;have:=rm hf
   rw[Qo (aeS hz)]at this;rw[this];exact⟨.one (.agg ts),rfl,h⟩
  grind
 grind
end
theorem eX(bad:Bool->Pl->Bool)(t:Tt):(t.kill bad).toT=t.toT.kill bad:=by
 cases t with
 |pl p=>
  show(if bad false p=true then Tt.any else Tt.pl p).toT=if bad false p=true then T.any else T.pl p
  grind [Tt.toT]
 |rf p=>
  show(if bad true p=true then Tt.any else Tt.rf p).toT=if bad true p=true then T.any else T.rf p
  grind [Tt.toT]
 |_=>rfl
theorem zw(bad:Bool->Pl->Bool)(ts:List Tt):(ts.map (·.kill bad)).map Tt.toT=(ts.map Tt.toT).map (·.kill bad):=by grind [ak2,eX]
theorem xk(bad:Bool->Pl->Bool)(x:A1):(x.kill bad).toV=x.toV.kill bad:=by cases x<;>grind [A1.kill,A1.toV,AV1.kill,eX,zw]
theorem Gt(bad:Bool->Pl->Bool)(x:At):(x.kill bad).toV=x.toV.kill bad:=by
 cases x with
 |one x=>simp only[At.kill,At.toV,AV.kill,xk]
 |tup xs=>simp_all[At.kill,At.toV,AV.kill,xk]
 |any=>rfl
variable{bad:Bool->Pl->Bool}
theorem jf{t:Tt}(h:t.hit bad=false):t.kill bad=t:=by cases t<;>grind [Tt.hit,Tt.kill]
theorem pU:∀{ts:List Tt},ts.any (·.hit bad)=false->ts.map (·.kill bad)=ts
 |[],_=>rfl
 |t::ts,h=>by simp only[List.any_cons,Bool.or_eq_false_iff]at h;rw[akM,jf h.1,pU h.2]
theorem yL{x:A1}(h:x.hit bad=false):x.kill bad=x:=by
 cases x with
 |c t=>simp only[A1.kill,jf (show t.hit bad=false from h)]
 |agg ts=>simp only[A1.kill,pU (show ts.any _=false from h)]
theorem LN(h:x.hit bad=false):x.kill bad=x:=by
 cases x with
 |one x=>simp only[At.kill,yL (show x.hit bad=false from h)]
 |tup xs=>simp only[At.hit]at h;simp only[At.kill];induction xs<;>grind [yL]
 |any=>rfl
theorem M1(bad:Bool->Pl->Bool)(cells:List Tt)(hole:Option (Nat×Step×List Step)) :
  holed ((cells.map (·.kill bad)).map Tt.toT) hole=(holed (cells.map Tt.toT) hole).map (·.kill bad):=by
 rw[zw];cases hole with
 |none=>rfl
 |some h=>
  obtain⟨off,st,q⟩:=h;simp only[holed];rw[akN (f:=λt=>T.kill bad t)];cases hc:(cells.map Tt.toT)[off]? with
  |none=>rfl
  |some t=>cases t<;>grind [T.kill,alB]
theorem xy(bad:Bool->Pl->Bool)(r:Rt):(r.kill bad).toR={ r.toR with cells:=r.toR.cells.map (·.kill bad) }:=by simp only[Rt.toR,Rt.kill,M1]
theorem nG(bad:Bool->Pl->Bool)(nx:Nat)(t:List (Nat×Nat×At)):(nF bad nx t).map (λx=>(x.1,x.2.2.toV))=nH bad (t.map λx=>(x.1,x.2.2.toV)):=by grind [nF,nH,ak2,Gt]
theorem fh(bad:Bool->Pl->Bool)(nx:Nat)(m:List (Nm×Nat×Rt)):toM (cO bad nx m)=aP bad (toM m):=by grind [cO,aP,ak2,xy]
variable{nx:Nat}
theorem EA{m:List (Nm×Nat×Rt)}:ND (cO bad nx m) ↔ ND m:=by grind [cO]
theorem AN{k:Nm}:∀{m:List (Nm×Nat×Rt)},k∈(fN m n).map (·.1)->k∈m.map (·.1)/\k≠n
 |[],h=>by simp[fN]at h
 |(k',j,v)::m,h=>by
  simp only[fN]at h;split at h
  .have:=AN h;grind
  simp only[akM,akU]at h;rcases h with rfl|h
  .grind
  have:=AN h;grind
theorem L9{n:Nm}:∀{m:List (Nm×Nat×Rt)},ND m->ND (fN m n)
 |[],_=>by simp[ND,fN]
 |(k,j,v)::m,h=>by
  have h':k ∉ m.map (·.1)/\(m.map (·.1)).Nodup:=by grind
  simp only[fN];split
  .exact L9 h'.2
  have:=L9 (n:=n) h'.2
  grind [AN]
theorem Du(n:Nm)(i:Nat)(r:Rt):∀m:List (Nm×Nat×Rt),(fp m n i r).map (·.1)=m.map (·.1)
 |[]=>rfl
 |(k,j,v)::m=>by
  simp only[fp];split
  .rfl
  simp only[akM,Du n i r m]
theorem gB{g:G}{s:St}{a:Act}{w:World}{H:FH}{γ:Gam}{F:Nm->Fp}(h:RX g s.toS a w H γ F):ND s.m:=by
 have:=h.mem.keys
 grind [St.toS]
theorem bT{s:St}(h:ND s.m):(s.drop n).toS=s.toS.drop n:=by
 have h1:=nG (bJ n) s.nx s.t
 have h2:=fh (bJ n) s.nx (fN s.m n)
 rw[nh n s.m h]at h2;exact S_ext h1 h2
where
 S_ext {t t':List (Nat×AV)} {m m':Mm} (h1:t=t') (h2:m=m'):(⟨t,m⟩:S)=⟨t',m'⟩:=by grind
theorem P4{s:St}(h:ND s.m):ND (s.drop n).m:=EA.2 (L9 h)
theorem bN{s:St}(h:ND s.m):(s.fresh n).toS=s.toS.fresh n:=by
 unfold St.fresh S.fresh;have e:ah s.toS.m n=(cm s.m n).map Rt.toR:=uP n s.m
 grind [bT]
def SEq(s s':S):Prop:=(∀i,bB s.t i=bB s'.t i)/\s.m=s'.m
theorem bH{g:G}{s s':S}{a:Act}{w:World}{H:FH}{γ:Gam}{F:Nm->Fp}(e:SEq s s')(h:RX g s a w H γ F):RX g s' a w H γ F:=by obtain⟨t,m⟩:=s;obtain⟨c,b⟩:=e;subst b;exact⟨h.mem,h.fr,h.nt,h.df,λi=>by rw[<- c i];exact h.t i⟩
theorem C5{g:G}{s s':S}{a:Act}{w:World}(e:SEq s s')(h:R g s a w):R g s' a w:=by obtain⟨H,γ,F,h⟩:=h;exact⟨H,γ,F,bH e h⟩
theorem aM(s:St)(d:Option Tmp)(v:At):SEq (s.toS.put d v.toV) (s.put d v).toS:=by
 cases d with
 |none=>exact⟨λ_=>rfl,rfl⟩
 |some d=>
  refine⟨λi=>?_,rfl⟩;show bB (xc _ d v.toV) i=bB ((d,v.toV)::_) i
  rw[jq];rfl
theorem Dz(f:Nat×Nat×At->Nat×At)(k:Nat):∀t:List (Nat×Nat×At),cF (t.map λx=>(x.1,f x)) k=(cF t k).map λy=>f (k,y)
 |[]=>rfl
 |(i,j,v)::t=>by
  simp only[akM,cF];cases hb:Nat.beq i k with
  |true=>grind [akO]
  |false=>exact Dz f k t
theorem wJ(f:Nm×Nat×Rt->Nat×Rt)(k:Nm):∀t:List (Nm×Nat×Rt),dx (t.map λx=>(x.1,f x)) k=(dx t k).map λy=>f (k,y)
 |[]=>rfl
 |(i,j,v)::t=>by
  simp only[akM,dx];by_cases hb:i=k
  .grind
  rw[if_neg hb,if_neg hb];exact wJ f k t
structure Ext (s0 s:St):Prop where
 nx:s0.nx<=s.nx
 t:∀k j v,cF s.t k=some (j,v)->j<s0.nx->cF s0.t k=some (j,v)
 m:∀n j r,dx s.m n=some (j,r)->j<s0.nx->dx s0.m n=some (j,r)
theorem Ext.refl(s:St):Ext s s:=⟨akK _,λ_ _ _ h _=>h,λ_ _ _ h _=>h⟩
theorem Ext.trans{a b c:St}(h1:Ext a b)(h2:Ext b c):Ext a c:=⟨alV h1.nx h2.nx,λk j v h hj=>h1.t k j v (h2.t k j v h (Nat.lt_of_lt_of_le hj h1.nx)) hj,λk j v h hj=>h1.m k j v (h2.m k j v h (Nat.lt_of_lt_of_le hj h1.nx)) hj⟩
abbrev LY(nx:Nat)(t t':List (Nat×Nat×At)):Prop:=∀k j v,cF t' k=some (j,v)->j<nx->cF t k=some (j,v)
abbrev Gv(nx:Nat)(m m':List (Nm×Nat×Rt)):Prop:=∀n j r,dx m' n=some (j,r)->j<nx->dx m n=some (j,r)
theorem Gv.trans{a b c:List (Nm×Nat×Rt)}(h1:Gv nx a b)(h2:Gv nx b c):Gv nx a c:=λn j r h hj=>h1 n j r (h2 n j r h hj) hj
theorem LY.trans{a b c:List (Nat×Nat×At)}(h1:LY nx a b)(h2:LY nx b c):LY nx a c:=λn j r h hj=>h1 n j r (h2 n j r h hj) hj
theorem vW{t:List (Nat×Nat×At)}(d i:Nat)(v:At)(hi:nx<=i):LY nx t ((d,i,v)::t):=by grind [cF]
theorem kI{t:List (Nm×Nat×Rt)}(d:Nm)(i:Nat)(v:Rt)(hi:nx<=i):Gv nx t ((d,i,v)::t):=by grind [dx]
theorem ug{t:List (Nat×Nat×At)}(a:At->Bool)(f:At->At)(hf:∀v,a v=false->f v=v)(hi:nx<=i) :
  LY nx t (t.map λx=>(x.1,stp (a x.2.2) i x.2.1,f x.2.2)):=by
 intro k j v h hj;rw[Dz (λx=>(stp (a x.2.2) i x.2.1,f x.2.2))]at h;cases hl:cF t k with
 |none=>grind
 |some y=>obtain⟨j',b⟩:=y;cases hc:a b<;>grind [stp]
theorem ik{t:List (Nat×Nat×At)}(hi:nx<=i):LY nx t (nF bad i t):=ug (·.hit bad) (·.kill bad) (λ_ h=>LN h) hi
theorem eD{t:List (Nm×Nat×Rt)}(hi:nx<=i):Gv nx t (cO bad i t):=by
 intro k j v h hj;unfold cO at h;rw[wJ (λx=>(stp (x.2.2.cells.any (·.hit bad)) i x.2.1,x.2.2.kill bad))]at h;cases hl:dx t k with
 |none=>grind
 |some y=>
  obtain⟨j',r⟩:=y;rw[hl]at h;simp only[Option.map_some]at h;cases hc:r.cells.any (·.hit bad)with
  |true=>grind [stp]
  |false=>
   have:r.kill bad=r:=by unfold Rt.kill;rw[pU hc]
   grind [stp]
theorem tB(n k:Nm):∀m:List (Nm×Nat×Rt),dx (fN m n) k=if k=n then none else dx m k
 |[]=>by simp[fN,dx]
 |(i,j,v)::m=>by
  simp only[fN];by_cases h:i=n
  .subst h;rw[if_pos rfl,tB i k m]
   grind [dx]
  rw[if_neg h];simp only[dx];by_cases hk:i=k
  .grind
  rw[if_neg hk,if_neg hk,tB n k m]
theorem mV{m:List (Nm×Nat×Rt)}(n:Nm):Gv nx m (fN m n):=by grind [tB]
theorem dL(n:Nm)(r:Rt)(hi:nx<=i):∀m:List (Nm×Nat×Rt),Gv nx m (fp m n i r)
 |[],_,_,_,h,_=>h
 |(a,b,c)::m,k,j,v,h,hj=>by
  simp only[fp]at h;split at h
  .grind [dx]
  simp only[dx]at h|-;split at h
  .grind
  rename_i hk;rw[if_neg hk];exact dL n r hi m k j v h hj
theorem aC(s:St)(d:Option Tmp)(v:At):Ext s (s.put d v):=by
 cases d with
 |none=>exact Ext.refl s
 |some d=>exact⟨alD _,vW d s.nx v (akK _),λ_ _ _ h _=>h⟩
theorem uh(s:St)(n:Nm):Ext s (s.drop n):=⟨alD _,ik (akK _),(mV n).trans (eD (akK _))⟩
theorem cg(s:St)(n:Nm):Ext s (s.fresh n):=by grind [St.fresh,Ext.refl,uh]
theorem dB(s:St)(n:Nm)(r:Rt):Ext s (s.root n r):=⟨alD _,λ_ _ _ h _=>h,kI n s.nx r (akK _)⟩
theorem Mi(q:Pl)(u:U)(l:List (El u))(t:Tt):(t.frz q u l).toT=t.toT.frz q (l.map (aw u)):=by
 cases t with
 |pl p=>exact eX (thr q) (.pl p)
 |rf p=>
  obtain⟨n,o,path⟩:=p;cases path with
  |nil=>
   show(if n=q.root/\o=q.off then Tt.d (.li u l)else(Tt.rf ⟨n,o,[]⟩).kill (thr q)).toT=if n=q.root/\o=q.off then T.d (.li (l.map (aw u)))else(T.rf ⟨n,o,[]⟩).kill (thr q)
   by_cases h:n=q.root/\o=q.off
   .rw[if_pos h,if_pos h];rfl
   rw[if_neg h,if_neg h];exact eX (thr q) (.rf ⟨n,o,[]⟩)
  |cons st r=>exact eX (thr q) (.rf ⟨n,o,st::r⟩)
 |_=>rfl
theorem Mh(n:Nm)(c:C)(t:Tt):(t.frm n c).toT=t.toT.frm n c.toD:=by
 cases t with
 |pl p=>exact eX (bJ n) (.pl p)
 |rf p=>
  obtain⟨r,o,path⟩:=p;by_cases h:r=n
  .simp only[Tt.frm,Tt.toT,T.frm]
   grind
  simp_all[Tt.frm,Tt.toT,T.frm]
 |_=>rfl
variable{f:Tt->Tt}
theorem yM{f':T->T}(h:∀t,(f t).toT=f' t.toT)(x:A1):(x.map f).toV=x.toV.map f':=by
 cases x with
 |c t=>grind [A1.map,A1.toV,AV1.map]
 |agg ts=>simp_all[A1.map,A1.toV,AV1.map]
theorem sN{f':T->T}(h:∀t,(f t).toT=f' t.toT)(x:At):(x.map f).toV=x.toV.map f':=by
 cases x with
 |one x=>grind [At.map,At.toV,AV.map,yM]
 |tup xs=>simp_all[At.map,At.toV,AV.map,yM]
 |any=>rfl
variable{q:Pl}
theorem RY{l:List (El u)}{t:Tt}(h:t.hit (O1 q)=false):t.frz q u l=t:=by
 cases t with
 |pl p=>simp only[Tt.hit,O1,amA,Bool.or_false]at h;exact jf (t:=.pl p) h
 |rf p=>
  simp only[Tt.hit,O1,Bool.or_eq_false_iff]at h;obtain⟨n,o,path⟩:=p;cases path with
  |nil=>simp only[Tt.frz];rw[if_neg (by grind)];exact jf (t:=.rf ⟨n,o,[]⟩) h.1
  |cons st r=>exact jf (t:=.rf ⟨n,o,st::r⟩) h.1
 |_=>rfl
theorem RV{t:Tt}(h:t.hit (bJ n)=false):t.frm n c=t:=by
 cases t with
 |pl p=>exact jf (t:=.pl p) h
 |rf p=>simp_all[Tt.hit,bJ,Tt.frm]
 |_=>rfl
theorem vV(hf:∀{t:Tt},t.hit bad=false->f t=t)(h:x.hit bad=false):x.map f=x:=by
 have one:∀{y:A1},y.hit bad=false->y.map f=y:=by
  intro y hy;cases y with
  |c t=>simp only[A1.map,hf (show t.hit _=false from hy)]
  |agg ts=>simp only[A1.hit]at hy;simp only[A1.map];induction ts<;>grind
 cases x with
 |one y=>simp only[At.map,one (show y.hit _=false from h)]
 |tup xs=>simp only[At.hit]at h;simp only[At.map];induction xs<;>grind
 |any=>rfl
theorem Ro{l:List (El u)}(h:x.hit (O1 q)=false):x.map (Tt.frz q u l)=x:=vV RY h
theorem oP(n:Nm):∀m:List (Nm×Nat×Rt),cm m n=(dx m n).map (·.2)
 |[]=>rfl
 |(k,j,r)::m=>by
  simp only[cm,dx];by_cases h:k=n
  .grind
  rw[if_neg h,if_neg h];exact oP n m
theorem vX(s:St)(q:Pl):Ext s (uO s q):=by
 unfold uO;split
 .split
  .rename_i u l _ _;refine⟨alD _,ug (·.hit (O1 q)) (·.map (Tt.frz q u l)) (λ_ h=>Ro h) (akK _),?_⟩
   grind [setCell,dL,eD]
  .split
   .exact⟨alD _,ug (·.hit (bJ q.root)) (·.map (Tt.frm q.root _)) (λ_ h=>vV RV h) (akK _),(mV q.root).trans (eD (akK _))⟩
   exact Ext.refl s
  exact Ext.refl s
 exact Ext.refl s
variable{off:Nat}
theorem qH{m:List (Nm×Nat×Rt)}{t:Tt}(hr:cm m n=some r)(a:r.hole=none) :
  toM (setCell m n i off t)=cY (toM m) n ⟨r.blk,(r.toR.cells).set off t.toT⟩:=by
 grind [setCell,fV,Rt.toR,holed,alB]
theorem EX{m:List (Nm×Nat×Rt)}{t:Tt}(hr:cm m n=some r):cm (setCell m n i off t) n=some { r with cells:=r.cells.set off t }:=by unfold setCell;induction m<;>grind [fp,cm]
theorem Dp(bad:Bool->Pl->Bool)(i:Nat)(n:Nm)(m:List (Nm×Nat×Rt)):cm (cO bad i m) n=(cm m n).map (·.kill bad):=by rw[oP,oP];unfold cO;rw[wJ (λx=>(stp (x.2.2.cells.any (·.hit bad)) i x.2.1,x.2.2.kill bad))];cases dx m n<;>rfl
theorem p6(h:leaf u=true)(x:El u):(aw u x).headD .any=(au u x).toD:=by cases u<;>first|rfl|cases h
theorem acJ(ku vu:U)(l:List (El ku×El vu)):frL (l.map λx=>((au ku x.1).toD,Sh.fr,(au vu x.2).toD))=true:=by grind [frL]
theorem wa{g:G}{s:St}{a:Act}{w:World}{H:FH}{γ:Gam}{F:Nm->Fp}(h:RX g s.toS a w H γ F)(q:Pl):∃H' F',RX g (uO s q).toS a w H' γ F':=by
 unfold uO;split
 .rename_i r b hr;split
  .rename_i sh u l c hc;obtain⟨H',F',h'⟩:=Mb h q;have v:r.toR.cells[q.off]? = some (.ow sh (l.map (aw u))):=by
    show(holed (r.cells.map Tt.toT) r.hole)[q.off]? = _
    rw[c];show(r.cells.map Tt.toT)[q.off]? = _
    rw[akN,hc];rfl
   have n:ah s.toS.m q.root=some r.toR:=bz hr
   have k:bi s.toS.m q=some (.ow sh (l.map (aw u))):=by grind [bi]
   have j:Jk s.toS q=⟨u7 (AV.map (T.frz q (l.map (aw u)))) s.toS.t,Jj s.toS.m q (l.map (aw u))⟩:=by grind [Jk]
   have key:(⟨s.nx+1,s.t.map λx=>(x.1,stp (x.2.2.hit (O1 q)) s.nx x.2.1,x.2.2.map (Tt.frz q u l)),
     setCell (cO (thr q) s.nx (setCell s.m q.root s.nx q.off .any)) q.root s.nx q.off (.d (.li u l))⟩:St).toS=⟨u7 (AV.map (T.frz q (l.map (aw u)))) s.toS.t,Jj s.toS.m q (l.map (aw u))⟩:=by
    refine bT.S_ext ?_ ?_
    .simp only[St.toS,u7,alW]
     grind [ak2,sN,Mi]
    have g1:=EX (i:=s.nx) (off:=q.off) (t:=.any) hr
    have g2:cm (cO (thr q) s.nx (setCell s.m q.root s.nx q.off .any)) q.root=some (({ r with cells:=r.cells.set q.off .any }:Rt).kill (thr q)):=by grind [Dp]
    show toM (setCell _ q.root s.nx q.off (.d (.li u l)))=_
    rw[qH g2 c,fh,qH hr c];unfold Jj;have y:bF s.toS.m q .any=cY (toM s.m) q.root ⟨r.blk,r.toR.cells.set q.off Tt.any.toT⟩:=by unfold bF;rw[n,b];rfl
    have g3:ah (aP (thr q) (cY (toM s.m) q.root ⟨r.blk,r.toR.cells.set q.off Tt.any.toT⟩)) q.root=some ⟨r.blk,(r.toR.cells.set q.off Tt.any.toT).map (·.kill (thr q))⟩:=by grind [bz,fh,qH,xy,Rt.toR,holed,alB]
    grind [bF,Rt.toR,Rt.kill,holed,alB,zw,Tt.toT,C.toD]
   grind
  .rename_i ku vu l c hc;split
   .rename_i x hb f o;have hx:x=.mp ku vu l:=by grind
    have e:ah s.toS.m q.root=some ⟨false,[.mp (l.map λx=>((au ku x.1).toD,Sh.fr,(au vu x.2).toD))]⟩:=by
     have:=bz hr
     unfold Rt.toR at this;rw[hb,f,c,hx]at this;exact this
    obtain⟨H',F',h'⟩:=aaT h e (acJ ku vu l);have p:mpD (l.map λx=>((au ku x.1).toD,Sh.fr,(au vu x.2).toD))=(C.mp ku vu (some l)).toD:=by
     show D.mp (some ((l.map _).map _))=D.mp (some (l.map _))
     grind [ak2,p6]
    have key:(XU s q.root (.mp ku vu (some l))).toS=frzm s.toS q.root (C.mp ku vu (some l)).toD:=by
     refine bT.S_ext ?_ ?_
     .simp_all[St.toS,XU,u7,sN,Mh]
     have h2:=fh (bJ q.root) s.nx (fN s.m q.root)
     rw[nh q.root s.m (gB h)]at h2;exact h2
    grind
   grind
  grind
 grind
variable{v:At}
section
variable {g:G} {a:Act} {w:World} {γ:Gam}
theorem C4{s:St}{H:FH}{F:Nm->Fp}(h:RX g s.toS a w H γ F)(t:Tt):∃H' F',RX g (Qw s t).toS a w H' γ F':=by
 cases t with
 |rf p=>exact wa h p
 |_=>exact⟨H,F,h⟩
theorem zo:∀(ts:List Tt)(s:St)(H:FH)(F:Nm->Fp),RX g s.toS a w H γ F->∃H' F',RX g (EW s ts).toS a w H' γ F'
 |[],_,H,F,h=>⟨H,F,h⟩
 |t::ts,s,H,F,h=>by obtain⟨H1,F1,h1⟩:=C4 h t;exact zo ts _ H1 F1 h1
theorem io{s:St}{H:FH}{F:Nm->Fp}(h:RX g s.toS a w H γ F)(v:At):∃H' F',RX g (ja s v).toS a w H' γ F':=by
 cases v with
 |one x=>cases x with
  |c t=>exact C4 h t
  |agg ts=>exact zo ts s H F h
 |_=>exact⟨H,F,h⟩
theorem je:∀(vs:List At)(s:St)(H:FH)(F:Nm->Fp),RX g s.toS a w H γ F->∃H' F',RX g (eJ s vs).toS a w H' γ F'
 |[],_,H,F,h=>⟨H,F,h⟩
 |v::vs,s,H,F,h=>by obtain⟨H1,F1,h1⟩:=io h v;exact je vs _ H1 F1 h1
theorem Ik{s s':St}{H:FH}{F:Nm->Fp}(c:RX g s.toS a w H γ F)(hf:∀(g':G) (H:FH) (F:Nm->Fp),RX g' s.toS a w H γ F->∃H' F',RX g' s'.toS a w H' γ F') :
  ∃H' F',RX g s'.toS a w H' γ F'/\∀b o y,H b o=some y->H' b o=some y:=by
 let g':G:=⟨g.nt,w,H,tot F s.toS.m,g.out,g.ex,g.dfs⟩
 have d:RX g' s.toS a w H γ F:=⟨c.mem,Fr.refl' rfl rfl rfl rfl (λ_ h=>h),c.nt,⟨c.df.1,c.df.2.1,jI c⟩,c.t⟩
 obtain⟨H',F',h⟩:=hf g' H F d;exact⟨H',F',⟨h.mem,c.fr.trans h.fr,h.nt,⟨h.df.1,h.df.2.1,c.df.2.2⟩,h.t⟩,h.fr.hold⟩
theorem qX:∀(ts:List Tt)(s:St)(p:Pl)(H:FH)(F:Nm->Fp),RX g s.toS a w H γ F->∃H' F',RX g (xD s p ts).toS a w H' γ F'
 |[],s,_,H,F,h=>⟨H,F,h⟩
 |t::ts,s,p,H,F,h=>by
  cases t with
  |rf q=>
   simp only[xD];split
   .obtain⟨H1,F1,h1⟩:=wa h q;exact qX ts _ _ H1 F1 h1
   exact qX ts _ _ H F h
  |_=>exact qX ts s (p.add 1) H F h
theorem RR{s:St}{H:FH}{F:Nm->Fp}(h:RX g s.toS a w H γ F)(x v:At):∃H' F',RX g (Jl s x v).toS a w H' γ F':=by
 unfold Jl;split
 .exact qX _ _ _ H F h
 grind
theorem Cx(s:St)(t:Tt):Ext s (Qw s t):=by
 cases t with
 |rf p=>exact vX s p
 |_=>exact Ext.refl s
theorem yT:∀(ts:List Tt)(s:St),Ext s (EW s ts)
 |[],s=>Ext.refl s
 |t::ts,s=>(Cx s t).trans (yT ts _)
theorem jd(s:St)(v:At):Ext s (ja s v):=by
 cases v with
 |one x=>cases x with
  |c t=>exact Cx s t
  |agg ts=>exact yT ts s
 |_=>exact Ext.refl s
theorem qS:∀(ts:List Tt)(s:St)(p:Pl),Ext s (xD s p ts)
 |[],s,_=>Ext.refl s
 |t::ts,s,p=>by
  cases t with
  |rf q=>
   simp only[xD];split
   .exact(vX s q).trans (qS ts _ _)
   exact qS ts _ _
  |_=>exact qS ts s (p.add 1)
theorem Rr(s:St)(x v:At):Ext s (Jl s x v):=by
 unfold Jl
 grind [qS,Ext.refl]
theorem fa:∀(vs:List At)(s:St),Ext s (eJ s vs)
 |[],s=>Ext.refl s
 |v::vs,s=>(jd s v).trans (fa vs _)
theorem zp{s:St}{H:FH}{F:Nm->Fp}(h:RX g s.toS a w H γ F)(o:Oper):∃H' F',RX g (KV s o).toS a w H' γ F':=by
 unfold KV;split
 .exact io h _
 .exact io h _
 grind
theorem Gw(s:St)(o:Oper):Ext s (KV s o):=by grind [KV,jd,Ext.refl]
theorem Dm{s:S}{t:Tt}(h:t.noRf=true):XV s t.toT=s:=by
 cases t with
 |rf p=>cases h
 |_=>rfl
theorem Aj{s:S}:∀{ts:List Tt},ts.all Tt.noRf=true->Dn s (ts.map Tt.toT)=s
 |[],_=>rfl
 |t::ts,h=>by simp only[akW,akI]at h;simp only[akM,Dn];rw[Dm h.1,Aj h.2]
theorem wB{s:S}(h:v.noRf=true):Jm s v.toV=s:=by
 cases v with
 |one x=>cases x with
  |c t=>exact Dm h
  |agg ts=>exact Aj h
 |_=>rfl
theorem oN{s:S}:∀{vs:List At},vs.all At.noRf=true->pE s (vs.map At.toV)=s
 |[],_=>rfl
 |v::vs,h=>by simp only[akW,akI]at h;simp only[akM,pE];rw[wB h.1,oN h.2]
theorem Oc{s:St}{H:FH}{F:Nm->Fp}(b:RX g s.toS a w H γ F){x:Operand}(hc:aH x=true) :
  (∀p,evA s x=.one (.c (.rf p))->okP (toM s.m) p)/\(∀p,evA s x=.one (.c (.pl p))->okP (toM s.m) p):=by
 have h:=aJ b hc
 rw[aj hc]at h;refine⟨λp e=>?_,λp e=>?_⟩
 .rw[e]at h;obtain⟨_,h1,_⟩:=h;exact qq h1
 rw[e]at h;obtain⟨_,h1,_⟩:=h;exact Oe h1
theorem Tg{n:Nat}{q a:Prop}(hq:q->a)(h:gift gd n q):gift gd n a:=by
 cases gd with
 |none=>exact λb=>hq (h b)
 |some _=>exact hq h
theorem Dx{m:List (Nm×Nat×Rt)}{k k':Nat->Prop}(hk:∀n,k n->k' n)(h:Ud gd m x k):Ud gd m x k':=by
 unfold Ud at h|-
 grind [Tg]
theorem TA(x:At):rA x.toV=Yk x:=by
 cases x with
 |one x=>cases x with
  |c t=>cases t with
   |d c=>cases c<;>rfl
   |_=>rfl
  |agg ts=>rfl
 |_=>rfl
theorem Zs{e:En}{o:Oper}{s:St}{k:At->Prop}{H:FH}{F:Nm->Fp}(j:RX g s.toS a w H γ F)(hc:opC g.nt o=true)(h:qT e o s k):qK e.P o s.toS (up k):=by
 unfold opC at hc;rw[akI]at hc;obtain⟨_,hc⟩:=hc;unfold qT at h;unfold qK;cases ho:o.op with
 |move x=>grind [aj]
 |assign x=>grind [aj]
 |pick c x y=>grind [aj,Zg]
 |binOp op t x y z=>grind [aj,aa6]
 |unOp op t x=>grind [aj,aiB]
 |load t x=>rw[ho]at h hc;dsimp only at hc|-;rw[aj hc];exact AG (Oc j hc).2 h
 |field t x i=>grind [aj,Tc]
 |fieldAddr t x i=>rw[ho]at h hc;dsimp only at hc|-;rw[aj hc];exact B1 h
 |indexAddr t x i=>rw[ho]at h hc;simp only[akI]at hc;dsimp only;rw[aj hc.1,aj hc.2];exact sE (Oc j hc.1).1 h
 |index t x i=>grind [aj,UZ]
 |extract x i=>grind [aj,I4]
 |convert p q x=>grind [aj,XG]
 |slice t x lo hi l=>
  rw[ho]at h hc;cases l with
  |some _=>omega
  |none=>
   dsimp only at h hc|-;simp only[akI]at hc;have m:(y:Option Operand)->y.all aH=true->y.map (ev s.toS)=(y.map (evA s)).map At.toV:=by intro y hy;cases y<;>grind [aj]
   grind [aj,UP]
 |nilCheck x=>grind [aj,FC]
 |build t ps=>grind [wT,So]
 |call c=>
  rw[ho]at h hc;obtain⟨f,args,d⟩:=c;obtain⟨args⟩:=args;obtain⟨d⟩:=d;dsimp only at h hc|-;cases f with
  |builtin b=>
   cases b with
   |len=>
    match args,d,h with
    |[x],[t],h=>
     have h1:aH x=true:=by grind
     dsimp only at h|-;split at h
     .rename_i hl;rw[aj h1,TA];refine⟨hl,?_⟩;exact adA (Oc j h1).1 (Dx (λn hn=>⟨_,rfl,hn⟩) h)
     grind
   |_=>omega
  |_=>omega
 |_=>grind
end
theorem rZ{x x':El u}(h:Lb u x off c=some x'):(∃d,(aw u x)[off]? = some d)/\aw u x'=(aw u x).set off c.toD:=by
 unfold Lb at h;split at h
 .rename_i a hc;have e:=xj h
  refine⟨⟨a.toD,by grind [cj]⟩,?_⟩
  grind [cj,alB]
 grind
theorem Lj:∀{path:List Step}{sub:List Sh}{u:U}{l l':List (El u)}{t:Tt}{k:Prop}{K:List (List D)->Prop},tG sub u l path k->Li sub u l t path=some l'->K (l'.map (aw u))->iV sub (l.map (aw u)) t.toT path K
 |[],_,_,_,_,_,_,_,h,_,_=>h.elim
 |[st],sub,u,l,l',t,k,K,h,a,b=>by
  obtain⟨h1,_⟩:=h;simp only[Li]at a;simp only[iV];rw[me l h1];dsimp only;split at a
  .rename_i c hs;split at a
   .rename_i x hx;simp only[akJ]at a;subst a;obtain⟨⟨d,hd⟩,e⟩:=rZ hx;rw[hs,hd];refine⟨trivial,?_⟩;rw[alB,e]at b;exact b
   grind
  .rename_i hs;split at a
   .split at a
    .rename_i x hx;simp only[akJ]at a;subst a;obtain⟨⟨d,hd⟩,e⟩:=rZ hx;rw[hs,hd];refine⟨trivial,?_⟩;rw[alB,e]at b;exact b
    grind
   grind
  grind
 |st::m::r,sub,u,l,l',t,k,K,h,a,b=>by
  simp only[Li]at a;simp only[iV];simp only[tG]at h;split at a
  .rename_i s u' n g i;rw[g,i]at h;obtain⟨h1,h4⟩:=h;rw[me l h1];dsimp only;split at a
   .rename_i l2 f;split at a
    .rename_i x hx;simp only[akJ]at a;subst a;obtain⟨_,e⟩:=rZ hx;have j:(aw u (l.getD st.idx (dflt u)))[st.off]? = some (.li (n.map (aw u'))):=by rw[<- cj,akN,i];rfl
     rw[g,j];refine Lj h4 f ?_;rw[alB,e]at b;exact b
    grind
   grind
  grind
mutual
theorem ZN:∀{a b:Sh},Q8 a b=true->a=b
 |.fr,.fr,_=>rfl
 |.ow a,.ow b,h=>by rw[kX h]
 |.fr,.ow _,h=>by simp[Q8]at h
 |.ow _,.fr,h=>by simp[Q8]at h
theorem kX:∀{a b:List Sh},mP a b=true->a=b
 |[],[],_=>rfl
 |a::r,b::q,h=>by simp only[mP,akI]at h;rw[ZN h.1,kX h.2]
 |[],_::_,h=>by simp[mP]at h
 |_::_,[],h=>by simp[mP]at h
end
theorem I7:∀{path:List Step}{sub:List Sh}{u:U}{l l':List (El u)}{sh:List Sh}{v:U}{j:List (El v)}{k:Prop}{K:List (List D)->Prop},tG sub u l path k->I6 sub u l sh v j path=some l'->K (l'.map (aw u)) ->
  iV sub (cC sub (l.map (aw u)) .any path) (.ow sh (j.map (aw v))) path K
 |[],_,_,_,_,_,_,_,_,_,h,_,_=>h.elim
 |[st],sub,u,l,l',sh,v,j,k,K,h,a,g=>by
  obtain⟨h1,_⟩:=h;have h1':st.idx < (l.map (aw u)).length:=by grind
  simp only[I6]at a;split at a
  .rename_i s c hs hc;split at a
   .rename_i x m hx;simp only[akJ]at a;subst a;obtain⟨⟨d,hd⟩,e⟩:=rZ hx;have f:=di hd
    have b:cC sub (l.map (aw u)) .any [st]=(l.map (aw u)).set st.idx ((aw u (l.getD st.idx (dflt u))).set st.off .any):=by grind [cC]
    rw[b];simp only[iV];rw[ak7 h1'];dsimp only;rw[hs,ak7 f];refine⟨kX m,?_⟩;rw[amD,amD];rw[alB,e]at g;exact g
   grind
  grind
 |st::i::r,sub,u,l,l',sh,v,j,k,K,h,a,g=>by
  simp only[I6]at a;simp only[tG]at h;split at a
  .rename_i s u' q o p;rw[o,p]at h;obtain⟨h1,h4⟩:=h;have h1':st.idx < (l.map (aw u)).length:=by grind
   split at a
   .rename_i l2 n;split at a
    .rename_i x hx;simp only[akJ]at a;subst a;obtain⟨_,e⟩:=rZ hx;have t:(aw u (l.getD st.idx (dflt u)))[st.off]? = some (.li (q.map (aw u'))):=by rw[<- cj,akN,p];rfl
     have f:=di t
     have b:cC sub (l.map (aw u)) .any (st::i::r)=(l.map (aw u)).set st.idx ((aw u (l.getD st.idx (dflt u))).set st.off (.li (cC s (q.map (aw u')) .any (i::r)))):=by grind [cC]
     rw[b];simp only[iV];rw[ak7 h1'];dsimp only;rw[o,ak7 f];refine I7 h4 n ?_;rw[amD,amD];rw[alB,e]at g;exact g
    grind
   grind
  grind
theorem FM:∀{path:List Step}{sub:List Sh}{u:U}{l:List (El u)}{k:Prop},tG sub u l path k->k
 |[],_,_,_,_,h=>h.elim
 |[st],_,_,_,_,h=>h.2
 |st::a::r,sub,u,l,k,h=>by
  simp only[tG]at h;split at h
  .exact FM h.2
  grind
theorem rQ:∀{path:List Step}{sub:List Sh}{u:U}{l:List (El u)}{k k':Prop},(k->k')->tG sub u l path k->tG sub u l path k'
 |[],_,_,_,_,_,_,h=>h.elim
 |[st],_,_,_,_,_,hk,h=>⟨h.1,hk h.2⟩
 |st::a::r,sub,u,l,k,k',hk,h=>by
  simp only[tG]at h|-;split at h
  .exact⟨h.1,rQ hk h.2⟩
  omega
theorem Df:∀{a b:List Step}{k:Prop},s9 a b k->a=b/\k
 |[],[],_,h=>⟨rfl,h⟩
 |x::r,y::q,k,h=>by
  simp only[s9]at h;split at h
  .obtain⟨e,hk⟩:=Df h.2;obtain⟨c,d,a3⟩:=x;simp_all
  grind
 |[],_::_,_,h=>h.elim
 |_::_,[],_,h=>h.elim
theorem xA:∀{a b:List Step}{k k':Prop},(k->k')->s9 a b k->s9 a b k'
 |[],[],_,_,hk,h=>hk h
 |x::r,y::q,k,k',hk,h=>by
  simp only[s9]at h|-;split at h
  .exact⟨h.1,xA hk h.2⟩
  omega
 |[],_::_,_,_,_,h=>h.elim
 |_::_,[],_,_,_,h=>h.elim
theorem As:∀{path:List Step}{sub:List Sh}{u:U}{l:List (El u)}{sh:List Sh}{v:U}{b:List (El v)},okO sub (l.map (aw u)) path->inT sub u l 1 path=some [.ow sh v b]->bU sub (l.map (aw u)) path=some (.ow sh,.li (b.map (aw v)))
 |[],_,_,_,_,_,_,h,_=>h.elim
 |[st],sub,u,l,sh,v,b,h,a=>by
  obtain⟨h1,h2,h3⟩:=h;rw[akT]at h1;simp only[inT]at a;split at a
  .simp only[akJ]at a;have d:=akL h3
   cases hc:(flat u (l.getD st.idx (dflt u)))[st.off]? with
   |none=>simp_all[List.drop_eq_nil_of_le]
   |some c=>
    have i:(sub.drop st.off).take 1=[sub[st.off]]:=by grind [akX]
    have j:((flat u (l.getD st.idx (dflt u))).drop st.off).take 1=[c]:=by grind [akX]
    rw[i,j]at a;simp only[List.zipWith_cons_cons,List.zipWith_nil_left,List.cons.injEq,and_true]at a;simp only[bU,d,qe l h1];have f:(aw u (l.getD st.idx (dflt u))).getD st.off default=c.toD:=by grind [cj]
    rw[f];generalize sub[st.off]=s0 at a;cases s0 with
    |fr=>cases a
    |ow s1=>
     cases c with
     |li u1 l1=>simp only[Tt.ow.injEq]at a;obtain⟨rfl,rfl,e⟩:=a;rw[eq_of_heq e];rfl
     |_=>cases a
  grind
 |st::g::r,sub,u,l,sh,v,b,h,a=>by
  obtain⟨⟨h1,h2,h3⟩,h4⟩:=h;rw[akT]at h1;simp only[inT]at a;split at a
  .rename_i s u' m d k;have f:(aw u (l.getD st.idx (dflt u))).getD st.off default=.li (m.map (aw u')):=by rw[List.getD,<- cj,akN,k];rfl
   rw[d,qe l h1,f]at h4;simp only[bU];rw[d,qe l h1,f];exact As h4 a
  grind
variable{sub:List Sh}
theorem Jx{cells:List Tt}{l:List (El u)}(st:Step)(q:List Step)(h:cells[off]? = some (.ow sub u l)) :
  holed (cells.map Tt.toT) (some (off,st,q))=(cells.map Tt.toT).set off (.ow sub (cC sub (l.map (aw u)) .any (st::q))):=by
 unfold holed;dsimp only;rw[akN,h];rfl
def DL(row:List D)(off:Nat):List D->List D
 |[]=>row
 |d::r=>DL (row.set off d) (off+1) r
def mO(sub:List Sh)(l:List (List D)):List T->List Step->(List (List D)->Prop)->Prop
 |[],_,K=>K l
 |t::ts,path,K=>iV sub l t path λl1=>mO sub l1 ts (bj path 1) K
theorem qI:∀{path:List Step}{sub:List Sh}{l:List (List D)}{t:T}{K K':List (List D)->Prop},(∀x,K x->K' x)->iV sub l t path K->iV sub l t path K'
 |[],_,_,_,_,_,_,h=>h.elim
 |[st],sub,l,t,K,K',hk,h=>by grind [iV]
 |st::a::r,sub,l,t,K,K',hk,h=>by
  simp only[iV]at h|-;split at h
  .split at h
   .exact qI (λx hx=>hk _ hx) h
   omega
  omega
def JC:T->Bool
 |.d _=>true
 |.nil=>true
 |_=>false
theorem By{idx esz:Nat}:∀{ts:List T}{l:List (List D)}{off:Nat}{row:List D}{K:List (List D)->Prop},l[idx]? = some row->ts.all JC=true->frs sub off ts.length=true->off+ts.length<=row.length ->
  K (l.set idx (DL row off (ts.map T.toD)))->mO sub l ts [⟨idx,esz,off⟩] K
 |[],l,off,row,K,hl,_,_,_,c=>by
  have:l.set idx row=l:=by
   apply alP
   grind
  simp only[alN,DL,this]at c;exact c
 |t::ts,l,off,row,K,hl,hd,hf,b,c=>by
  simp only[akW,akI]at hd;simp only[ak3]at b hf;simp only[frs]at hf;cases hs:sub[off]? with
  |none=>grind
  |some s=>
   rw[hs]at hf;cases s with
   |ow _=>cases hf
   |fr=>
    have a:off<row.length:=by omega
    simp only[mO,iV];rw[hl];dsimp only;rw[hs,akL a];refine⟨by have h0:=hd.1;cases t<;>first|trivial|(simp[JC]at h0),?_⟩;have d:=di hl
    refine By (row:=row.set off t.toD) (ak7 d) hd.2 hf (by grind) ?_;rw[amD];exact c
theorem EH(st a:Step)(r:List Step)(n:Nat):bj (st::a::r) n=st::bj (a::r) n:=rfl
theorem xP{s:List Sh}{st a:Step}:∀{ts:List T}{r:List Step}{l l':List (List D)}{row:List D}{K:List (List D)->Prop},l[st.idx]? = some row->sub[st.off]? = some (.ow s)->row[st.off]? = some (.li l') ->
  mO s l' ts (a::r) (λf=>K (l.set st.idx (row.set st.off (.li f))))->mO sub l ts (st::a::r) K
 |[],r,l,l',row,K,hl,hs,hc,h=>by
  have g:row.set st.off (.li l')=row:=by
   apply alP
   grind
  have i:l.set st.idx row=l:=by
   apply alP
   grind
  grind [mO]
 |t::ts,r,l,l',row,K,hl,hs,hc,h=>by
  simp only[mO,iV]at h|-;rw[hl];dsimp only;rw[hs,hc];refine qI (λl1 h1=>?_) h;rw[EH];have d:=di hl
  have c:=di hc
  obtain⟨b,r2,e⟩:∃b r2,bj (a::r) 1=b::r2:=by
   cases r with
   |_=>exact⟨_,_,rfl⟩
  rw[e]at h1|-;refine xP (row:=row.set st.off (.li l1)) (l':=l1) (ak7 d) hs (ak7 c) ?_
  grind [amD]
theorem A3:∀{ts:List Tt}{cs a:List C}{off:Nat},lB cs off ts=some a->a.map C.toD=DL (cs.map C.toD) off ((ts.map Tt.toT).map T.toD)/\(ts.map Tt.toT).all JC=true/\(ts≠[]->off+ts.length<=cs.length)/\a.length=cs.length
 |[],cs,a,off,h=>by simp only[lB,akJ]at h;subst h;exact⟨rfl,rfl,λh=>(h rfl).elim,rfl⟩
 |t::r,cs,a,off,h=>by
  have step:∀{c:C},(∃b,cs[off]? = some b)->lB (cs.set off c) (off+1) r=some a->t.toT.toD=c.toD->JC t.toT=true ->
    a.map C.toD=DL (cs.map C.toD) off (((t::r).map Tt.toT).map T.toD)/\((t::r).map Tt.toT).all JC=true/\((t::r)≠[]->off+(t::r).length<=cs.length)/\a.length=cs.length:=by
   rintro c ⟨b,e⟩ h2 h3 h4
   obtain⟨k1,k2,k3,k4⟩:=A3 h2;refine⟨?_,by grind,λ_=>?_,by grind⟩
   .grind [DL,alB]
   simp only[ak3]
   grind
  cases t with
  |d c=>
   simp only[lB]at h;split at h
   .cases h
   .rename_i hc;exact step ⟨_,hc⟩ h rfl rfl
   grind
  |nil=>
   simp only[lB]at h;split at h
   .rename_i u' f hc;exact step ⟨_,hc⟩ h rfl rfl
   grind
  |_=>simp[lB]at h
theorem Lk:∀{path:List Step}{sub:List Sh}{u:U}{l l':List (El u)}{ts:List Tt}{k:Prop}{K:List (List D)->Prop},ts≠[]->tG sub u l path k->vH sub u l ts path=some l'->K (l'.map (aw u))->mO sub (l.map (aw u)) (ts.map Tt.toT) path K
 |[],_,_,_,_,_,_,_,_,h,_,_=>h.elim
 |[st],sub,u,l,l',ts,k,K,b,h,a,d=>by
  obtain⟨h1,_⟩:=h;simp only[vH]at a;split at a
  .rename_i cs hf ho;split at a
   .rename_i x hx;obtain⟨k1,k2,k3,k4⟩:=A3 ho;have e:=xj hx
    refine By (me l h1) k2 (by grind) ?_ ?_
    all_goals grind [cj,alB]
   grind
  grind
 |st::j::r,sub,u,l,l',ts,k,K,b,h,a,d=>by
  simp only[vH]at a;simp only[tG]at h;split at a
  .rename_i s u' m f g;rw[f,g]at h;obtain⟨h1,h4⟩:=h;split at a
   .rename_i l2 c;split at a
    .rename_i x hx;simp only[akJ]at a;subst a;obtain⟨_,e⟩:=rZ hx;have i:(aw u (l.getD st.idx (dflt u)))[st.off]? = some (.li (m.map (aw u'))):=by rw[<- cj,akN,g];rfl
     refine xP (me l h1) f i (Lk b h4 c ?_);rw[alB,e]at d;exact d
    grind
   grind
  grind
theorem Ef:∀{m:Mm}{n:Nm}{r a:Root},cY (cY m n r) n a=cY m n a
 |[],_,_,_=>rfl
 |(k,x)::m,n,r,a=>by
  simp only[cY];by_cases h:k=n
  .grind [cY]
  simp only[cY,if_neg h,Ef]
theorem Ee:∀{m:Mm}{n:Nm}{r:Root},ah m n=some r->cY m n r=m
 |[],_,_,h=>by rfl
 |(k,x)::m,n,r,h=>by
  simp only[ah]at h;simp only[cY];by_cases hk:k=n
  .grind
  rw[if_neg hk]at h|-;rw[Ee h]
variable{K:S->Prop}
theorem xX:∀{ts:List T}{s:S}{p:Pl}{r:Root}{sub:List Sh}{l:List (List D)}{st:Step}{q:List Step},ah s.m p.root=some r->p.path=st::q->r.cells[p.off]? = some (.ow sub l)->ts.all JC=true->(∀t∈ts,t≠.d .any) ->
  mO sub l ts (st::q) (λl'=>K ⟨s.t,cY s.m p.root { r with cells:=r.cells.set p.off (.ow sub l') }⟩)->dS s p ts K
 |[],s,p,r,sub,l,st,q,hr,hp,hc,_,_,h=>by
  have f:r.cells.set p.off (.ow sub l)=r.cells:=by
   apply alP
   grind
  simp only[mO,f]at h;have:=Ee hr
  rw[show({ blk:=r.blk,cells:=r.cells }:Root)=r from rfl,this]at h;exact h
 |t::ts,s,p,r,sub,l,st,q,hr,hp,hc,hd,hn,h=>by
  simp only[akW,akI]at hd;have key:dS s p (t::ts) K=tM s.m p t λm'=>dS ⟨s.t,m'⟩ (p.add 1) ts K:=by
   cases t with
   |d c=>cases c with
    |any=>grind
    |_=>rfl
   |nil=>rfl
   |_=>grind [JC]
  rw[key];unfold tM;rw[hr];dsimp only;rw[hp,hc];refine qI (λl1 h1=>?_) h;have b:(p.add 1).root=p.root/\(p.add 1).off=p.off/\(p.add 1).path=bj (st::q) 1:=by obtain⟨pr,j,i⟩:=p;subst hp;exact⟨rfl,rfl,rfl⟩
  obtain⟨a,q2,e⟩:∃a r2,bj (st::q) 1=a::r2:=by
   cases q with
   |_=>exact⟨_,_,rfl⟩
  refine xX (s:=⟨s.t,cY s.m p.root { r with cells:=r.cells.set p.off (.ow sub l1) }⟩) (p:=p.add 1) (r:={ r with cells:=r.cells.set p.off (.ow sub l1) }) (sub:=sub) (l:=l1) (st:=a) (q:=q2) ?_ (b.2.2.trans e) ?_ hd.2 (λt g=>hn t (by simp[g])) ?_
  all_goals grind [gj,Ef,amD]
theorem wQ:∀{ts:List Tt}{cs a:List C}{off:Nat},lB cs off ts=some a->∀t∈ts.map Tt.toT,t≠.d .any
 |[],_,_,_,_,t,g=>by grind
 |t::r,cs,a,off,h,x,hx=>by
  cases t with
  |d c=>
   have f:c≠.any:=by rintro rfl;simp[lB]at h
   have h':∃b o,lB b o r=some a:=by
    simp only[lB]at h
    grind
   obtain⟨b,o,h'⟩:=h';rcases akU.1 hx with rfl|hx
   .intro e;simp only[Tt.toT]at e;cases c<;>first|exact f rfl|grind [C.toD]
   exact wQ h' x hx
  |nil=>
   simp only[lB]at h;split at h
   .rcases akU.1 hx with rfl|hx
    .intro e;cases e
    exact wQ h x hx
   grind
  |_=>simp[lB]at h
theorem Eg:∀{path:List Step}{sub:List Sh}{u:U}{l l':List (El u)}{ts:List Tt},vH sub u l ts path=some l'->(∀t∈ts.map Tt.toT,t≠.d .any)/\(ts.map Tt.toT).all JC=true
 |[],_,_,_,_,_,h=>by simp[vH]at h
 |[st],_,_,_,_,_,h=>by
  simp only[vH]at h;split at h
  .rename_i ho;exact⟨wQ ho,(A3 ho).2.1⟩
  grind
 |st::a::r,_,_,_,_,_,h=>by
  simp only[vH]at h;split at h
  .split at h
   .rename_i hl;exact Eg hl
   grind
  grind
def uz(P:Program)(s:S)(t u:TypeId)(x y:Operand)(d:Tmp)(k:S->Prop):Prop:=
 match(ty P t).k with
 |.sl e=>(ty P e).ok=true/\(ty P u).k.isSS=true/\((zcells P e).map (·.length))=some (ty P e).size /\
  match kg s (ty P e).size (ev s y)with
  |some (s1,a,ys)=>match kg s1 (ty P e).size (ev s1 x)with
   |some (s2,sub,l)=>a=sub/\FL a.length ys/\l.length+ys.length<=4611686018427387904/\(l.length+ys.length)*(ty P e).bytes<=140737488355328 /\
    k (((s2.fresh (.gh d)).root (.gh d) ⟨false,[.ow sub (l++ys)]⟩).put (some d) (.one (.c (.rf ⟨.gh d,0,[]⟩))))
   |none=>False
  |none=>False
 |_=>False
variable{d:Tmp}{l:List (List D)}{y:Operand}
section
variable {P:Program} {g:G} {s:S} {a:Act} {w:World} {H:FH} {γ:Gam} {F:Nm->Fp}
theorem afZ{k:Nat}{sh:Sh}{x:D}{f:Fp}{y:Value}(hs:x.sure=true)(h:OD w H k sh x f y):pK y=true:=by
 cases sh with
 |fr=>grind [Pk,gr]
 |ow sub=>
  cases k with
  |zero=>cases x<;>first|(simp[OD]at h;done)|grind [D.sure]
  |succ k=>
   cases x with
   |li l=>obtain⟨a,c,_,_,rfl,_⟩:=mY h;rfl
   |any=>grind [D.sure]
   |_=>simp[OD]at h
theorem Vw{k:Nat}:∀{b:List Sh}{xs:List D}{f:Fp}{vs:List Value},vs.length=xs.length->(∀x∈xs,x.sure=true)->Cs (OD w H k) b xs f vs->∀u∈vs,pK u=true
 |[],[],_,vs,hl,_,_=>by grind
 |s::b,x::xs,f,vs,hl,hx,h=>by
  obtain⟨v,r,f1,c,rfl,_,h1,h2⟩:=h;intro u a;rcases akU.1 a with rfl|a
  .exact afZ (hx x (by simp)) h1
  exact Vw (by grind) (λy hy=>hx y (by simp[hy])) h2 u a
 |[],_::_,_,_,_,_,h=>h.elim
 |_::_,[],_,_,_,_,h=>h.elim
theorem aeI{k:Nat}{ys:List (List D)}{f:Fp}{v:Value}(h:OD w H k (.ow sub) (.li ys) f v)(g:FL sub.length ys) :
  ∃(kx:Nat)(gx:Fp)(ws:List Value),Src P w sub.length v ys.length ws/\Cs (OD w H kx) (List.replicate ys.length sub).flatten ys.flatten gx ws/\(∀u∈ws,pK u=true)/\∀b,gx b<=f b:=by
 cases k with
 |zero=>simp[OD]at h
 |succ k=>
  obtain⟨ad,c,o,vs,rfl,m,n,l,i,d,a⟩:=mY h;refine⟨k,o,vs,?_,d,?_,?_⟩
  .rcases a with⟨rfl,rfl,rfl,_⟩|⟨b,cs,ty,fz,rfl,hb,hfz,hcsz,rfl,hf⟩
   .simp_all[pS]
   refine wc i (λj u hj=>?_)
   grind [World.cell?]
  .refine Vw (by grind [db]) (λx hx=>?_) d;rw[List.mem_flatten]at hx;obtain⟨y,hy,e⟩:=hx;exact(g y hy).2 x e
  grind [Cs]
theorem m9(h:RX g s a w H γ F){size:Nat}{x:AV}{v:Value}{s1:S}(hx:AR w H γ s.m x v)(hb:kg s size x=some (s1,sub,l)) :
  ∃k f F1,OD w H k (.ow sub) (.li l) f v/\RX g s1 a w H γ F1/\sub.length=size/\(∀b,tot F1 s1.m b+f b=tot F s.m b)/\(∀b,f b≠0->b<w.heap.size/\(∀o,H b o=none)/\(g.own0 b≠0\/g.w0.heap.size<=b)):=by
 match x,hb with
 |.one (.c .nil),hb=>
  simp only[kg,akJ,Prod.mk.injEq]at hb;obtain⟨rfl,rfl,rfl⟩:=hb;obtain⟨_,rfl⟩:=hx;refine⟨1,λ_=>0,F,?_,h,by simp,λb=>rfl,λb hb=>absurd rfl hb⟩
  grind [im]
 |.one (.c (.rf q)),hb=>
  simp only[kg]at hb;cases n:bi s.m q with
  |none=>grind
  |some t=>
   rw[n]at hb;cases t with
   |ow j l'=>
    dsimp only at hb;split at hb
    .rename_i e;simp only[akJ,Prod.mk.injEq]at hb;obtain⟨rfl,rfl,rfl⟩:=hb;obtain⟨_,i,hv⟩:=hx;obtain⟨r,f,F',u,⟨k,z⟩,y,p⟩:=Ij h (fP i) n;rw[hv]at u;obtain rfl:v=r:=by grind
     exact⟨k,f,F',z,y,e,p,λb hb=>by
      have d:tot F s.m b≠0:=by grind
      exact⟨h.mem.lt b d,h.mem.nofz b d,h.fr.tt b d⟩⟩
    grind
   |_=>grind
theorem Ip(h:RX g s a w H γ F){t u tt:TypeId}{x:Operand}{k:S->Prop}(hd:okD g.nt (some d)=true)(hx:aH x=true)(hy:aH y=true)(j:uz P s t u x y d k) :
  ∃s' z w' H' γ' F',(Builtin.append_ #[t,u] tt #[a.eval x,a.eval y]).run P w=.ok z w'/\k s'/\RX g s' (a.put (some d) z) w' H' γ' F':=by
 unfold uz at j;cases hk:(ty P t).k with
 |sl e=>
  rw[hk]at j;obtain⟨R,V,A,j⟩:=j;obtain⟨_,td,hit,ab,N,_⟩:=bh hk (by simp);have:=pJ N
  subst this;obtain⟨L,de,J,_,_,i,p,_⟩:=jY R;rw[i,p]at j;rw[i]at A;obtain⟨zs,U,A⟩:=ak0.1 A;obtain⟨W,z,X,hz,ad,_⟩:=kZ U;rw[J]at X;obtain rfl:L=W:=by grind
  have G:z.cells.size=L.size:=by grind
  obtain⟨B,huu,hudd⟩:∃B,P.underlying u=some B/\isSS B=true:=by
   have Y:(ty P u).k≠.ot:=λe=>by grind [TK.isSS]
   obtain⟨_,B,_,h2,h3,_⟩:=bh rfl Y;refine⟨B,h2,?_⟩;rw[<- h3]at V;cases B<;>first|rfl|grind [gJ,TK.isSS]
  cases D:kg s L.size (ev s y)with
  |none=>grind
  |some q1=>
   obtain⟨s1,r,ys⟩:=q1;rw[D]at j;dsimp only at j;obtain⟨k1,f1,F1,d1,h1,d3,d4,d5⟩:=m9 h (aJ h hy) D;cases I:kg s1 L.size (ev s1 x)with
   |none=>grind
   |some q=>
    obtain⟨s2,sub,l⟩:=q;rw[I]at j;obtain⟨K,c,E,Z,j⟩:=j;subst K;obtain⟨kb,f,C,b1,b2,b3,T,b5⟩:=m9 h1 (aJ h1 hx) I;have b4:∀b,tot C s2.m b+f b+f1 b<=1:=λb=>by have:=T b;have:=d4 b;have:=h.mem.le1 b;omega
    obtain⟨kx,gx,ws,r1,r2,r3,r4⟩:=aeI (P:=P) d1 c;rw[d3]at r1;obtain⟨z',w',f',c1,⟨k',c2⟩,c3,c4,c5,c6,c7,c8,c9⟩:=Bp (tt:=tt) ab huu hudd J hz G (gx:=gx) (kx:=kx) b3 b1 r1 (λy hy=>(c y hy).1)
     r2 r3 (λb=>by grind) (λb hb=>by grind) E Z
    have hX:=pQ b2 c3 c4 c5 c6 (λb hb=>by grind)
    have aa:=dv hX (.gh d)
    have hn:=cE hX (.gh d)
    have Q:∀b,w.heap.size<=b->∀o,H b o=none:=by
     intro b hb o;cases hc:H b o with
     |none=>rfl
     |some y=>have:=(h1.mem.agree _ _ _ hc).lt;omega
    have af:∀b,tot C (s2.fresh (.gh d)).m b<=tot C s2.m b:=by
     intro b;unfold S.fresh;split
     .omega
     show tot C (aP _ _) b<=_
     rw[bC];exact gL
    have ae:tot C s2.m w.heap.size=0:=by
     rcases alI (tot C s2.m w.heap.size)with h'|h'
     .exact h'
     have:=b2.mem.lt w.heap.size kQ1;omega
    have own:∀b,f' b≠0->b≠w.heap.size->b<w.heap.size/\(∀o,H b o=none)/\(g.own0 b≠0\/g.w0.heap.size<=b):=by grind
    obtain⟨γ',F',O,M⟩:=eE aa (n:=.gh d) rfl hn (v:=z') (t:=.ow r (l++ys)) (f:=f') ⟨k',c2⟩ (λb=>by
      grind)
     (λb hb=>⟨c9 b hb,by grind⟩)
     (λb hb=>by
      by_cases ac:b=w.heap.size
      .right;have:=b2.fr.size;omega
      grind)
    refine⟨_,z',w',H,γ',F',c1,j,RX.put O hd (iE (sub:=r) (l:=l++ys) ?_ M)⟩;simp[ah]
 |_=>grind
end
def fzS:List Sh->List T->Option (List D)
 |[],[]=>some []
 |.fr::a,t::ts=>match fzS a ts with
  |some r=>some (t.fz::r)
  |none=>none
 |.ow _::a,.nil::ts=>match fzS a ts with
  |some r=>some (.li []::r)
  |none=>none
 |_,_=>none
section
variable {P:Program} {g:G} {s:S} {a:Act} {w:World} {H:FH} {γ:Gam} {F:Nm->Fp}
theorem Ey{k:Nat}{m:Mm}:∀{a:List Sh}{ts:List T}{xs:List D}{f:Fp}{vs:List Value},(∀b,f b=0)->fzS a ts=some xs->Ts (TR w H γ m) ts f vs ->
  Cs (OD w H (k+1)) a xs f vs
 |[],[],xs,_,_,hf,hz,_=>by simp only[fzS,akJ]at hz;subst hz;exact hf
 |.fr::a,t::ts,xs,f,vs,hf,hz,h=>by
  simp only[fzS]at hz;cases h5:fzS a ts with
  |none=>grind
  |some r0=>
   rw[h5]at hz;simp only[akJ]at hz;subst hz;obtain⟨v,r,f1,c,h1,h2,h3,h4⟩:=h;refine⟨v,r,f1,c,h1,h2,?_,Ey (λb=>by grind) h5 h4⟩;rw[gr];refine⟨λb=>by grind,?_⟩;cases t with
   |d x=>exact h3.2
   |nil=>obtain⟨_,rfl⟩:=h3;exact oq
   |_=>exact⟨0,trivial⟩
 |.ow sub::a,.nil::ts,xs,f,vs,hf,hz,h=>by
  simp only[fzS]at hz;cases h5:fzS a ts with
  |none=>grind
  |some r0=>
   rw[h5]at hz;simp only[akJ]at hz;subst hz;obtain⟨v,r,f1,c,h1,h2,h3,h4⟩:=h;refine⟨v,r,f1,c,h1,h2,?_,Ey (λb=>by grind) h5 h4⟩;obtain⟨_,rfl⟩:=h3
   grind [im]
 |[],_::_,_,_,_,_,hz,_=>by grind [fzS]
 |.fr::_,[],_,_,_,_,hz,_=>by grind [fzS]
 |.ow _::_,[],_,_,_,_,hz,_=>by grind [fzS]
 |.ow _::_,.d _::_,_,_,_,_,hz,_=>by grind [fzS]
 |.ow _::_,.ow _ _::_,_,_,_,_,hz,_=>by grind [fzS]
 |.ow _::_,.el _ _::_,_,_,_,_,hz,_=>by grind [fzS]
 |.ow _::_,.pl _::_,_,_,_,_,hz,_=>by grind [fzS]
 |.ow _::_,.rf _::_,_,_,_,_,hz,_=>by grind [fzS]
 |.ow _::_,.any::_,_,_,_,_,hz,_=>by grind [fzS]
theorem zn(h:RX g s a w H γ F)(hno:n.isOut=false)(hn:ah s.m n=none){cs:Array Value}{ty':TypeId}{len cap:Nat}(hl:l.length=len)(j:len<=cap)(e:len<=BIG)
  (hx:∀x∈l,x.length=sub.length) (f:cs.size=cap*sub.length) (p:∀k,Cs (OD w H (k+1)) (List.replicate len sub).flatten l.flatten (λ_=>0) cs.toList) :
  ∃γ' F',RX g (s.root n ⟨false,[.ow sub l]⟩) a (w.alloc (.cells cs ty')) H γ' F'/\γ' n=.gh (.slice (some ⟨w.heap.size,0,none⟩) len cap):=by
 obtain⟨hm,hf,q,r⟩:=qV h.mem cs ty' false;simp only[akP,false_and,if_false]at hm hf q r;have B:RX g s a (w.alloc (.cells cs ty')) H γ F:=kl h hm hf (λi=>dK q (λ_ _ _ h=>h) (h.t i)) (λ_=>rfl)
 have hz:tot F s.m w.heap.size=0:=by
  rcases alI (tot F s.m w.heap.size)with h'|h'
  .exact h'
  have:=h.mem.lt w.heap.size kQ1;omega
 have z:∀o,H w.heap.size o=none:=by
  intro o;cases hc:H w.heap.size o with
  |none=>rfl
  |some y=>have:=(h.mem.agree _ _ _ hc).lt;omega
 have d:∀k,Cs (OD (w.alloc (.cells cs ty')) H (k+1)) (List.replicate len sub).flatten l.flatten (λ_=>0) cs.toList:=by intro k;refine lY _ _ _ _ (λs x g v A c=>?_) (p k);exact cZ (λ_ _ _ h=>h) (k+1) (k+1) _ _ _ _ (akK _) (λb hb=>absurd (Nat.le_zero.1 (A b)) hb) c
 subst hl;have c:TR (w.alloc (.cells cs ty')) H γ s.m (.ow sub l) (λb=>0+if b=w.heap.size then 1 else 0) (.slice (some ⟨w.heap.size,0,none⟩) l.length cap):=⟨2,zk (bL) rfl f j e hx (d 0)⟩
 exact eE B hno hn c (λb=>by
   grind [Mem.le1])
  (λb hb=>by simp_all)
  (λb hb=>by
   have u:b=w.heap.size:=by grind
   right;have:=h.fr.size;omega)
def km(P:Program)(s0:S)(t:TypeId)(len:Nat)(sub:List Sh)(ps:Array (Nat×Operand))(d:Tmp)(k:S->Prop):Prop:=
 match(ty P t).k with
 |.sl e=>(ty P e).ok=true/\(zcells P e).isSome=true/\len*(ty P e).size<=16777216/\len<=16777216/\sub.length=(ty P e).size /\
  let s:=(pE s0 (ps.toList.map λx=>ev s0 x.2)).fresh (.gh d)
  match ki (λi=>some (i*(ty P e).size,(ty P e).size)) (List.replicate (len*(ty P e).size) .any) (lC s ps)with
  |some ts=>match fzS (List.replicate len sub).flatten ts with
   |some xs=>k ((s.root (.gh d) ⟨false,[.ow sub (chunk (ty P e).size len xs)]⟩).put (some d) (.one (.c (.rf ⟨.gh d,0,[]⟩))))
   |none=>False
  |none=>False
 |_=>False
theorem yb(h:RX g s a w H γ F){t:TypeId}{len:Nat}{sub:List Sh}{k:S->Prop}(hd:okD g.nt (some d)=true)(hp:(ps.toList.all λx=>aH x.2)=true)(b:km P s t len sub ps d k) :
  ∃s' y w' H' γ' F',(Instr.buildSlice t len (ps.map λ(i,x)=>(i,a.eval x))).run P w=.ok y w'/\k s'/\RX g s' (a.put (some d) y) w' H' γ' F':=by
 unfold km at b;cases hk:(ty P t).k with
 |sl e=>
  rw[hk]at b;obtain⟨A,G,f,R,v,b⟩:=b;obtain⟨_,td,hit,J,u,_⟩:=bh hk (by simp);have:=pJ u
  subst this;obtain⟨c,U,p,_⟩:=jY A;have o:(ty P e).size=c.size:=by omega
  obtain⟨zs,B⟩:=Option.isSome_iff_exists.1 G;obtain⟨C,z,E,hz,_⟩:=kZ B;rw[p]at E;obtain rfl:c=C:=by grind
  obtain⟨H1,F1,h1⟩:=uo (ps.toList.map λx=>ev s x.2) s H F h;have h2:=dv h1 (.gh d)
  have hn:=cE h1 (.gh d)
  dsimp only at b;generalize(pE s (ps.toList.map λx=>ev s x.2)).fresh (.gh d)=s2 at b h2 hn;cases hf:ki (λi=>some (i*(ty P e).size,(ty P e).size)) (List.replicate (len*(ty P e).size) .any) (lC s2 ps)with
  |none=>grind
  |some ts=>
   rw[hf]at b;dsimp only at b;rw[o]at hf b f v;have I:PR w H1 γ s2.m (lC s2 ps) (ps.map λ(i,x)=>(i,a.eval x)).toList:=by rw[Array.toList_map];exact ul (m:=s2.m) h2 hp
   have j:∀us:Array Value,us.size=len*c.size->∃cs,Instr.fill (λi=>some (i*c.size,c.size)) us (ps.map λ(i,x)=>(i,a.eval x)).toList=some cs/\cs.size=ts.length/\Ts (TR w H1 γ s2.m) ts (λ_=>0) cs.toList:=by
    intro us hus;refine yy h2.mem _ _ _ us ts I (by grind) ?_ hf;have:=Mf (w:=w) (H:=H1) (γ:=γ) (m:=s2.m) (vs:=us.toList)
    grind
   have L:ts.length=len*c.size:=by rw[oI hf];simp
   obtain⟨us,cs,u1,O,N⟩:=kf (P:=P) (w:=w) (t:=t) (e:=e) (len:=len) (vs:=ps.map λ(i,x)=>(i,a.eval x)) (cells:=#[]) J p hz kQ1 (λus hus=>by grind)
   obtain⟨D,T,V,c3⟩:=j us u1;rw[O]at T;obtain rfl:cs=D:=by grind
   cases q:fzS (List.replicate len sub).flatten ts with
   |none=>grind
   |some xs=>
    rw[q]at b;dsimp only at b;have K:∀k,Cs (OD w H1 (k+1)) (List.replicate len sub).flatten xs (λ_=>0) cs.toList:=λk=>Ey (λ_=>rfl) q c3
    have M:xs.length=len*c.size:=by
     have h5:=(Cv _ _ _ _ (K 0)).1
     grind [db,al4]
    obtain⟨γ',F',Q,r⟩:=zn h2 (n:=.gh d) rfl hn (cs:=cs) (ty':=e) (len:=len) (cap:=len) (sub:=sub) (l:=chunk c.size len xs) oG (akK _) (by
      show len<=2 ^ 62
      omega) (by grind [wv]) (by grind) (λk=>by grind [s6])
    refine⟨_,_,_,H1,γ',F',N,b,RX.put Q hd (iE (sub:=sub) (l:=chunk c.size len xs) ?_ r)⟩;simp[S.root,ah]
 |_=>grind
end
abbrev upS(k:St->Prop):S->Prop:=λs'=>∃t:St,SEq s' t.toS/\k t
theorem O6{P:Program}(h:zcells P t=some zs):zs.all okT=true:=by grind [zcells]
variable{E:Ut}{u0:TypeId}
section
variable {P:Program} {s:St} {k:St->Prop}
theorem R0(hn:ND s.m)(h:we P s t d k):wd P s.toS t d (upS k):=by
 unfold we at h;split at h
 .rename_i z zs hz;split at h
  .rename_i hd;unfold wd;rw[hz];refine⟨by simp,akR hd,_,?_,h⟩;have e:((s.fresh (o6 t d)).root (o6 t d) ⟨true,(z::zs).map uJ,none⟩).toS=(s.toS.fresh (o6 t d)).root (o6 t d) ⟨true,(z::zs).map sr⟩:=by rw[<- bN hn,<- Qo (O6 hz)];rfl
   rw[<- e];exact aM ((s.fresh (o6 t d)).root (o6 t d) ⟨true,(z::zs).map uJ,none⟩) (some d) (.one (.c (.pl ⟨o6 t d,0,[]⟩)))
  grind
 grind
theorem aa8{x:Operand}(hn:ND s.m)(hx:aH x=true)(h:Sl s x d k):Sk s.toS x d (upS k):=by
 unfold Sl at h;split at h
 .rename_i t ts hc;split at h
  .rename_i hd;simp only[akI]at hd;unfold Sk;rw[<- bN hn,aj hx,s4,hc];refine⟨by simp,?_,akR hd.2,_,?_,h⟩
   .grind [Lu]
   exact aM ((s.fresh (.loc d)).root (.loc d) ⟨true,t::ts,none⟩) (some d) (.one (.c (.pl ⟨.loc d,0,[]⟩)))
  grind
 grind
theorem Qx{t:Tt}{x:El u}(h:BW u t=some x):t.toT.fz=(au u x).toD:=by
 unfold BW at h;split at h
 .split at h
  .simp only[akJ]at h;subst h;rfl
  grind
 .rw[eL h];rfl
 .split at h
  .simp only[akJ]at h;subst h;rfl
  grind
 grind
theorem Jo:∀{us:List U}{ts:List Tt}{x:Fl us},l7 us ts=some x->ts.map (λt=>t.toT.fz)=(fM us x).map C.toD
 |[],[],_,_=>rfl
 |u::r,c::cs,x,h=>by
  simp only[l7]at h;cases h1:BW u c with
  |none=>grind
  |some y=>
   cases h2:l7 r cs with
   |none=>grind
   |some z=>rw[h1,h2]at h;simp only[akJ]at h;subst h;rw[fM,uR,vN,akM,akM,Qx h1,Jo h2]
 |[],_::_,_,h=>by simp[l7]at h
 |_::_,[],_,h=>by simp[l7]at h
theorem acK{x:El u}(h:oE u ts=some x):ts.map (λt=>t.toT.fz)=aw u x:=by
 rw[<- cj];cases u with
 |st n=>
  simp only[oE]at h;cases h1:l7 (sd n).fs ts with
  |none=>grind
  |some y=>
   rw[h1]at h;have:=Option.some.inj h
   subst this;show _=(fM (sd n).fs ((sd n).un ((sd n).mkF y))).map C.toD
   rw[(sd n).l2,Jo h1]
 |_=>
  cases ts with
  |nil=>cases h
  |cons t r=>cases r with
   |nil=>rw[nl rfl];simp only[akM,alN];rw[Qx h]
   |cons _ _=>cases h
theorem oO:∀{rows:List (List Tt)}{l:List (El u)},l8 u rows=some l->rows.map (λr=>r.map λt=>t.toT.fz)=l.map (aw u)
 |[],l,h=>by grind [l8]
 |r::rs,l,h=>by
  simp only[l8]at h;cases h1:oE u r with
  |none=>grind
  |some x=>
   cases h2:l8 u rs with
   |none=>grind
   |some xs=>rw[h1,h2]at h;simp only[akJ]at h;subst h;rw[akM,akM,acK h1,oO h2]
theorem wu{α β:Type}(f:α->β)(size:Nat):∀(n:Nat)(l:List α),chunk size n (l.map f)=(chunk size n l).map (·.map f)
 |0,_=>rfl
 |n+1,l=>by simp only[chunk,akM,amE];rw[<- amQ,wu f size n]
theorem Io(h:(lD s ps).all (λx=>x.2.noRf)=true):(ps.toList.map λx=>evA s x.2).all At.noRf=true:=by grind [lD,List.all_map]
theorem Qt{xs:List (Nat×Operand)}(h:(xs.all λx=>aH x.2)=true):(xs.map λx=>ev s.toS x.2)=(xs.map λx=>evA s x.2).map At.toV:=by grind [ak2,aj]
theorem zC{len:Nat}(b:(ps.toList.all λx=>aH x.2)=true)
  (hn:ND (eJ s (ps.toList.map λx=>evA s x.2)).m) (h:ir P E s t len ps d k):iq P (eJ s (ps.toList.map λx=>evA s x.2)).toS t len ps d (upS k):=by
 unfold ir at h;split at h
 .rename_i e i;split at h
  .rename_i u z q hz;split at h
   .rename_i hc;simp only[akI]at hc;obtain⟨⟨⟨n,g⟩,c3⟩,j⟩:=hc;have f:=akO g
    dsimp only at h;generalize hs1:eJ s (ps.toList.map λx=>evA s x.2)=s1 at h hn;split at h
    .rename_i ts hf hno;split at h
     .rename_i l hl;unfold iq;rw[i];dsimp only;refine⟨n,by grind,by simp_all,akR j,?_⟩;rw[Qt b,oN (Io hno),<- bN hn,wT b,<- f];have a:=rm hf
      rw[List.map_replicate]at a;have e0:Tt.any.toT=T.any:=rfl
      rw[e0]at a;rw[a];refine⟨_,?_,h⟩;have p:(⟨false,[.ow (List.replicate (nc u) .fr) u l],none⟩:Rt).toR=⟨false,[.ow (List.replicate (nc u) .fr) (chunk (nc u) len ((ts.map Tt.toT).map T.fz))]⟩:=by
       have o:chunk (nc u) len ((ts.map Tt.toT).map T.fz)=l.map (aw u):=by rw[alW,wu];exact oO hl
       rw[o];rfl
      rw[<- p];exact aM ((s1.fresh (.gh d)).root (.gh d) ⟨false,[.ow (List.replicate (nc u) .fr) u l],none⟩) (some d) (.one (.c (.rf ⟨.gh d,0,[]⟩)))
     grind
    grind
   grind
  grind
 grind
theorem vL:∀{a:List Sh}{ts:List Tt},qL a ts=true->fzS a (ts.map Tt.toT)=some (ts.map λt=>t.toT.fz)
 |[],[],_=>rfl
 |.fr::r,t::ts,h=>by simp only[akM,fzS];rw[vL (show qL r ts=true from h)]
 |.ow sub::r,t::ts,h=>by
  cases t with
  |nil=>simp only[akM,Tt.toT,fzS];rw[vL (show qL r ts=true from h)];rfl
  |_=>simp[qL]at h
 |[],_::_,h=>by simp[qL]at h
 |.fr::_,[],h=>by simp[qL]at h
 |.ow _::_,[],h=>by simp[qL]at h
theorem yc{len:Nat}(f:(ps.toList.all λx=>aH x.2)=true)
  (hn:ND (eJ s (ps.toList.map λx=>evA s x.2)).m) (h:fZ P E sub s t len ps d k):km P (eJ s (ps.toList.map λx=>evA s x.2)).toS t len sub ps d (upS k):=by
 unfold fZ at h;split at h
 .rename_i e j;split at h
  .rename_i u z r hz;split at h
   .rename_i hc;simp only[akI]at hc;obtain⟨⟨⟨⟨o,i⟩,c3⟩,n⟩,v⟩:=hc;have g:=akO i
    dsimp only at h;generalize hs1:eJ s (ps.toList.map λx=>evA s x.2)=s1 at h hn;split at h
    .rename_i ts hf hno;split at h
     .rename_i l hl b;unfold km;rw[j];dsimp only;refine⟨o,by grind,by simp_all,akR n,by grind [akO],?_⟩;rw[Qt f,oN (Io hno),<- bN hn,wT f,<- g];have a:=rm hf
      rw[List.map_replicate]at a;have e0:Tt.any.toT=T.any:=rfl
      rw[e0]at a;rw[a];dsimp only;rw[vL b];refine⟨_,?_,h⟩;have q:(⟨false,[.ow sub u l],none⟩:Rt).toR=⟨false,[.ow sub (chunk (nc u) len (ts.map λt=>t.toT.fz))]⟩:=by
       have p:chunk (nc u) len (ts.map λt=>t.toT.fz)=l.map (aw u):=by grind [wu,oO]
       rw[p];rfl
      rw[<- q];exact aM ((s1.fresh (.gh d)).root (.gh d) ⟨false,[.ow sub u l],none⟩) (some d) (.one (.c (.rf ⟨.gh d,0,[]⟩)))
     grind
    grind
   grind
  grind
 grind
theorem zj{m:List (Nm×Nat×Rt)}(h:ND m):ND (fp m n i r):=by grind [Du]
theorem Ur(t:Tt):t.toT.owned=t.owned:=by cases t<;>rfl
theorem QY{t:Tt}(h:K2 s p t k)(hn:ND s.m):∃m',(∀K:Mm->Prop,K m'->tM s.toS.m p t.toT K)/\∃s':St,s'.toS=⟨s.toS.t,m'⟩/\ND s'.m/\k s':=by
 unfold K2 at h;split at h
 .grind
 rename_i r hr;split at h
 .rename_i t0 a e hc;split at h
  .have c:r.toR.cells=r.cells.map Tt.toT:=by show holed _ r.hole=_;rw[e];rfl
   refine⟨cY s.toS.m p.root ⟨r.blk,(r.cells.map Tt.toT).set p.off t.toT⟩,λK d=>?_,_,?_,zj hn,h⟩
   .unfold tM;rw[show ah s.toS.m p.root=some r.toR from bz hr];dsimp only;rw[a,c,akN,hc];exact⟨by grind [Ur],d⟩
   refine bT.S_ext rfl ?_;show toM (fp s.m p.root s.nx _)=_
   rw[fV]
   congr 1
   grind [Rt.toR,holed,alB]
  grind
 .rename_i st q sub u l a e hc;split at h
  .rename_i l' hl;have c:r.toR.cells=r.cells.map Tt.toT:=by show holed _ r.hole=_;rw[e];rfl
   refine⟨cY s.toS.m p.root ⟨r.blk,(r.cells.map Tt.toT).set p.off (.ow sub (l'.map (aw u)))⟩,λK d=>?_,_,?_,zj hn,FM h⟩
   .unfold tM;rw[show ah s.toS.m p.root=some r.toR from bz hr];dsimp only;rw[a,c,akN,hc];exact Lj h hl d
   refine bT.S_ext rfl ?_;show toM (fp s.m p.root s.nx _)=_
   rw[fV]
   congr 1
   grind [Rt.toR,holed,alB,Tt.toT]
  grind
 .rename_i st q off g j sub u l a e hc;split at h
  .rename_i sh v n hb;split at h
   .rename_i l' hl;have i:=akO hb
    obtain⟨b,hk⟩:=Df (FM h);have f:p.off < (r.cells.map Tt.toT).length:=by grind
    simp only[List.cons.injEq]at b;obtain⟨rfl,rfl⟩:=b;have c:r.toR.cells=(r.cells.map Tt.toT).set p.off (.ow sub (cC sub (l.map (aw u)) .any (g::j))):=by
     show holed _ r.hole=_
     grind [Jx]
    refine⟨cY s.toS.m p.root ⟨r.blk,(r.cells.map Tt.toT).set p.off (.ow sub (l'.map (aw u)))⟩,λK d=>?_,_,?_,zj hn,hk⟩
    .unfold tM;rw[show ah s.toS.m p.root=some r.toR from bz hr];dsimp only;rw[a,c,ak7 f];refine I7 h hl ?_;rw[amD];exact d
    refine bT.S_ext rfl ?_;show toM (fp s.m p.root s.nx _)=_
    rw[fV]
    congr 1
    simp only[Rt.toR,holed,alB,Tt.toT]
   grind
  grind
 grind
theorem YU(n:Nm)(t:Tt):t.toT.ment n=t.ment n:=by cases t<;>rfl
theorem tV(f:∀t:St,k t->K t.toS):∀{ts:List Tt}{s:St}{p:Pl},ND s.m->kE s p ts k->dS s.toS p (ts.map Tt.toT) K
 |[],s,p,hn,h=>f s h
 |t::ts,s,p,hn,h=>by
  have b:∀t:Tt,(∀q,t≠.rf q)->t≠.any->t≠.d .any->K2 s p t (λs'=>kE s' (p.add 1) ts k)->dS s.toS p (t.toT::ts.map Tt.toT) K:=by
   intro t h1 h2 h3 h;obtain⟨m',hp,s',e,hn',hk⟩:=QY h hn;have key:dS s.toS p (t.toT::ts.map Tt.toT) K=tM s.toS.m p t.toT λm'=>dS ⟨s.toS.t,m'⟩ (p.add 1) (ts.map Tt.toT) K:=by
    cases t with
    |rf q=>grind
    |any=>grind
    |d c=>cases c with
     |any=>grind
     |_=>rfl
    |_=>rfl
   rw[key];refine hp _ ?_;rw[<- e];exact tV f hn' hk
  cases t with
  |rf q=>
   simp only[kE]at h;split at h
   .rename_i sub u l hr;split at h
    .rename_i a g i;simp only[akM,Tt.toT,dS];rw[show ah s.toS.m q.root=some (⟨false,[.ow sub u l],none⟩:Rt).toR from bz hr];refine⟨a,by grind,?_,?_⟩
     .grind [YU]
     rw[<- bT hn];obtain⟨m',hp,s',e,hn',hk⟩:=QY h (P4 hn);refine hp _ ?_;rw[<- e];exact tV f hn' hk
    grind
   grind
  |any=>exact h.elim
  |d c=>cases c with
   |any=>exact h.elim
   |_=>exact b _ (λ_ h=>by cases h) (λh=>by cases h) (λh=>by cases h) h
  |_=>exact b _ (λ_ h=>by cases h) (λh=>by cases h) (λh=>by cases h) h
theorem OB(f:∀t:St,k t->K t.toS)(b:ts≠[])(h:rW s p ts k):dS s.toS p (ts.map Tt.toT) K:=by
 unfold rW at h;split at h
 .grind
 rename_i r hr;split at h
 .rename_i st q sub u l a i hc;split at h
  .rename_i l' hl;have d:r.toR.cells=r.cells.map Tt.toT:=by show holed _ r.hole=_;rw[i];rfl
   obtain⟨g,c⟩:=Eg hl;refine xX (bz hr) a (sub:=sub) (l:=l.map (aw u)) (by rw[d,akN,hc];rfl) c g (Lk b h hl ?_);have hk:=f _ (FM h)
   have e:(⟨s.nx+1,s.t,fp s.m p.root s.nx { r with cells:=r.cells.set p.off (.ow sub u l') }⟩:St).toS=⟨s.toS.t,cY s.toS.m p.root { r.toR with cells:=r.toR.cells.set p.off (.ow sub (l'.map (aw u))) }⟩:=by
    refine bT.S_ext rfl ?_;show toM (fp s.m p.root s.nx _)=_
    rw[fV]
    congr 1
    grind [Rt.toR,holed,alB,Tt.toT]
   grind
  grind
 grind
theorem UX(b:∀t:St,k t->K t.toS)(hn:ND s.m)(h:xg P s t x v k):xf P s.toS t x.toV v.toV K:=by
 unfold xg at h;split at h
 .rename_i p ts hv;split at h
  .rename_i hc;simp only[akI]at hc;unfold xf;rw[s4,hv];refine⟨hc.1.1,by grind [akO],by rw[akT];exact qg hc.2,?_⟩;split at h
   .rename_i a;refine OB b (λe=>?_) h;subst e;simp[afM]at a
   grind [tV]
  grind
 grind
theorem aeH{l:List (El u)}{size:Nat}(hs:nc u=size)(h:ah8 u v=some l):kD size v.toV=some (l.map (aw u))/\v.noRf=true:=by
 unfold ah8 at h;split at h
 .simp only[akJ]at h;subst h;exact⟨rfl,rfl⟩
 .obtain⟨e,rfl⟩:=jM h;subst e;exact⟨rfl,rfl⟩
 .split at h
  .simp only[akJ]at h;subst h;have:size=1:=hs.symm
   simp only[At.toV,A1.toV,Tt.toT,C.toD,kD];rw[if_pos this];exact⟨rfl,rfl⟩
  grind
 grind
theorem IV{m:List (Nm×Nat×Rt)}{t:Tt}(hr:cm m q.root=some r)(hp:q.path=[])(h:atT m q 1=some [t]):r.cells[q.off]? = some t:=by
 unfold atT at h;rw[hr]at h;rw[hp]at h;dsimp only at h;split at h
 .simp only[akJ]at h;have:=congrArg (·[0]?) h
  grind
 grind
theorem m8{s':St}{l:List (El u)}{size:Nat}(hs:nc u=size)(hn:ND s.m)(hop:∀q,v=.one (.c (.rf q))->okP (toM s.m) q)(h:pX s u v=some (s',sub,l)) :
  kg s.toS size v.toV=some (s'.toS,sub,l.map (aw u))/\ND s'.m/\Ext s s':=by
 unfold pX at h;split at h
 .obtain⟨rfl,rfl,rfl⟩:=h;exact⟨by rw[<- hs];rfl,hn,Ext.refl _⟩
 .rename_i q;split at h
  .rename_i d u' l' y;split at h
   .rename_i l2 s2 j t a;simp only[akJ,Prod.mk.injEq]at h;obtain⟨rfl,rfl,rfl⟩:=h;obtain⟨e,rfl⟩:=jM j;subst e;unfold ZT at a;split at a
    .grind
    rename_i r hr;split at a
    .rename_i b o;simp only[akJ]at a;have g:atT s.m q 1=some [.ow d u' l']:=by grind [sliceAt]
     have hc:=IV hr b g
     have f:ah s.toS.m q.root=some r.toR:=bz hr
     have k:r.toR.cells=r.cells.map Tt.toT:=by show holed _ r.hole=_;rw[o];rfl
     have i:bi s.toS.m q=some (.ow d (l'.map (aw u'))):=by unfold bi;rw[f,b];dsimp only;rw[k,akN,hc];rfl
     refine⟨?_,?_,?_⟩
     .simp only[At.toV,A1.toV,Tt.toT,kg];rw[i];dsimp only;rw[if_pos (by grind [akO])]
      congr 2
      rw[<- a];refine bT.S_ext (nG _ _ _).symm ?_;show _=toM (cO (thr q) s.nx (fp s.m q.root s.nx _))
      rw[fh,fV]
      congr 1
      unfold bF;rw[f,b];show cY (toM s.m) q.root _=_
      grind [Rt.toR,holed,alB,Tt.toT]
     .grind [EA,zj]
     rw[<- a];exact⟨alD _,ik (akK _),(dL _ _ (akK _) s.m).trans (eD (akK _))⟩
    .rename_i st z b o;simp only[akJ]at a;have g:atT s.m q 1=some [.ow d u' l']:=by grind [sliceAt]
     have f:ah s.toS.m q.root=some r.toR:=bz hr
     have k:r.toR.cells=r.cells.map Tt.toT:=by show holed _ r.hole=_;rw[o];rfl
     have hq:=hop q rfl
     unfold okP at hq;rw[b]at hq;obtain⟨r2,p,l2,g1,g2,g3⟩:=hq;have n:=Option.some.inj (g1.symm.trans f)
     subst n;unfold atT at g;rw[hr]at g;rw[b]at g;dsimp only at g;split at g
     .rename_i w u0 A _ hc;rw[k,akN,hc]at g2;obtain⟨rfl,rfl⟩:=g2;have x:=As g3 g
      have i:bi s.toS.m q=some (.ow d (l'.map (aw u'))):=by grind [bi,Tt.toT]
      refine⟨?_,?_,?_⟩
      .simp only[At.toV,A1.toV,Tt.toT,kg];rw[i];dsimp only;rw[if_pos (by grind [akO])]
       congr 2
       rw[<- a];refine bT.S_ext (nG _ _ _).symm ?_;show _=toM (cO (thr q) s.nx (fp s.m q.root s.nx _))
       rw[fh,fV]
       congr 1
       unfold bF;rw[f];show cY (toM s.m) q.root _=_
       grind [Rt.toR,Tt.toT,T.toD,Jx]
      .grind [EA,zj]
      rw[<- a];exact⟨alD _,ik (akK _),(dL _ _ (akK _) s.m).trans (eD (akK _))⟩
     grind
    grind
   grind
  grind
 grind
theorem aeB:∀n:Sn,(sd n).fs.all leaf=true:=by intro n;cases n<;>rfl
theorem S1(h:leaf u=true)(x:El u):(au u x).toD.sure=true:=by
 cases u with
 |st n=>cases h
 |_=>rfl
theorem zV:∀{us:List U}(_:us.all leaf=true)(x:Fl us),∀d∈(fM us x).map C.toD,d.sure=true
 |[],_,_,d,hd=>by grind [fM]
 |u::r,h,x,d,hd=>by
  simp only[akW,akI]at h;simp only[fM,akM,akU]at hd;rcases hd with rfl|hd
  .exact S1 h.1 _
  exact zV h.2 _ d hd
theorem IY(x:El u):∀d∈aw u x,d.sure=true:=by
 rw[<- cj];cases u with
 |st n=>exact zV (aeB n) _
 |_=>intro d hd;rw[nl rfl]at hd;simp only[akM,alN,akY]at hd;subst hd;rfl
theorem Ml{x:Operand}(hx:aH x=true)(hy:aH y=true)(hn:ND (ja s (evA s y)).m)(hop:∀q,evA (ja s (evA s y)) x=.one (.c (.rf q))->okP (toM (ja s (evA s y)).m) q)(h:q8 P E s t u0 x y d k):q7 P (ja s (evA s y)).toS t u0 x y d (upS k):=by
 unfold q8 at h;dsimp only at h;split at h
 .rename_i e j;split at h
  .rename_i u z v hz;split at h
   .rename_i hc;simp only[akI]at hc;obtain⟨⟨⟨o,i⟩,c3⟩,n⟩:=hc;have f:=akO n
    split at h
    .rename_i ys s2 sub l g a;split at h
     .rename_i b;obtain⟨⟨h1,h2⟩,h3⟩:=h;obtain⟨k1,k2⟩:=aeH f g;obtain⟨b1,b2,_⟩:=m8 f hn hop a;unfold q7;rw[aj hy,wB k2,j];refine⟨o,i,by grind [akO],?_⟩;rw[aj hy,aj hx,k1,b1];refine⟨b,?_,by grind,by grind,_,?_,h3⟩
      .intro r hr
       grind [ma,IY]
      rw[<- bN b2];have p:(⟨false,[.ow sub u (l++ys)],none⟩:Rt).toR=⟨false,[.ow sub (l.map (aw u)++ys.map (aw u))]⟩:=by rw[<- amC];rfl
      rw[<- p];exact aM ((s2.fresh (.gh d)).root (.gh d) ⟨false,[.ow sub u (l++ys)],none⟩) (some d) (.one (.c (.rf ⟨.gh d,0,[]⟩)))
     grind
    grind
   grind
  grind
 grind
theorem Iq{x:Operand}(hx:aH x=true)(hy:aH y=true)(hn:ND s.m)(j:∀q,evA s y=.one (.c (.rf q))->okP (toM s.m) q)
  (b:∀(size:Nat)(s1:St)(sub:List Sh)(l:List (List D))q,ND s1.m->kg s.toS size (evA s y).toV=some (s1.toS,sub,l)->evA s1 x=.one (.c (.rf q))->okP (toM s1.m) q) (h:mZ P E s t u0 x y d k):uz P s.toS t u0 x y d (upS k):=by
 unfold mZ at h;split at h
 .rename_i e A;split at h
  .rename_i u z G hz;split at h
   .rename_i hc;simp only[akI]at hc;obtain⟨⟨⟨C,w⟩,c3⟩,B⟩:=hc;have f:=akO B
    split at h
    .rename_i s1 i ys g;split at h
     .rename_i s2 sub l n;split at h
      .rename_i a;obtain⟨⟨h1,h2⟩,h3⟩:=h;obtain⟨v,o,_⟩:=m8 f hn j g;obtain⟨b1,b2,_⟩:=m8 f o (λq hq=>b _ s1 _ _ q o v hq) n;unfold uz;rw[A];refine⟨C,w,by grind [akO],?_⟩;rw[aj hy,v];dsimp only;rw[aj hx,b1];have p:i.length=nc u:=by
        unfold pX at g
        all_goals grind [akO]
       refine⟨kX a,?_,by grind,by grind,_,?_,h3⟩
       .intro r hr
        grind [ma,IY]
       rw[<- bN b2];have F:(⟨false,[.ow sub u (l++ys)],none⟩:Rt).toR=⟨false,[.ow sub (l.map (aw u)++ys.map (aw u))]⟩:=by rw[<- amC];rfl
       rw[<- F];exact aM ((s2.fresh (.gh d)).root (.gh d) ⟨false,[.ow sub u (l++ys)],none⟩) (some d) (.one (.c (.rf ⟨.gh d,0,[]⟩)))
      grind
     grind
    grind
   grind
  grind
 grind
end
end Go.Am
end
