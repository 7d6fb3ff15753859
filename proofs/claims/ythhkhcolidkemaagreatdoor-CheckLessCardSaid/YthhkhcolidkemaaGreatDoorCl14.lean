/-
  Part 14: AmIter · AmE3 · AmE3b · AmE3c · AmE3d · AmE20 · AmAppTwo · AmBuildTwo · AmE3e.
-/
import Derived.Test.YthhkhcolidkemaaGreatDoorCl13
import Derived.Shelf.SlIter.Nil
import Derived.Shelf.SortM.Plain
import Derived.Shelf.SortM.SortNone
import Derived.Shelf.SlMaps.Clone
set_option linter.unusedSimpArgs false
set_option linter.unusedVariables false
set_option linter.unusedSectionVars false
set_option linter.unnecessarySimpa false
open Go.Proofs.Tryz
section
namespace Go.Proofs
open Go.RowKit Go.Maps Go.Sort Go.Shelf
def Tryz.keys210_ren:Go.Shelf.Ren:=⟨fun | 7=>210 | 10=>237 | n=>n,fun | 23=>221 | 26=>9 | 3=>4 | 28=>261 | 0=>0 | 27=>260 | 33=>40 | 4=>4 | n=>n,fun | n=>n⟩
theorem Tryz.keys210:Go.Proofs.SlLaysZ.n7 prog Tryz.keys210_ren:={
 mixed:=by kernel_rfl
 f7:=⟨f210.name,by decide,func210.trans (congrArg some (by kernel_rfl))⟩
 f10:=⟨f237.name,by decide,func237.trans (congrArg some (by kernel_rfl))⟩
 t0:=underlying0
 a0:=isAgg0
 z0:=sizeOf0
 v0:=zeroValue0
 t4:=underlying4
 a4:=isAgg4
 z4:=sizeOf4
 v4:=zeroValue4
 t23:=underlying221
 a23:=isAgg221
 z23:=sizeOf221
 v23:=zeroValue221
 t26:=underlying9
 a26:=isAgg9
 z26:=sizeOf9
 v26:=zeroValue9
 t27:=underlying260
 a27:=isAgg260
 z27:=sizeOf260
 v27:=zeroValue260
 t28:=underlying261
 a28:=isAgg261
 z28:=sizeOf261
 v28:=zeroValue261
 t33:=underlying40
 a33:=isAgg40
 z33:=sizeOf40
 v33:=zeroValue40 }
def Tryz.sorted209_ren:Go.Shelf.Ren:=⟨fun | 6=>209 | 8=>235 | 9=>236 | 11=>248 | 13=>250 | 12=>249 | 23=>262 | 24=>263 | 14=>253 | 15=>254 | 16=>255 | 17=>256 | 18=>257 | 19=>258 | 20=>259 | 21=>260 | 22=>261 | 25=>266 | 26=>267 | 27=>268 | 28=>269 | 29=>270 | 30=>271 | 31=>273 | n=>n,fun | 26=>9 | 28=>261 | 24=>45 | 0=>0 | 3=>3 | 37=>280 | 48=>285 | 50=>137 | 4=>4 | 40=>300 | 39=>299 | 45=>156 | 5=>5 | 9=>9 | 51=>308 | 55=>312 | 57=>314 | 58=>315 | 33=>40 | n=>n,fun | n=>n⟩
theorem Tryz.sorted209:Go.Proofs.SlLaysZ.n6 prog Tryz.sorted209_ren:={
 mixed:=by kernel_rfl
 f6:=⟨f209.name,by decide,func209.trans (congrArg some (by kernel_rfl))⟩
 f8:=⟨f235.name,by decide,func235.trans (congrArg some (by kernel_rfl))⟩
 f11:=⟨f248.name,by decide,func248.trans (congrArg some (by kernel_rfl))⟩
 t0:=underlying0
 a0:=isAgg0
 z0:=sizeOf0
 v0:=zeroValue0
 t24:=underlying45
 a24:=isAgg45
 z24:=sizeOf45
 v24:=zeroValue45
 t26:=underlying9
 a26:=isAgg9
 z26:=sizeOf9
 v26:=zeroValue9
 t28:=underlying261
 a28:=isAgg261
 z28:=sizeOf261
 v28:=zeroValue261
 i26:=by kernel_rfl }
def Tryz.sort236_ren:Go.Shelf.Ren:=⟨fun | 6=>236 | 8=>250 | 9=>249 | 19=>262 | 20=>263 | 21=>253 | 22=>254 | 23=>255 | 24=>256 | 25=>257 | 26=>258 | 27=>259 | 28=>260 | 29=>261 | 36=>266 | 31=>267 | 32=>268 | 37=>269 | 38=>270 | 39=>271 | 41=>273 | n=>n,fun | 27=>45 | 29=>9 | 3=>3 | 32=>280 | 26=>45 | 0=>0 | 44=>285 | 46=>137 | 4=>4 | 36=>300 | 35=>299 | 41=>156 | 5=>5 | 9=>9 | 53=>308 | 57=>312 | 63=>314 | 64=>315 | n=>n,fun | n=>n⟩
theorem Tryz.sort236:Go.Proofs.SlLaysM.n6 prog Tryz.sort236_ren:={
 mixed:=by kernel_rfl
 f6:=⟨f236.name,by decide,func236.trans (congrArg some (by kernel_rfl))⟩
 f8:=func250.trans (congrArg some (by kernel_rfl))
 f9:=⟨f249.name,by decide,func249.trans (congrArg some (by kernel_rfl))⟩
 f19:=func262.trans (congrArg some (by kernel_rfl))
 f20:=func263.trans (congrArg some (by kernel_rfl))
 f21:=⟨f253.name,by decide,func253.trans (congrArg some (by kernel_rfl))⟩
 f22:=⟨f254.name,by decide,func254.trans (congrArg some (by kernel_rfl))⟩
 f23:=⟨f255.name,by decide,func255.trans (congrArg some (by kernel_rfl))⟩
 f24:=⟨f256.name,by decide,func256.trans (congrArg some (by kernel_rfl))⟩
 f25:=⟨f257.name,by decide,func257.trans (congrArg some (by kernel_rfl))⟩
 f26:=⟨f258.name,by decide,func258.trans (congrArg some (by kernel_rfl))⟩
 f27:=⟨f259.name,by decide,func259.trans (congrArg some (by kernel_rfl))⟩
 f28:=⟨f260.name,by decide,func260.trans (congrArg some (by kernel_rfl))⟩
 f29:=⟨f261.name,by decide,func261.trans (congrArg some (by kernel_rfl))⟩
 f31:=func267.trans (congrArg some (by kernel_rfl))
 f32:=func268.trans (congrArg some (by kernel_rfl))
 f36:=⟨f266.name,by decide,func266.trans (congrArg some (by kernel_rfl))⟩
 f37:=⟨f269.name,by decide,func269.trans (congrArg some (by kernel_rfl))⟩
 f38:=⟨f270.name,by decide,func270.trans (congrArg some (by kernel_rfl))⟩
 f39:=⟨f271.name,by decide,func271.trans (congrArg some (by kernel_rfl))⟩
 f41:=⟨f273.name,by decide,func273.trans (congrArg some (by kernel_rfl))⟩
 t0:=underlying0
 a0:=isAgg0
 z0:=sizeOf0
 v0:=zeroValue0
 t3:=underlying3
 a3:=isAgg3
 z3:=sizeOf3
 v3:=zeroValue3
 t4:=underlying4
 a4:=isAgg4
 z4:=sizeOf4
 v4:=zeroValue4
 t5:=underlying5
 a5:=isAgg5
 z5:=sizeOf5
 v5:=zeroValue5
 t9:=underlying9
 a9:=isAgg9
 z9:=sizeOf9
 v9:=zeroValue9
 t26:=underlying45
 a26:=isAgg45
 z26:=sizeOf45
 v26:=zeroValue45
 t27:=underlying45
 a27:=isAgg45
 z27:=sizeOf45
 v27:=zeroValue45
 t29:=underlying9
 a29:=isAgg9
 z29:=sizeOf9
 v29:=zeroValue9
 t32:=underlying280
 a32:=isAgg280
 z32:=sizeOf280
 v32:=zeroValue280
 t35:=underlying299
 a35:=isAgg299
 z35:=sizeOf299
 v35:=zeroValue299
 t36:=underlying300
 a36:=isAgg300
 z36:=sizeOf300
 v36:=zeroValue300
 t41:=underlying156
 a41:=isAgg156
 z41:=sizeOf156
 v41:=zeroValue156
 t44:=underlying285
 a44:=isAgg285
 z44:=sizeOf285
 v44:=zeroValue285
 t46:=underlying137
 a46:=isAgg137
 z46:=sizeOf137
 v46:=zeroValue137
 t53:=underlying308
 a53:=isAgg308
 z53:=sizeOf308
 v53:=zeroValue308
 t57:=underlying312
 a57:=isAgg312
 z57:=sizeOf312
 v57:=zeroValue312
 t63:=underlying314
 a63:=isAgg314
 z63:=sizeOf314
 v63:=zeroValue314
 t64:=underlying315
 a64:=isAgg315
 z64:=sizeOf315
 v64:=zeroValue315 }
def Tryz.clone106_ren:Go.Shelf.Ren:=⟨fun | 5=>106 | 7=>173 | n=>n,fun | 23=>118 | 25=>9 | 3=>4 | 4=>4 | 20=>20 | n=>n,fun | n=>n⟩
theorem Tryz.clone106:Go.Proofs.SlLaysW.n5 prog Tryz.clone106_ren:={
 mixed:=by kernel_rfl
 f5:=⟨f106.name,by decide,func106.trans (congrArg some (by kernel_rfl))⟩
 f7:=func173.trans (congrArg some (by kernel_rfl))
 t4:=underlying4
 a4:=isAgg4
 z4:=sizeOf4
 v4:=zeroValue4
 t20:=underlying20
 a20:=isAgg20
 z20:=sizeOf20
 v20:=zeroValue20
 t23:=underlying118
 a23:=isAgg118
 z23:=sizeOf118
 v23:=zeroValue118 }
theorem Tryz.sorts209 (m:Nat):AnyZ.SortsIn prog Tryz.sorted209_ren Fence.wide m:=
 ⟨fun blk off cap ss W hH hblk hsz=>callsIn_wide.2 (AnyM.slices_Sort_string Tryz.sort236 blk off cap ss W hH hblk hsz),
  fun p cap W=>callsIn_wide.2 (AnyM.slices_Sort_string_none Tryz.sort236 p cap W)⟩
theorem Tryz.maps_Keys_210 (mb:Option Nat) (W:World):CallsIn Fence.wide 5 prog 210 #[.map mb] W fun e w'=>e=.returned (.func (.func 237) #[] #[.pointer (some ⟨W.heap.size,0,none⟩)])/\w'=W.alloc (.cells #[.map mb] 221):=
 AnyZ.keys_in Tryz.keys210 Fence.wide 5 trivial rfl mb W
set_option maxHeartbeats 1000000 in
theorem Tryz.slices_Sorted_keys_209_210 {H:Type} (b nn:Nat) (D0:DataW H) (R:Value->Option (DataW H×List MemPlace)) (w:World) (hown:w.ownsMap prog 9 R b nn D0) (hmax:Maps.size D0<=maxLen) (hbytes:Maps.size D0*16<=140737488355328) :
  CallsIn Fence.wide 5 prog 209 #[.func (.func 237) #[] #[.pointer (some ⟨w.heap.size,0,none⟩)]] (w.alloc (.cells #[.map (some b)] 221)) fun e w'=>∃ (v:Value) (ss:List (List UInt8)),e=.returned v/\ss.Perm (strKeys D0) /\
   w'.ownsRow (w.alloc (.cells #[.map (some b)] 221)).heap.size 9 1 v ss.length ((ss.mergeSort (fun x y=>decide (x<=y))).map encStr)/\(v=.slice none 0 0 ↔ ss=[])/\Below (w.alloc (.cells #[.map (some b)] 221)).heap.size (w.alloc (.cells #[.map (some b)] 221)) w':=by
 have hbl:=hown.lt
 have hseq:SeqGives Fence.wide 2 prog 237 #[.pointer (some ⟨w.heap.size,0,none⟩)] encStr (fun ss=>ss.Perm (strKeys D0)) (Maps.size D0) (w.alloc (.cells #[.map (some b)] 221)):=
  AnyZ.keys_gives (ρ:=Tryz.keys210_ren) { Tryz.keys210 with } Fence.wide _ trivial rfl (by omega) w.heap.size b nn D0 _ (by simp) (by simp) (by
   obtain ⟨es,clock,hb,Ft,hs,hD⟩:=hown;exact ⟨es,clock,(Below.heap_alloc _ _ b hbl).trans hb,Ft,hs,hD⟩)
 exact AnyZ.sorted_in Tryz.sorted209 Fence.wide 5 trivial trivial trivial trivial rfl (by omega) (Tryz.sorts209 _) (enters_of func236 (by kernel_rfl) rfl) 237 #[.pointer (some ⟨w.heap.size,0,none⟩)] trivial (enters_of func237 (by kernel_rfl) rfl) _ _ hmax hbytes _ hseq
end Go.Proofs
end

section
namespace Go.Am
theorem MJ (c:C):(sct c).toV=sc c.toD:=rfl
theorem xe {n:Int} (h:0<=n/\n < 256):(((UInt8.ofNat n.toNat).toNat:Nat):Int)=n:=by
 have:n.toNat < 256:=by omega
 simp only [UInt8.toNat_ofNat',Nat.reducePow];omega
theorem TS (x:UInt8):0<=((x.toNat:Nat):Int)/\((x.toNat:Nat):Int) < 256:=by
 have:=x.toNat_lt
 omega
theorem CB {k:IntKind} {n:Int} (h:k=.u8->0<=n/\n < 256):(mkC k n).toD=.int k n:=by
 cases k with
 | u8=>show D.int .u8 _=_; rw [xe (h rfl)]
 | _=>rfl
theorem Yb (n:Int):0<=IntKind.u8.wrap n/\IntKind.u8.wrap n < 256:=by
 have:=wf_wrap (k:=.u8) n
 simp only [Lit.wf,YV,decide_eq_true_eq] at this;have h1:IntKind.u8.min=0:=by decide
 have h2:IntKind.u8.max=255:=by decide
 rw [h1,h2] at this;omega
theorem di {k:IntKind} {n:Int}:(mkC k (k.wrap n)).toD=.int k (k.wrap n):=CB fun h=>by subst h; exact Yb n
theorem gp {c:C} {k:IntKind} {n:Int} (h:jI c=some (k,n)):c.toD=.int k n/\(k=.u8->0<=n/\n < 256):=by
 unfold jI at h;split at h
 ·rename_i k' n';cases k' <;> simp only [YT,Prod.mk.injEq,reduceCtorEq] at h <;> (obtain ⟨rfl,rfl⟩:=h; exact ⟨rfl,fun h=>by cases h⟩)
 ·rename_i x;simp only [YT,Prod.mk.injEq] at h;obtain ⟨rfl,rfl⟩:=h;exact ⟨rfl,fun _=>TS x⟩
 ·cases h
theorem Rm {k:Nat} {row:List D} (h:pA k=some row):row=gw.map D.str:=by
 unfold pA at h;split at h
 ·first | (cases h; done) | (simp only [YT] at h; exact h.symm)
 ·cases h
theorem tD {v:Value} (h:okT v=true):(nK v).toT=pj v:=by
 cases v with
 | int k n=>
  simp only [nK,pj];cases k with
  | u8=>
   simp only [okT,Lit.wf,YV,decide_eq_true_eq] at h;have h1:IntKind.u8.min=0:=by decide
   have h2:IntKind.u8.max=255:=by decide
   rw [h1,h2] at h;have h':0<=n/\n < 256:=by omega
   simp only [h',and_self,if_true,Tt.toT,C.toD,xe h']
  | _=>rfl
 | slice a l c=>cases a with
  | none=>match l,c with
   | 0,0=>rfl
   | 0,_+1=>rfl
   | _+1,_=>rfl
  | some _=>rfl
 | pointer p=>cases p <;> rfl
 | map p=>cases p <;> rfl
 | _=>rfl
theorem ac {s:St} {x:Operand} (h:au x=true):ev s.toS x=(evA s x).toV:=by
 cases x with
 | tmp t=>exact bZ t s.t
 | const v=>
  simp only [au] at h;cases v with
  | agg cs=>
   simp only [ev,evA,cst,WK,At.toV,A1.toV]
   congr 2
   rw [Y9];refine Zc fun x hx=>?_
   simp only [okC] at h;exact (tD (Array.all_eq_true_iff_forall_mem.1 h x (by simpa using hx))).symm
  | _=>
   simp only [ev,evA,cst,WK,At.toV,A1.toV];rw [tD (by simpa [okC] using h)]
 | func f=>rfl
 | global g=>
  simp only [au] at h;simp only [ev,evA,VZ];cases hg:pA g with
  | none=>rw [hg] at h; cases h
  | some row=>
   simp only [At.toV,A1.toV,Tt.toT,Rm hg];rfl
section
variable {k:At->Prop}
abbrev up (k:At->Prop):AV->Prop:=fun v=>∃ v',v=v'.toV/\k v'
theorem KV {c:C} {d:D} (h:k (sct c)) (e:c.toD=d):up k (sc d):=⟨sct c,by rw [MJ,e],h⟩
theorem Sm {c x y:At} (h:uN c x y k):Gq c.toV x.toV y.toV (up k):=by
 unfold uN at h;split at h
 ·rename_i b;cases b
  ·rw [if_neg (by simp)] at h; exact ⟨y,rfl,h⟩
  ·rw [if_pos rfl] at h; exact ⟨x,rfl,h⟩
 ·exact h.elim
theorem X5 {a b:Int} (ha:0<=a/\a < 256):0<=a.tmod b/\a.tmod b < 256:=by
 refine ⟨Int.tmod_nonneg _ ha.1,?_⟩;rcases Int.lt_or_le b 0 with h | h
 ·rw [<- Int.tmod_neg];rcases Int.lt_or_le a (-b) with h' | h'
  ·rw [Int.tmod_eq_of_lt ha.1 h']; exact ha.2
  ·have:=Int.tmod_lt_of_pos a (show 0 < -b by omega); omega
 ·rcases Int.lt_or_le a b with h' | h'
  ·rw [Int.tmod_eq_of_lt ha.1 h']; exact ha.2
  ·rcases Int.lt_or_eq_of_le h with h'' | h''
   ·have:=Int.tmod_lt_of_pos a h''; omega
   ·subst h''; rw [Int.tmod_zero]; exact ha.2
theorem XR {a:Int} {m:Nat} (ha:0<=a/\a < 256):0<=a.fdiv (2 ^ m)/\a.fdiv (2 ^ m) < 256:=by
 have hp:(0:Int) < 2 ^ m:=Int.pow_pos (by decide)
 rw [Int.fdiv_eq_ediv_of_nonneg _ (by omega)];refine ⟨Int.ediv_nonneg ha.1 (by omega),?_⟩;have:=Int.ediv_le_self (2 ^ m) ha.1
 omega
theorem TJ {op:BinOp} {x y:C} {K:C->Prop} (h:yY op x y K):tg op x.toD y.toD (fun d=>∃ c:C,c.toD=d/\K c):=by
 unfold yY at h;split at h
 ·rename_i a b;cases op <;> first | exact h.elim | exact ⟨_,rfl,h⟩ | exact ⟨h.1,_,rfl,h.2⟩
 ·split at h
  ·rename_i k a k' b hx hy;obtain ⟨ex,rx⟩:=gp hx;obtain ⟨ey,ry⟩:=gp hy;rw [ex,ey];split at h
   ·rename_i hk;unfold Kf at h;cases op <;> simp only [WS,Y4,false_or,true_or] at hk <;> simp only [tg]
    case add=>exact ⟨hk,_,di,h⟩
    case sub=>exact ⟨hk,_,di,h⟩
    case mul=>exact ⟨hk,_,di,h⟩
    case quo=>exact ⟨hk,h.1,_,di,h.2⟩
    case rem=>exact ⟨hk,h.1,_,CB fun e=>X5 (rx e),h.2⟩
    case and=>exact ⟨hk,_,di,h⟩
    case or=>exact ⟨hk,_,di,h⟩
    case xor=>exact ⟨hk,_,di,h⟩
    case andNot=>exact ⟨hk,_,di,h⟩
    case shl=>exact ⟨h.1,_,di,h.2⟩
    case shr=>exact ⟨h.1,_,CB fun e=>XR (rx e),h.2⟩
    case eql=>exact ⟨hk,_,rfl,h⟩
    case neq=>exact ⟨hk,_,rfl,h⟩
    case lss=>exact ⟨hk,_,rfl,h⟩
    case leq=>exact ⟨hk,_,rfl,h⟩
    case gtr=>exact ⟨hk,_,rfl,h⟩
    case geq=>exact ⟨hk,_,rfl,h⟩
   ·exact h.elim
  ·exact h.elim
theorem Ja {op:BinOp} {x y:D} {K K':D->Prop} (hk:∀ d,K d->K' d) (h:tg op x y K):tg op x y K':=by
 cases x <;> cases y <;> try exact h.elim
 ·cases op <;> simp only [tg] at h ⊢ <;> first | exact ⟨h.1,h.2.1,hk _ h.2.2⟩ | exact ⟨h.1,hk _ h.2⟩
 ·cases op <;> simp only [tg] at h ⊢ <;> first | exact ⟨h.1,hk _ h.2⟩ | exact hk _ h | exact h.elim
theorem WM {ck:CK} {x y:C} {b:Bool} (h:eqC ck x y=some b):eqD ck x.toD y.toD=some b:=by
 unfold eqC at h;cases ck with
 | i=>
  dsimp only at h;split at h
  ·rename_i k a k' b' hx hy;rw [(gp hx).1,(gp hy).1]; exact h
  ·cases h
 | s=>
  dsimp only at h;split at h
  ·exact h
  ·cases h
 | b=>
  dsimp only at h;split at h
  ·exact h
  ·cases h
theorem B9:∀ {l:List (Nat×CK)} {xs ys:List C} {b:Bool},N2 l xs ys=some b->gX l (xs.map C.toD) (ys.map C.toD)=some b
 | [],_,_,_,h=>h
 | (o,ck)::l,xs,ys,b,h=>by
  unfold N2 at h;unfold gX;rw [YW,YW];cases hx:xs[o]? with
  | none=>rw [hx] at h; cases h
  | some x=>
   cases hy:ys[o]? with
   | none=>rw [hx,hy] at h; cases h
   | some y=>
    rw [hx,hy] at h;dsimp only [Option.map_some] at h ⊢;cases he:eqC ck x y with
    | none=>rw [he] at h; cases h
    | some c=>
     rw [he] at h;rw [WM he];cases l with
     | nil=>exact h
     | cons z l=>
      dsimp only at h ⊢;cases hr:N2 (z::l) xs ys with
      | none=>rw [hr] at h; cases h
      | some r=>rw [hr] at h; rw [B9 hr]; exact h
theorem Qh (t:Tt) (h:TD t.toT≠.any\/True):(TC t).toD=TD t.toT:=by
 cases t <;> rfl
theorem Wq {op:BinOp} {x y:C} {K:C->Prop} (h:yY op x y K):(∃ b,y=.s b)\/∃ k n,jI y=some (k,n):=by
 unfold yY at h;split at h
 ·exact .inl ⟨_,rfl⟩
 ·split at h
  ·rename_i h2; exact .inr ⟨_,_,h2⟩
  ·exact h.elim
theorem TN {P:Program} {op:BinOp} {t:TypeId} {x y:At} (h:EA P op t x y k):Jb P op t x.toV y.toV (up k):=by
 unfold EA at h;split at h
 ·rename_i a b;split at h
  ·rename_i ht;refine ⟨ht,?_⟩;cases op <;> first | exact h.elim | exact ⟨_,rfl,h⟩
  ·exact h.elim
 ·rename_i q;split at h
  ·rename_i kt et z ht hz;have e:WX q.toD=some z:=by
    unfold WW at hz;split at hz
    ·rename_i ku vu z'; rw [<- hz]; cases z' <;> rfl
    ·rw [<- hz]; rfl
    ·cases hz
   have key:WY P op t q.toD (up k):=⟨⟨_,_,ht⟩,by
    rw [e];cases op <;> first | exact h.elim | exact ⟨_,rfl,h⟩⟩
   cases q <;> exact key
  ·exact h.elim
 ·rename_i a b hne hne2;have h':=TJ h
  have key:tg op a.toD b.toD (fun d=>up k (sc d)):=by
   refine Ja ?_ h';rintro d ⟨c,rfl,hc⟩
   exact ⟨sct c,rfl,hc⟩
  rcases Wq h with ⟨b',rfl⟩ | ⟨κ,n,hb⟩
  ·cases a with
   | mp ku vu l=>exact h.elim
   | _=>exact key
  ·cases b with
   | i k n=>cases a with
    | mp ku vu l=>exact h.elim
    | _=>exact key
   | b x=>cases a with
    | mp ku vu l=>exact h.elim
    | _=>exact key
   | _=>cases hb
 ·rename_i xs ys;split at h
  ·rename_i l hl;have e1:(xs.map Tt.toT).map TD=(xs.map TC).map C.toD:=by
    rw [Y9,Y9]; exact Zc fun t _=>(Qh t (.inr trivial)).symm
   have e2:(ys.map Tt.toT).map TD=(ys.map TC).map C.toD:=by
    rw [Y9,Y9]; exact Zc fun t _=>(Qh t (.inr trivial)).symm
   simp only [At.toV,A1.toV,Jb];rw [hl,e1,e2];dsimp only;split at h
   ·rename_i b hb;rw [B9 hb]; exact ⟨_,rfl,h⟩
   ·rename_i b hb;rw [B9 hb]; exact ⟨_,rfl,h⟩
   ·exact h.elim
  ·exact h.elim
 ·exact h.elim
theorem Xg {op:UnOp} {x:At} (h:unT op x k):unK op x.toV (up k):=by
 unfold unT at h;split at h
 ·exact ⟨_,rfl,h⟩
 ·rename_i c;split at h
  ·rename_i κ n hc;simp only [At.toV,A1.toV,Tt.toT,(gp hc).1];exact KV h di
  ·exact h.elim
 ·rename_i c;split at h
  ·rename_i κ n hc;simp only [At.toV,A1.toV,Tt.toT,(gp hc).1];exact KV h di
  ·exact h.elim
 ·exact h.elim
theorem EX {x:At} {i:Nat} (h:gY x i k):jC x.toV i (up k):=by
 unfold gY at h;split at h
 ·rename_i vs;split at h
  ·rename_i v hv;simp only [At.toV,jC,YW,hv,Option.map_some];exact ⟨.one v,rfl,h⟩
  ·exact h.elim
 ·exact h.elim
theorem O2 {x i:At} (h:om x i k):uf x.toV i.toV (up k):=by
 unfold om at h;split at h
 ·rename_i l κ n;obtain ⟨⟨h1,h2⟩,h3⟩:=h;simp only [At.toV,A1.toV,Tt.toT,C.toD,uf];refine ⟨h1,?_⟩;rw [YU h2];dsimp only;refine ⟨_,?_,h3⟩;rw [MJ];simp only [C.toD];rw [List.getD,YU h2]; rfl
 ·exact h.elim
theorem CF {x:At} (h:fo x k):lN x.toV (up k):=by
 unfold fo at h;split at h
 ·exact ⟨_,rfl,h⟩
 ·exact ⟨_,rfl,h⟩
 ·exact ⟨_,rfl,h⟩
 ·exact h.elim
theorem N5 {P:Program} {t:TypeId} {x:At} {i:Nat} (h:nM P t x i k):tF P t x.toV i (up k):=by
 unfold nM at h;split at h
 ·rename_i fs ts hk;simp only [At.toV,A1.toV,tF];rw [hk];dsimp only;cases hf:fs[i]? with
  | none=>rw [hf] at h; exact h.elim
  | some f=>
   obtain ⟨off,size,ag⟩:=f;rw [hf] at h
   match ag,h with
   | some false,h=>
    dsimp only at h ⊢;rw [YW];cases ht:ts[off]? with
    | none=>rw [ht] at h; exact h.elim
    | some t'=>rw [ht] at h; exact ⟨_,rfl,h⟩
   | some true,h=>
    dsimp only at h ⊢;split at h
    ·rename_i hb;refine ⟨by rw [YX]; exact YZ hb,.one (.agg ((ts.drop off).take size)),?_,h⟩;simp only [At.toV,A1.toV,aaG,aaR]
    ·exact h.elim
   | none,h=>exact h.elim
 ·exact h.elim
theorem Q9 {P:Program} {su du:TypeId} {x:At} (h:uE P su du x k):rG P su du x.toV (up k):=by
 unfold uE at h;split at h
 ·rename_i κ0 κ h1 h2;split at h
  ·rename_i c;split at h
   ·rename_i κ1 n hc;simp only [At.toV,A1.toV,Tt.toT,(gp hc).1,rG,h1,h2];exact KV h di
   ·exact h.elim
  ·exact h.elim
 ·rename_i e h1 h2;split at h
  ·rename_i h3;split at h
   ·rename_i l;simp only [At.toV,A1.toV,Tt.toT,C.toD,rG,h1,h2];refine ⟨h3,?_⟩;have:∀ l:List UInt8,nL (l.map (ak .b8))=some l:=by
     intro l;induction l with
     | nil=>rfl
     | cons a l ih=>
      simp only [List.map_cons,ak,nL];have ih':nL (l.map (ak .b8))=some l:=ih
      simp only [ak] at ih'
      first
       | rw [ih']
       | (show (nL (l.map (ak .b8))).map _=_; rw [ih])
      simp
    rw [this l];exact ⟨_,rfl,h⟩
   ·simp only [At.toV,A1.toV,Tt.toT,rG,h1,h2];exact ⟨h3,_,rfl,h⟩
   ·exact h.elim
  ·exact h.elim
 ·exact h.elim
end
theorem GQ (t:Tt):t.toT.sure=t.sure:=by
 cases t with
 | d c=>cases c <;> rfl
 | _=>rfl
def RH (t:Tt) (t':T):Prop:=t'=t.toT\/∃ sh u l,∃ l':List (List D),t=.ow sh u l/\t'=.ow sh l'/\l'.length=l.length
structure HL (ts:List Tt) (ts':List T):Prop where
 len:ts'.length=ts.length
 nth:∀ (i:Nat) (t:Tt) (t':T),ts[i]? = some t->ts'[i]? = some t'->RH t t'
theorem s4 (ts:List Tt):HL ts (ts.map Tt.toT):=by
 refine ⟨by simp,fun i t t' h h'=>?_⟩;rw [YW,h] at h';exact .inl (Option.some.inj h').symm
theorem HL.drop {ts:List Tt} {ts':List T} (h:HL ts ts') (n:Nat):HL (ts.drop n) (ts'.drop n):=
 ⟨by simp [h.len],fun i t t' h1 h2=>by rw [Zp] at h1 h2; exact h.nth _ t t' h1 h2⟩
theorem HL.take {ts:List Tt} {ts':List T} (h:HL ts ts') (n:Nat):HL (ts.take n) (ts'.take n):=
 ⟨by simp [h.len],fun i t t' h1 h2=>by
  rw [List.getElem?_take] at h1 h2;split at h1
  ·rename_i hi; rw [if_pos hi] at h2; exact h.nth _ t t' h1 h2
  ·cases h1⟩
theorem kz:∀ (q:List Step) (sub:List Sh) (l:List (List D)) (x:D),(bx sub l x q).length=l.length
 | [],_,_,_=>rfl
 | [st],_,_,_=>by simp [bx]
 | st::st'::r,sub,l,x=>by
  simp only [bx];split
  ·simp
  ·rfl
theorem wx (cells:List Tt) (hole:Option (Nat×Step×List Step)):HL cells (holed (cells.map Tt.toT) hole):=by
 cases hole with
 | none=>exact s4 cells
 | some h=>
  obtain ⟨off,st,q⟩:=h;simp only [holed];split
  ·rename_i sub l hc;refine ⟨by simp,fun i t t' h1 h2=>?_⟩;by_cases hi:off=i
   ·subst hi;rw [YW,h1] at hc;have hc':=Option.some.inj hc
    have hlt:off < (cells.map Tt.toT).length:=by
     have:=(Zr.1 h1).1
     simpa using this
    rw [Zh hlt] at h2;have h2':=Option.some.inj h2
    cases t with
    | ow sh u l0=>
     simp only [Tt.toT,T.ow.injEq] at hc';obtain ⟨rfl,rfl⟩:=hc';exact .inr ⟨_,_,_,_,rfl,h2'.symm,by rw [kz]; simp⟩
    | _=>simp [Tt.toT] at hc'
   ·rw [Zd hi] at h2;exact (s4 cells).nth i t t' h1 h2
  ·exact s4 cells
theorem P1 {t:Tt} {t':T} (h:RH t t') (q:Pl):zA q t'=(Gv q t).toT:=by
 rcases h with rfl | ⟨sh,u,l,l',rfl,rfl,_⟩
 ·cases t <;> rfl
 ·rfl
theorem Tl {ts:List Tt} {ts':List T} (h:HL ts ts') (p:Pl):sb p ts'=(ym p ts).map Tt.toT:=by
 refine ZQ fun i=>?_
 simp only [sb,ym,YW,List.getElem?_zipIdx,ZI,Option.map_map];cases h1:ts[i]? with
 | none=>
  have:ts'[i]? = none:=by rw [List.getElem?_eq_none_iff] at h1 ⊢; rw [h.len]; exact h1
  rw [this]; rfl
 | some t=>
  have hlt:i<ts'.length:=by rw [h.len]; exact (Zr.1 h1).1
  rw [YU hlt];simp only [Option.map_some,Function.comp,YT];exact P1 (h.nth i t _ h1 (YU hlt)) _
theorem g9 {u:U} (l:List (El u)) {i:Nat} (h:i<l.length):(l.map (ak u)).getD i []=ak u (l.getD i (dflt u)):=by
 rw [List.getD,List.getD,YW,YU h]; rfl
theorem iS {u:U} (l:List (El u)) {i:Nat} (h:i<l.length):(l.map (ak u))[i]? = some (ak u (l.getD i (dflt u))):=by
 rw [List.getD,YW,YU h]; rfl
def RT (s:Sh) (c:C):Tt:=match s,c with
 | Sh.fr,x=>Tt.d x
 | Sh.ow s,C.li u' l'=>Tt.ow s u' l'
 | _,_=>Tt.any
theorem RU (s:Sh) (c:C):mkT s c.toD=(RT s c).toT:=by
 cases s with
 | fr=>rfl
 | ow s=>cases c <;> rfl
theorem vK:∀ (s:List Sh) (c:List C),List.zipWith mkT s (c.map C.toD)=(List.zipWith RT s c).map Tt.toT
 | [],_=>by simp
 | _::_,[]=>by simp
 | s::ss,c::cs=>by simp only [List.map_cons,List.zipWith_cons_cons,RU,vK ss cs]
theorem Jy:∀ {path:List Step} {sub:List Sh} {u:U} {l:List (El u)} {n:Nat} {ts:List Tt} {K:List T->Prop},okO sub (l.map (ak u)) path->inT sub u l n path=some ts->K (ts.map Tt.toT)->inK sub (l.map (ak u)) n path K
 | [],_,_,_,_,_,_,h,_,_=>h.elim
 | [st],sub,u,l,n,ts,K,h,ht,hK=>by
  obtain ⟨h1,h2,h3⟩:=h;rw [YX] at h1;simp only [inT] at ht;split at ht
  ·rename_i hb;simp only [YT] at ht;refine ⟨YZ hb,?_⟩;rw [iS l h1];dsimp only;rw [<- bh,<- aaR,<- aaG,vK];subst ht;exact hK
  ·cases ht
 | st::st'::r,sub,u,l,n,ts,K,h,ht,hK=>by
  obtain ⟨⟨h1,h2,h3⟩,h4⟩:=h;rw [YX] at h1;simp only [inT] at ht;split at ht
  ·rename_i s u' l' e1 e2;simp only [inK];rw [iS l h1];dsimp only;have e3:(ak u (l.getD st.idx (dflt u)))[st.off]? = some (.li (l'.map (ak u'))):=by
    rw [<- bh,YW,e2]; rfl
   rw [e1,e3];dsimp only;rw [e1,g9 l h1,List.getD,e3] at h4;exact Jy h4 ht hK
  ·cases ht
def okP (m:Mm) (p:Pl):Prop:=match p.path with
 | []=>True
 | st::q=>∃ r sub l,aa m p.root=some r/\r.cells[p.off]? = some (.ow sub l)/\okO sub l (st::q)
theorem Kj {m:Mm} {p:Pl} (h:bu m p):okP m p:=by
 unfold okP;split
 ·trivial
 ·rename_i st q hp;unfold bu at h;split at h
  ·exact h.elim
  ·rename_i r hr;rw [hp] at h;dsimp only at h;split at h
   ·rename_i sub l hc; exact ⟨r,sub,l,hr,hc,h⟩
   ·exact h.elim
theorem nV {m:Mm} {p:Pl} (h:fy m p):okP m p:=by
 unfold okP;split
 ·trivial
 ·rename_i st q hp;unfold fy at h;split at h
  ·exact h.elim
  ·rename_i r hr;rw [hp] at h;split at h
   ·simp_all
   ·simp_all
   ·simp_all
   ·rename_i sub l st' q' hc he;simp only [List.cons.injEq] at he;obtain ⟨rfl,rfl⟩:=he;exact ⟨r,sub,l,hr,hc,h.1⟩
   ·exact h.elim
theorem aM {m:List (Nm×Nat×Rt)} {n:Nm} {r:Rt} (h:aY m n=some r):aa (toM m) n=some r.toR:=by rw [rK,h]; rfl
theorem MO {ss:List Sh} {xs:List D} {i:Nat} {t:T} (h:(List.zipWith mkT ss xs)[i]? = some t):∃ s x,ss[i]? = some s/\xs[i]? = some x/\t=mkT s x:=by
 rw [List.getElem?_zipWith] at h;cases h1:ss[i]? with
 | none=>rw [h1] at h; simp at h
 | some s=>cases h2:xs[i]? with
  | none=>rw [h1,h2] at h; simp at h
  | some x=>rw [h1,h2] at h; exact ⟨s,x,rfl,rfl,(Option.some.inj h).symm⟩
theorem Ro:∀ {path hp:List Step} {sub:List Sh} {u:U} {l:List (El u)} {n:Nat} {ts:List Tt} {K:List T->Prop},path.length<hp.length->okO sub (bx sub (l.map (ak u)) .any hp) path->inT sub u l n path=some ts->(∀ ts',HL ts ts'->K ts')->inK sub (bx sub (l.map (ak u)) .any hp) n path K
 | [],_,_,_,_,_,_,_,_,h,_,_=>h.elim
 | _::_,[],_,_,_,_,_,_,hlt,_,_,_=>by simp at hlt
 | [_],[_],_,_,_,_,_,_,hlt,_,_,_=>by simp at hlt
 | _::_::_,[_],_,_,_,_,_,_,hlt,_,_,_=>by simp at hlt
 | [st],h::h'::hr,sub,u,l,n,ts,K,hlt,hok,ht,hK=>by
  have hlen:(bx sub (l.map (ak u)) .any (h::h'::hr)).length=l.length:=by rw [kz,YX]
  have hok1:=hok.1
  rw [hlen] at hok1;simp only [inT] at ht;split at ht
  ·rename_i hb;simp only [YT] at ht;refine ⟨YZ hb,?_⟩;have base:((l.map (ak u))[st.idx]?)=some (ak u (l.getD st.idx (dflt u))):=iS l hok1
   have key:∀ x,(bx sub (l.map (ak u)) .any (h::h'::hr))[st.idx]? = some x->(x=ak u (l.getD st.idx (dflt u))\/∃ s l1,sub[h.off]? = some (.ow s)/\(ak u (l.getD st.idx (dflt u)))[h.off]? = some (.li l1)/\x=(ak u (l.getD st.idx (dflt u))).set h.off (.li (bx s l1 .any (h'::hr)))):=by
    intro x hx;simp only [bx] at hx;split at hx
    ·rename_i s l1 e1 e2;rw [ZJ] at hx;split at hx
     ·rename_i ei;split at hx
      ·have hx':=Option.some.inj hx
       rw [ei,g9 l hok1] at e2 hx';refine .inr ⟨s,l1,e1,?_,hx'.symm⟩;rw [List.getD] at e2;cases h3:(ak u (l.getD st.idx (dflt u)))[h.off]? with
       | none=>rw [h3] at e2; cases e2
       | some d=>rw [h3] at e2; simp only [Zs] at e2; rw [e2]
      ·cases hx
     ·rw [base] at hx; exact .inl (Option.some.inj hx).symm
    ·rw [base] at hx; exact .inl (Option.some.inj hx).symm
   have hlt2:st.idx < (bx sub (l.map (ak u)) .any (h::h'::hr)).length:=by rw [hlen]; exact hok1
   rw [YU hlt2];dsimp only;rcases key _ (YU hlt2) with e | ⟨s,l1,e1,e2,e⟩
   ·rw [e,<- bh,<- aaR,<- aaG,vK];subst ht;exact hK _ (s4 _)
   ·rw [e];refine hK _ ?_;subst ht;have hbase:List.zipWith mkT ((sub.drop st.off).take n) (((ak u (l.getD st.idx (dflt u))).drop st.off).take n)=(List.zipWith RT ((sub.drop st.off).take n) (((flat u (l.getD st.idx (dflt u))).drop st.off).take n)).map Tt.toT:=by
     rw [<- bh,<- aaR,<- aaG,vK]
    refine ⟨?_,fun i t t' a1 a2=>?_⟩
    ·have hl:=congrArg List.length hbase
     simp only [YX] at hl;have hx:∀ ys:List D,(List.zipWith mkT ((sub.drop st.off).take n) ((ys.drop st.off).take n)).length=min (min n (sub.length-st.off)) (min n (ys.length-st.off)):=by
      intro ys; simp
     refine Eq.trans ?_ hl;rw [hx,hx,List.length_set]
    ·obtain ⟨s0,x0,b1,b2,b3⟩:=MO a2;have a1':((List.zipWith RT ((sub.drop st.off).take n) (((flat u (l.getD st.idx (dflt u))).drop st.off).take n)).map Tt.toT)[i]? = some t.toT:=by
      rw [YW];have:(List.zipWith RT ((sub.drop st.off).take n) (((flat u (l.getD st.idx (dflt u))).drop st.off).take n))[i]? = some t:=a1
      rw [this]; rfl
     rw [<- hbase] at a1';obtain ⟨s1,x1,c1,c2,c3⟩:=MO a1';rw [b1] at c1;obtain rfl:=Option.some.inj c1;rw [List.getElem?_take] at b1 b2 c2;split at b2
     ·rename_i hin;rw [if_pos hin] at b1 c2;rw [Zp] at b1 b2 c2;rw [ZJ] at b2;split at b2
      ·rename_i eo;rw [<- eo] at b1 c2;rw [e1] at b1;obtain rfl:=Option.some.inj b1;rw [e2] at c2;obtain rfl:=Option.some.inj c2;split at b2
       ·obtain rfl:=Option.some.inj b2;rw [b3];cases t with
        | ow sh2 u2 l2=>
         simp only [mkT,Tt.toT,T.ow.injEq] at c3;obtain ⟨rfl,e5⟩:=c3;refine .inr ⟨_,_,_,_,rfl,rfl,?_⟩;rw [kz,<- e5,YX]
        | _=>simp [mkT,Tt.toT] at c3
       ·cases b2
      ·rw [b2] at c2;obtain rfl:=Option.some.inj c2;rw [b3,<- c3]; exact .inl rfl
     ·cases b2
  ·cases ht
 | st::st'::r,h::h'::hr,sub,u,l,n,ts,K,hlt,hok,ht,hK=>by
  have hlen:(bx sub (l.map (ak u)) .any (h::h'::hr)).length=l.length:=by rw [kz,YX]
  obtain ⟨⟨hi,hz,ho⟩,hok2⟩:=hok;rw [hlen] at hi;simp only [inT] at ht;split at ht
  ·rename_i s u' l' e1 e2;have base:((l.map (ak u))[st.idx]?)=some (ak u (l.getD st.idx (dflt u))):=iS l hi
   have e3:(ak u (l.getD st.idx (dflt u)))[st.off]? = some (.li (l'.map (ak u'))):=by
    rw [<- bh,YW,e2]; rfl
   have key:∃ x,(bx sub (l.map (ak u)) .any (h::h'::hr))[st.idx]? = some x/\(x[st.off]? = some (.li (l'.map (ak u')))\/x[st.off]? = some (.li (bx s (l'.map (ak u')) .any (h'::hr)))):=by
    simp only [bx];split
    ·rename_i s1 l1 f1 f2;rw [ZJ];split
     ·rename_i ei;rw [if_pos (by rw [YX,ei]; exact hi)];refine ⟨_,rfl,?_⟩;rw [ei,g9 l hi] at f2 ⊢;rw [ZJ];split
      ·rename_i eo;rw [eo] at f1 f2;rw [e1] at f1;simp only [YT,Sh.ow.injEq] at f1;subst f1;rw [List.getD,e3,Zs] at f2;simp only [D.li.injEq] at f2;subst f2;rw [if_pos (by rw [eo]; exact ae e3)];exact .inr rfl
      ·exact .inl e3
     ·exact ⟨_,base,.inl e3⟩
    ·exact ⟨_,base,.inl e3⟩
   obtain ⟨x,hx,hx2⟩:=key;have hg:(bx sub (l.map (ak u)) .any (h::h'::hr)).getD st.idx []=x:=by rw [List.getD,hx]; rfl
   rw [e1,hg] at hok2;simp only [inK];rw [hx];dsimp only;rw [e1];rcases hx2 with hx2 | hx2
   ·rw [List.getD,hx2] at hok2;rw [hx2];dsimp only at hok2 ⊢;exact Jy hok2 ht (hK _ (s4 _))
   ·rw [List.getD,hx2] at hok2;rw [hx2];dsimp only at hok2 ⊢;exact Ro (by simpa using hlt) hok2 ht hK
  ·cases ht
theorem I8 {m:List (Nm×Nat×Rt)} {p:Pl} {n:Nat} {ts:List Tt} {K:List T->Prop} (hp:okP (toM m) p) (h:atT m p n=some ts) (hK:∀ ts',HL ts ts'->K ts'):atK (toM m) p n K:=by
 unfold atT at h;split at h
 ·cases h
 ·rename_i r hr;unfold atK;rw [aM hr];dsimp only;unfold okP at hp;split at h
  ·rename_i hpath;rw [hpath];split at h
   ·rename_i hb;simp only [YT] at h;have hH:=wx r.cells r.hole
    refine ⟨?_,hK _ ?_⟩
    ·show p.off+n<=(holed (r.cells.map Tt.toT) r.hole).length
     rw [hH.len]; exact YZ hb
    ·subst h; exact (hH.drop _).take _
   ·cases h
  ·rename_i st q hpath;rw [hpath] at hp ⊢;split at h
   ·rename_i sub u l hhole hc;obtain ⟨r',sub',l',e1,e2,e3⟩:=hp;rw [aM hr] at e1;obtain rfl:=Option.some.inj e1;have plain:r.toR.cells[p.off]? = some (.ow sub (l.map (ak u)))->(match st::q,r.toR.cells[p.off]? with
      | [],_=>p.off+n<=r.toR.cells.length/\K ((r.toR.cells.drop p.off).take n)
      | st::q,some (.ow sub l)=>inK sub l n (st::q) K
      | _,_=>False):=by
     intro ec;rw [ec] at e2 ⊢;have e2':=Option.some.inj e2
     simp only [T.ow.injEq] at e2';obtain ⟨rfl,rfl⟩:=e2';exact Jy e3 h (hK _ (s4 ts))
    cases hho:r.hole with
    | none=>
     refine plain ?_;show (holed (r.cells.map Tt.toT) r.hole)[p.off]? = _
     rw [hho];show (r.cells.map Tt.toT)[p.off]? = _
     rw [YW,hc]; rfl
    | some hh=>
     obtain ⟨off,st',q'⟩:=hh;rw [hho] at hhole;have hlt:(st::q).length < (st'::q').length:=YZ hhole
     by_cases hoff:off=p.off
     ·subst hoff;have hlt2:p.off < (r.cells.map Tt.toT).length:=by rw [YX]; exact (Zr.1 hc).1
      have ec:r.toR.cells[p.off]? = some (.ow sub (bx sub (l.map (ak u)) .any (st'::q'))):=by
       show (holed (r.cells.map Tt.toT) r.hole)[p.off]? = _
       rw [hho];simp only [holed];rw [YW,hc];simp only [Option.map_some,Tt.toT];rw [Zh hlt2]
      rw [ec] at e2 ⊢;have e2':=Option.some.inj e2
      simp only [T.ow.injEq] at e2';obtain ⟨rfl,rfl⟩:=e2';exact Ro hlt e3 h hK
     ·refine plain ?_;show (holed (r.cells.map Tt.toT) r.hole)[p.off]? = _
      rw [hho];simp only [holed];split
      ·rw [Zd hoff,YW,hc]; rfl
      ·rw [YW,hc]; rfl
   ·cases h
theorem yC {m:List (Nm×Nat×Rt)} {p:Pl} {sh:List Sh} {u:U} {l:List (El u)} {K:List T->Prop} (hp:okP (toM m) p) (h:sliceAt m p=some ⟨sh,u,l⟩) (hK:∀ l':List (List D),l'.length=l.length->K [.ow sh l']):atK (toM m) p 1 K:=by
 unfold sliceAt at h;split at h
 ·rename_i sh' u' l' ht;cases h;refine I8 hp ht (fun ts' hH=>?_);have hl:=hH.len
  match ts',hl with
  | [t'],_=>
   rcases hH.nth 0 _ _ rfl rfl with e | ⟨sh2,u2,l2,l3,e1,e2,e3⟩
   ·rw [e]; exact hK _ (by simp)
   ·simp only [Tt.ow.injEq] at e1;obtain ⟨rfl,rfl,e5⟩:=e1;have e5':=eq_of_heq e5
    subst e5';rw [e2]; exact hK _ e3
 ·cases h
section
variable {k:At->Prop} {m:List (Nm×Nat×Rt)}
theorem Cg {gd:Option (Nat×Bool)} {n:Nat} {q:Prop} (h:gift gd n q):n<=4611686018427387904->q:=by
 cases gd with
 | none=>exact h
 | some _=>exact fun _=>h
theorem UJ {gd:Option (Nat×Bool)} {x:At} {k:Nat->Prop} (hp:∀ p,x=.one (.c (.rf p))->okP (toM m) p) (h:FQ gd m x k):FP (toM m) x.toV k:=by
 unfold FQ at h;split at h
 ·exact Cg h
 ·simp only [At.toV,A1.toV,Tt.toT,C.toD,FP,YX]; exact Cg h
 ·exact h
 ·rename_i p;split at h
  ·rename_i sh u l hs;simp only [At.toV,A1.toV,Tt.toT,FP];refine yC (hp p rfl) hs (fun l' hl=>?_);dsimp only;rw [hl]; exact Cg h
  ·exact h.elim
 ·exact h.elim
theorem ja {x:Option At} {d:Nat} {k:Nat->Prop} (h:dY x d k):fG (x.map At.toV) d k:=by
 unfold dY at h;split at h
 ·exact h
 ·exact h
 ·exact h.elim
theorem OV {P:Program} {t:TypeId} {x:At} {lo hi:Option At} (h:og P t x lo hi k):lf P t x.toV (lo.map At.toV) (hi.map At.toV) (up k):=by
 have bmono:∀ {y:Option At} {d:Nat} {k1 k2:Nat->Prop},(∀ n,k1 n->k2 n)->dY y d k1->dY y d k2:=by
  intro y d k1 k2 hk hb;unfold dY at hb ⊢;split at hb
  ·exact hk _ hb
  ·exact ⟨hb.1,hk _ hb.2⟩
  ·exact hb.elim
 unfold og at h;split at h
 ·rename_i l;split at h
  ·rename_i ht;refine ⟨ht,ja (bmono (fun a ha=>ja (bmono (fun b hb=>?_) ha)) h)⟩;exact ⟨hb.1,_,rfl,hb.2⟩
  ·exact h.elim
 ·rename_i u l;split at h
  ·rename_i e ht;split at h
   ·rename_i hc;simp only [YV] at hc;simp only [At.toV,A1.toV,Tt.toT,C.toD,lf,ht];refine ⟨hc.1,fun y hy=>?_,ja (bmono (fun a ha=>?_) h)⟩
    ·obtain ⟨z,_,rfl⟩:=Zo.1 hy;rw [gU]; exact Y1 hc.2
    ·rw [YX];refine ja (bmono (fun b hb=>?_) ha);exact ⟨hb.1,_,by simp only [At.toV,A1.toV,Tt.toT,C.toD,aaG,aaR],hb.2⟩
   ·exact h.elim
  ·exact h.elim
 ·split at h
  ·rename_i e ht;split at h
   ·rename_i hc;simp only [At.toV,A1.toV,Tt.toT,lf,ht];refine ⟨hc,ja (bmono (fun a ha=>ja (bmono (fun b hb=>?_) ha)) h)⟩;exact ⟨hb.1,hb.2.1,_,rfl,hb.2.2⟩
   ·exact h.elim
  ·exact h.elim
 ·exact h.elim
theorem nQ {p:Pl} {n:Nat} (h:ib m p n=true):gz (toM m) p n:=by
 unfold ib at h;split at h
 ·cases h
 ·rename_i r hr;unfold gz room;rw [aM hr];dsimp only;have hH:=wx r.cells r.hole
  split at h
  ·rename_i hpath;rw [hpath];show n < (holed (r.cells.map Tt.toT) r.hole).length-p.off
   rw [hH.len];exact YZ h
  ·rename_i st q sub u l hpath hc;rw [hpath];split at h
   ·rename_i k hk;have hlt:=(Zr.1 hc).1
    have hlt':p.off < (holed (r.cells.map Tt.toT) r.hole).length:=by rw [hH.len]; exact hlt
    have:=hH.nth p.off _ _ hc (YU hlt')
    have e:∃ l',r.toR.cells[p.off]? = some (.ow sub l'):=by
     rcases this with e | ⟨sh,u2,l2,l3,e1,e2,_⟩
     ·exact ⟨_,by show (holed _ _)[p.off]? = _; rw [YU hlt',e]; rfl⟩
     ·simp only [Tt.ow.injEq] at e1;obtain ⟨rfl,_,_⟩:=e1;exact ⟨l3,by show (holed _ _)[p.off]? = _; rw [YU hlt',e2]⟩
    obtain ⟨l',e⟩:=e;rw [e];dsimp only;rw [hk];exact YZ h
   ·cases h
  ·cases h
theorem zb {P:Program} {t:TypeId} {x:At} {i:Nat} (h:dE P m t x i k):eY P (toM m) t x.toV i (up k):=by
 unfold dE at h;split at h
 ·rename_i fs ht;unfold eY;rw [ht];dsimp only;cases hf:fs[i]? with
  | none=>rw [hf] at h; exact h.elim
  | some f=>
   obtain ⟨off,size,ag⟩:=f;rw [hf] at h;cases size with
   | zero=>exact h.elim
   | succ size=>
    dsimp only at h ⊢;refine ⟨by omega,?_⟩;split at h
    ·split at h
     ·rename_i hr; exact ⟨nQ hr,_,rfl,h⟩
     ·exact h.elim
    ·exact ⟨_,rfl,h⟩
    ·exact h.elim
 ·exact h.elim
theorem pB {P:Program} {t:TypeId} {x i:At} (hp:∀ p,x=.one (.c (.rf p))->okP (toM m) p) (h:dg P m t x i k):fa P (toM m) t x.toV i.toV (up k):=by
 unfold dg at h;split at h
 ·rename_i κ n;simp only [At.toV,A1.toV,Tt.toT,C.toD,fa];split at h
  ·rename_i e ht;rw [ht];split at h
   ·rename_i u l;split at h
    ·rename_i hc;simp only [YV] at hc;obtain ⟨⟨h1,h2⟩,h3⟩:=h;simp only [At.toV,A1.toV,Tt.toT,C.toD];refine ⟨hc.1,h1,?_⟩;rw [iS l h2];dsimp only;refine ⟨by rw [gU]; exact Y1 hc.2,_,?_,h3⟩;simp only [At.toV,A1.toV,Tt.toT,bh]
    ·exact h.elim
   ·rename_i p;split at h
    ·rename_i hc;simp only [YV] at hc;split at h
     ·rename_i sh u l hs;split at h
      ·rename_i hb;obtain ⟨h1,h2⟩:=h;simp only [At.toV,A1.toV,Tt.toT];refine ⟨hc.1,by have:=YZ hc.2; omega,yC (hp p rfl) hs (fun l' hl=>?_)⟩;dsimp only;exact ⟨⟨h1.1,by rw [hl]; exact h1.2⟩,Y1 hb,_,rfl,h2⟩
      ·exact h.elim
     ·exact h.elim
    ·exact h.elim
   ·exact h.elim
  ·rename_i N e ht;rw [ht];split at h
   ·rename_i u l i;split at h
    ·rename_i hc;simp only [YV] at hc;obtain ⟨h1,h2⟩:=h;simp only [At.toV,A1.toV,Tt.toT];refine ⟨hc.1.1,h1,_,?_,h2⟩;simp only [At.toV,A1.toV,Tt.toT];rw [Y1 hc.1.2,Nat.mul_one,Nat.add_comm];rfl
    ·exact h.elim
   ·rename_i p;split at h
    ·rename_i hc;simp only [YV] at hc;obtain ⟨h1,h2⟩:=h;simp only [At.toV,A1.toV,Tt.toT];exact ⟨hc.1,h1,nQ hc.2,_,rfl,h2⟩
    ·exact h.elim
   ·exact h.elim
  ·exact h.elim
 ·exact h.elim
theorem xQ {P:Program} {t:TypeId} {x:At} (hp:∀ p,x=.one (.c (.pl p))->okP (toM m) p) (h:jL P m t x k):rQ P (toM m) t x.toV (up k):=by
 unfold jL at h;split at h
 ·rename_i hok;refine ⟨hok,?_⟩;split at h
  ·rename_i row o;simp only [At.toV,A1.toV,Tt.toT];split at h
   ·rename_i ha;rw [if_pos ha];split at h
    ·rename_i hb;refine ⟨by rw [YX]; exact YZ hb,fun _=>⟨_,?_,h⟩⟩;simp only [At.toV,A1.toV,AV.one.injEq,AV1.agg.injEq];rw [Y9,<- aaR,<- aaG,Y9];rfl
    ·exact h.elim
   ·rename_i ha;rw [if_neg (by rw [ha]; simp),YW];split at h
    ·rename_i c hc; rw [hc]; exact fun _=>⟨_,rfl,h⟩
    ·exact h.elim
  ·rename_i u l i;simp only [At.toV,A1.toV,Tt.toT];split at h
   ·rename_i ha hl;have e:l[i]? = some (l.getD i (dflt u)):=by rw [List.getD_eq_getElem?_getD,YU h.1]; rfl
    rw [if_neg (by rw [ha]; simp),YW,e];exact fun _=>⟨_,rfl,h.2⟩
   ·exact h.elim
  ·rename_i p;simp only [At.toV,A1.toV,Tt.toT];split at h
   ·rename_i ha;rw [if_pos ha];split at h
    ·rename_i ts hts;refine I8 (hp p rfl) hts (fun ts' hH=>fun _=>⟨_,?_,h⟩);simp only [At.toV,A1.toV,Tl hH]
    ·exact h.elim
   ·rename_i ha;rw [if_neg (by rw [ha]; simp)];split at h
    ·rename_i t' hts;refine I8 (hp p rfl) hts (fun ts' hH=>?_);have hl:=hH.len
     match ts',hl with
     | [t''],_=>
      dsimp only;refine fun _=>⟨_,?_,h⟩
      simp only [At.toV,A1.toV];rw [P1 (hH.nth 0 _ _ rfl rfl)]
    ·exact h.elim
  ·exact h.elim
 ·exact h.elim
theorem qa (x:At):dq x.toV=(ki x).map (·.map Tt.toT):=by
 cases x with
 | one x=>cases x <;> rfl
 | _=>rfl
theorem OG {α β:Type} (f:α->β) (ts cs:List α) (off:Nat):(overw ts off cs).map f=overw (ts.map f) off (cs.map f):=by
 simp only [overw,ZU,aaG,aaR,YX]
theorem oO {pl:Nat->Option (Nat×Nat)}:∀ {parts:List (Nat×At)} {ts ts':List Tt},la pl ts parts=some ts'->iD pl (ts.map Tt.toT) (parts.map fun x=>(x.1,x.2.toV))=some (ts'.map Tt.toT)
 | [],ts,ts',h=>by simp only [la,YT] at h; subst h; rfl
 | (i,x)::r,ts,ts',h=>by
  simp only [la] at h;simp only [List.map_cons,iD];cases hpl:pl i with
  | none=>rw [hpl] at h; cases h
  | some q=>
   obtain ⟨off,size⟩:=q;cases hc:ki x with
   | none=>rw [hpl,hc] at h; cases h
   | some cs=>
    rw [hpl,hc] at h;dsimp only at h;split at h
    ·rename_i hb;simp only [YV] at hb;rw [qa,hc];dsimp only [Option.map_some];have hs:(cs.map Tt.toT).all T.sure=true:=by
      rw [aaU];rw [<- hb.2]
      congr 1
      funext t; exact GQ t
     rw [if_pos ⟨by rw [YX]; exact Y1 hb.1.1,by rw [YX,YX]; exact YZ hb.1.2,hs⟩];rw [<- OG];exact oO h
    ·cases h
theorem tW {s:St} {ps:Array (Nat×Operand)} (h:(ps.toList.all fun x=>au x.2)=true):jO s.toS ps=(dH s ps).map fun x=>(x.1,x.2.toV):=by
 unfold jO dH;rw [Y9];refine Zc fun x hx=>?_
 simp only [Function.comp];rw [ac (Y6.1 h x hx)]
theorem L8 {zs:List Value} (h:zs.all okT=true):(zs.map nK).map Tt.toT=zs.map pj:=by
 rw [Y9];exact Zc fun x hx=>tD (Y6.1 h x hx)
theorem VC {P:Program} {t:TypeId} {zs:List Value} {pl:List (Nat×Nat)} (h:zst P t=some (zs,pl)):zs.all okT=true:=by
 unfold zst at h;split at h
 ·split at h
  ·split at h
   ·rename_i hall;simp only [YT,Prod.mk.injEq] at h;obtain ⟨rfl,_⟩:=h;simpa using hall
   ·cases h
  ·cases h
 ·split at h
  ·split at h
   ·rename_i hall;simp only [YT,Prod.mk.injEq] at h;obtain ⟨rfl,_⟩:=h;simpa using hall
   ·cases h
  ·cases h
 ·cases h
theorem Nx {P:Program} {t:TypeId} {parts:List (Nat×At)} (h:nH P t parts k):p8 P t (parts.map fun x=>(x.1,x.2.toV)) (up k):=by
 unfold nH at h;split at h
 ·rename_i zs places hz;split at h
  ·rename_i ts hf;unfold p8;rw [hz];dsimp only;have:=oO hf
   rw [L8 (VC hz)] at this;rw [this];exact ⟨.one (.agg ts),rfl,h⟩
  ·exact h.elim
 ·exact h.elim
end
theorem cW (bad:Bool->Pl->Bool) (t:Tt):(t.kill bad).toT=t.toT.kill bad:=by
 cases t with
 | pl p=>
  show (if bad false p=true then Tt.any else Tt.pl p).toT=if bad false p=true then T.any else T.pl p
  by_cases h:bad false p=true <;> simp [h,Tt.toT]
 | rf p=>
  show (if bad true p=true then Tt.any else Tt.rf p).toT=if bad true p=true then T.any else T.rf p
  by_cases h:bad true p=true <;> simp [h,Tt.toT]
 | _=>rfl
theorem wH (bad:Bool->Pl->Bool) (ts:List Tt):(ts.map (·.kill bad)).map Tt.toT=(ts.map Tt.toT).map (·.kill bad):=by
 rw [Y9,Y9]; exact Zc fun t _=>cW bad t
theorem ui (bad:Bool->Pl->Bool) (x:A1):(x.kill bad).toV=x.toV.kill bad:=by
 cases x with
 | c t=>simp only [A1.kill,A1.toV,AV1.kill,cW]
 | agg ts=>simp only [A1.kill,A1.toV,AV1.kill,wH]
theorem DB (bad:Bool->Pl->Bool) (x:At):(x.kill bad).toV=x.toV.kill bad:=by
 cases x with
 | one x=>simp only [At.kill,At.toV,AV.kill,ui]
 | tup xs=>
  simp only [At.kill,At.toV,AV.kill]
  congr 1
  rw [Y9,Y9]; exact Zc fun t _=>ui bad t
 | any=>rfl
theorem fY {bad:Bool->Pl->Bool} {t:Tt} (h:t.hit bad=false):t.kill bad=t:=by
 cases t with
 | pl p=>simp only [Tt.hit] at h; simp [Tt.kill,h]
 | rf p=>simp only [Tt.hit] at h; simp [Tt.kill,h]
 | _=>rfl
theorem nB {bad:Bool->Pl->Bool}:∀ {ts:List Tt},ts.any (·.hit bad)=false->ts.map (·.kill bad)=ts
 | [],_=>rfl
 | t::ts,h=>by
  simp only [List.any_cons,aaO] at h;rw [List.map_cons,fY h.1,nB h.2]
theorem vL {bad:Bool->Pl->Bool} {x:A1} (h:x.hit bad=false):x.kill bad=x:=by
 cases x with
 | c t=>simp only [A1.kill,fY (show t.hit bad=false from h)]
 | agg ts=>simp only [A1.kill,nB (show ts.any _=false from h)]
theorem Io {bad:Bool->Pl->Bool} {x:At} (h:x.hit bad=false):x.kill bad=x:=by
 cases x with
 | one x=>simp only [At.kill,vL (show x.hit bad=false from h)]
 | tup xs=>
  simp only [At.hit] at h;simp only [At.kill]
  congr 1
  induction xs with
  | nil=>rfl
  | cons x xs ih=>
   simp only [List.any_cons,aaO] at h;rw [List.map_cons,vL h.1,ih h.2]
 | any=>rfl
theorem Jx (bad:Bool->Pl->Bool) (cells:List Tt) (hole:Option (Nat×Step×List Step)) :
  holed ((cells.map (·.kill bad)).map Tt.toT) hole=(holed (cells.map Tt.toT) hole).map (·.kill bad):=by
 rw [wH];cases hole with
 | none=>rfl
 | some h=>
  obtain ⟨off,st,q⟩:=h;simp only [holed];rw [YW (f:=fun t=>T.kill bad t)];cases hc:(cells.map Tt.toT)[off]? with
  | none=>rfl
  | some t=>
   simp only [Option.map_some];cases t with
   | ow sub l=>simp only [T.kill,Zz]
   | pl p=>by_cases h:bad false p=true <;> simp [T.kill,h]
   | rf p=>by_cases h:bad true p=true <;> simp [T.kill,h]
   | _=>rfl
theorem ut (bad:Bool->Pl->Bool) (r:Rt):(r.kill bad).toR={ r.toR with cells:=r.toR.cells.map (·.kill bad) }:=by
 simp only [Rt.toR,Rt.kill,Jx]
theorem jf (bad:Bool->Pl->Bool) (nx:Nat) (t:List (Nat×Nat×At)):(jJ bad nx t).map (fun x=>(x.1,x.2.2.toV))=jK bad (t.map fun x=>(x.1,x.2.2.toV)):=by
 simp only [jJ,jK,Y9];exact Zc fun x _=>by simp only [Function.comp,DB]
theorem cH (bad:Bool->Pl->Bool) (nx:Nat) (m:List (Nm×Nat×Rt)):toM (bC bad nx m)=aw bad (toM m):=by
 simp only [toM,bC,aw,Y9];exact Zc fun x _=>by simp only [Function.comp,ut]
theorem BM {bad:Bool->Pl->Bool} {nx:Nat} {m:List (Nm×Nat×Rt)}:ND (bC bad nx m) ↔ ND m:=by
 simp only [ND,bC,Y9]; exact Iff.rfl
theorem xT {n k:Nm}:∀ {m:List (Nm×Nat×Rt)},k∈(dh m n).map (·.1)->k∈m.map (·.1)/\k≠n
 | [],h=>by simp [dh] at h
 | (k',j,v)::m,h=>by
  simp only [dh] at h;split at h
  ·have:=xT h; exact ⟨Y8 _ this.1,this.2⟩
  ·rename_i hk;simp only [List.map_cons,Y2] at h;rcases h with rfl | h
   ·exact ⟨by simp,hk⟩
   ·have:=xT h; exact ⟨Y8 _ this.1,this.2⟩
theorem IK {n:Nm}:∀ {m:List (Nm×Nat×Rt)},ND m->ND (dh m n)
 | [],_=>by simp [ND,dh]
 | (k,j,v)::m,h=>by
  have h':k ∉ m.map (·.1)/\(m.map (·.1)).Nodup:=by simpa [ND] using h
  simp only [dh];split
  ·exact IK h'.2
  ·have:=IK (n:=n) h'.2
   simp only [ND,List.map_cons,ZL];exact ⟨fun hm=>h'.1 (xT hm).1,this⟩
theorem A5 (n:Nm) (i:Nat) (r:Rt):∀ m:List (Nm×Nat×Rt),(cq m n i r).map (·.1)=m.map (·.1)
 | []=>rfl
 | (k,j,v)::m=>by
  simp only [cq];split
  ·rfl
  ·simp only [List.map_cons,A5 n i r m]
theorem dT {g:G} {s:St} {a:Act} {w:World} {H:FH} {γ:Gam} {F:Nm->Fp} (h:RX g s.toS a w H γ F):ND s.m:=by
 have:=h.mem.keys
 have e:s.toS.m.map (·.1)=s.m.map (·.1):=by simp only [St.toS,Y9]; rfl
 rw [e] at this; exact this
theorem aU {s:St} {n:Nm} (h:ND s.m):(s.drop n).toS=s.toS.drop n:=by
 have h1:=jf (aJ n) s.nx s.t
 have h2:=cH (aJ n) s.nx (dh s.m n)
 rw [jB n s.m h] at h2;exact S_ext h1 h2
where
 S_ext {t t':List (Nat×AV)} {m m':Mm} (h1:t=t') (h2:m=m'):(⟨t,m⟩:S)=⟨t',m'⟩:=by rw [h1,h2]
theorem LF {s:St} {n:Nm} (h:ND s.m):ND (s.drop n).m:=BM.2 (IK h)
theorem bk {s:St} {n:Nm} (h:ND s.m):(s.fresh n).toS=s.toS.fresh n:=by
 unfold St.fresh S.fresh;have e:aa s.toS.m n=(aY s.m n).map Rt.toR:=rK n s.m
 rw [e];cases hm:aY s.m n with
 | none=>rfl
 | some r=>exact aU h
def SEq (s s':S):Prop:=(∀ i,aG s.t i=aG s'.t i)/\s.m=s'.m
theorem aR {g:G} {s s':S} {a:Act} {w:World} {H:FH} {γ:Gam} {F:Nm->Fp} (e:SEq s s') (h:RX g s a w H γ F):RX g s' a w H γ F:=by
 obtain ⟨t,m⟩:=s;obtain ⟨t',m'⟩:=s';obtain ⟨e1,e2⟩:=e;dsimp only at e1 e2;subst e2;exact ⟨h.mem,h.fr,h.nt,h.df,fun i=>by rw [<- e1 i]; exact h.t i⟩
theorem Aj {g:G} {s s':S} {a:Act} {w:World} (e:SEq s s') (h:R g s a w):R g s' a w:=by
 obtain ⟨H,γ,F,h⟩:=h; exact ⟨H,γ,F,aR e h⟩
theorem aD (s:St) (d:Option Tmp) (v:At):SEq (s.toS.put d v.toV) (s.put d v).toS:=by
 cases d with
 | none=>exact ⟨fun _=>rfl,rfl⟩
 | some d=>
  refine ⟨fun i=>?_,rfl⟩;show aG (m5 _ d v.toV) i=aG ((d,v.toV)::_) i
  rw [gm]; rfl
theorem A9 (f:Nat×Nat×At->Nat×At) (k:Nat):∀ t:List (Nat×Nat×At),bD (t.map fun x=>(x.1,f x)) k=(bD t k).map fun y=>f (k,y)
 | []=>rfl
 | (i,j,v)::t=>by
  simp only [List.map_cons,bD];cases hb:Nat.beq i k with
  | true=>have:=Y1 hb; subst this; rfl
  | false=>exact A9 f k t
theorem tN (f:Nm×Nat×Rt->Nat×Rt) (k:Nm):∀ t:List (Nm×Nat×Rt),bW (t.map fun x=>(x.1,f x)) k=(bW t k).map fun y=>f (k,y)
 | []=>rfl
 | (i,j,v)::t=>by
  simp only [List.map_cons,bW];by_cases hb:i=k
  ·subst hb; rw [if_pos rfl,if_pos rfl]; rfl
  ·rw [if_neg hb,if_neg hb]; exact tN f k t
structure Ext (s0 s:St):Prop where
 nx:s0.nx<=s.nx
 t:∀ k j v,bD s.t k=some (j,v)->j<s0.nx->bD s0.t k=some (j,v)
 m:∀ n j r,bW s.m n=some (j,r)->j<s0.nx->bW s0.m n=some (j,r)
theorem Ext.refl (s:St):Ext s s:=⟨YY _,fun _ _ _ h _=>h,fun _ _ _ h _=>h⟩
theorem Ext.trans {a b c:St} (h1:Ext a b) (h2:Ext b c):Ext a c:=
 ⟨ZK h1.nx h2.nx,fun k j v h hj=>h1.t k j v (h2.t k j v h (Nat.lt_of_lt_of_le hj h1.nx)) hj,fun k j v h hj=>h1.m k j v (h2.m k j v h (Nat.lt_of_lt_of_le hj h1.nx)) hj⟩
abbrev Iy (nx:Nat) (t t':List (Nat×Nat×At)):Prop:=∀ k j v,bD t' k=some (j,v)->j<nx->bD t k=some (j,v)
abbrev By (nx:Nat) (m m':List (Nm×Nat×Rt)):Prop:=∀ n j r,bW m' n=some (j,r)->j<nx->bW m n=some (j,r)
theorem By.trans {nx:Nat} {a b c:List (Nm×Nat×Rt)} (h1:By nx a b) (h2:By nx b c):By nx a c:=fun n j r h hj=>h1 n j r (h2 n j r h hj) hj
theorem Iy.trans {nx:Nat} {a b c:List (Nat×Nat×At)} (h1:Iy nx a b) (h2:Iy nx b c):Iy nx a c:=fun n j r h hj=>h1 n j r (h2 n j r h hj) hj
theorem sJ {nx:Nat} {t:List (Nat×Nat×At)} (d i:Nat) (v:At) (hi:nx<=i):Iy nx t ((d,i,v)::t):=by
 intro k j w h hj;simp only [bD] at h;split at h
 ·simp only [YT,Prod.mk.injEq] at h; omega
 ·exact h
theorem iZ {nx:Nat} {t:List (Nm×Nat×Rt)} (d:Nm) (i:Nat) (v:Rt) (hi:nx<=i):By nx t ((d,i,v)::t):=by
 intro k j w h hj;simp only [bW] at h;split at h
 ·simp only [YT,Prod.mk.injEq] at h; omega
 ·exact h
theorem qQ {nx i:Nat} {t:List (Nat×Nat×At)} (chg:At->Bool) (f:At->At) (hf:∀ v,chg v=false->f v=v) (hi:nx<=i) :
  Iy nx t (t.map fun x=>(x.1,stp (chg x.2.2) i x.2.1,f x.2.2)):=by
 intro k j v h hj;rw [A9 (fun x=>(stp (chg x.2.2) i x.2.1,f x.2.2))] at h;cases hl:bD t k with
 | none=>rw [hl] at h; cases h
 | some y=>
  obtain ⟨j',v'⟩:=y;rw [hl] at h;simp only [Option.map_some,YT,Prod.mk.injEq] at h;cases hc:chg v' with
  | true=>rw [hc] at h; simp only [stp] at h; omega
  | false=>rw [hc,hf v' hc] at h; simp only [stp] at h; obtain ⟨rfl,rfl⟩:=h; rfl
theorem ff {nx i:Nat} {t:List (Nat×Nat×At)} {bad:Bool->Pl->Bool} (hi:nx<=i):Iy nx t (jJ bad i t):=qQ (·.hit bad) (·.kill bad) (fun _ h=>Io h) hi
theorem cN {nx i:Nat} {t:List (Nm×Nat×Rt)} {bad:Bool->Pl->Bool} (hi:nx<=i):By nx t (bC bad i t):=by
 intro k j v h hj;unfold bC at h;rw [tN (fun x=>(stp (x.2.2.cells.any (·.hit bad)) i x.2.1,x.2.2.kill bad))] at h;cases hl:bW t k with
 | none=>rw [hl] at h; cases h
 | some y=>
  obtain ⟨j',r⟩:=y;rw [hl] at h;simp only [Option.map_some,YT,Prod.mk.injEq] at h;cases hc:r.cells.any (·.hit bad) with
  | true=>rw [hc] at h; simp only [stp] at h; omega
  | false=>
   rw [hc] at h;have:r.kill bad=r:=by unfold Rt.kill; rw [nB hc]
   rw [this] at h;simp only [stp] at h;obtain ⟨rfl,rfl⟩:=h; rfl
theorem qh (n k:Nm):∀ m:List (Nm×Nat×Rt),bW (dh m n) k=if k=n then none else bW m k
 | []=>by simp [dh,bW]
 | (i,j,v)::m=>by
  simp only [dh];by_cases h:i=n
  ·subst h;rw [if_pos rfl,qh i k m];by_cases hk:k=i
   ·rw [if_pos hk,if_pos hk]
   ·rw [if_neg hk,if_neg hk]; simp only [bW]; rw [if_neg (fun e=>hk e.symm)]
  ·rw [if_neg h];simp only [bW];by_cases hk:i=k
   ·subst hk; rw [if_pos rfl,if_neg h,if_pos rfl]
   ·rw [if_neg hk,if_neg hk,qh n k m]
theorem lq {nx:Nat} {m:List (Nm×Nat×Rt)} (n:Nm):By nx m (dh m n):=by
 intro k j r h _;rw [qh] at h;split at h
 ·cases h
 ·exact h
theorem ct {nx i:Nat} (n:Nm) (r:Rt) (hi:nx<=i):∀ m:List (Nm×Nat×Rt),By nx m (cq m n i r)
 | [],_,_,_,h,_=>h
 | (a,b,c)::m,k,j,v,h,hj=>by
  simp only [cq] at h;split at h
  ·rename_i ha;simp only [bW] at h ⊢;split at h
   ·simp only [YT,Prod.mk.injEq] at h; omega
   ·rename_i hk; rw [if_neg hk]; exact h
  ·simp only [bW] at h ⊢;split at h
   ·rename_i hk; rw [if_pos hk]; exact h
   ·rename_i hk; rw [if_neg hk]; exact ct n r hi m k j v h hj
theorem ax (s:St) (d:Option Tmp) (v:At):Ext s (s.put d v):=by
 cases d with
 | none=>exact Ext.refl s
 | some d=>exact ⟨ZC _,sJ d s.nx v (YY _),fun _ _ _ h _=>h⟩
theorem qR (s:St) (n:Nm):Ext s (s.drop n):=⟨ZC _,ff (YY _),(lq n).trans (cN (YY _))⟩
theorem bt (s:St) (n:Nm):Ext s (s.fresh n):=by
 unfold St.fresh; split
 ·exact Ext.refl s
 ·exact qR s n
theorem ce (s:St) (n:Nm) (r:Rt):Ext s (s.root n r):=⟨ZC _,fun _ _ _ h _=>h,iZ n s.nx r (YY _)⟩
theorem IZ (q:Pl) (u:U) (l:List (El u)) (t:Tt):(t.frz q u l).toT=t.toT.frz q (l.map (ak u)):=by
 cases t with
 | pl p=>exact cW (thr q) (.pl p)
 | rf p=>
  obtain ⟨n,o,path⟩:=p;cases path with
  | nil=>
   show (if n=q.root/\o=q.off then Tt.d (.li u l) else (Tt.rf ⟨n,o,[]⟩).kill (thr q)).toT=if n=q.root/\o=q.off then T.d (.li (l.map (ak u))) else (T.rf ⟨n,o,[]⟩).kill (thr q)
   by_cases h:n=q.root/\o=q.off
   ·rw [if_pos h,if_pos h]; rfl
   ·rw [if_neg h,if_neg h]; exact cW (thr q) (.rf ⟨n,o,[]⟩)
  | cons st r=>exact cW (thr q) (.rf ⟨n,o,st::r⟩)
 | _=>rfl
theorem IY (n:Nm) (c:C) (t:Tt):(t.frm n c).toT=t.toT.frm n c.toD:=by
 cases t with
 | pl p=>exact cW (aJ n) (.pl p)
 | rf p=>
  obtain ⟨r,o,path⟩:=p;by_cases h:r=n
  ·simp only [Tt.frm,Tt.toT,T.frm,if_pos h];cases o <;> cases path <;> rfl
  ·simp only [Tt.frm,Tt.toT,T.frm,if_neg h]
 | _=>rfl
theorem vM {f:Tt->Tt} {f':T->T} (h:∀ t,(f t).toT=f' t.toT) (x:A1):(x.map f).toV=x.toV.map f':=by
 cases x with
 | c t=>simp only [A1.map,A1.toV,AV1.map,h]
 | agg ts=>
  simp only [A1.map,A1.toV,AV1.map]
  congr 1
  rw [Y9,Y9]; exact Zc fun t _=>h t
theorem pM {f:Tt->Tt} {f':T->T} (h:∀ t,(f t).toT=f' t.toT) (x:At):(x.map f).toV=x.toV.map f':=by
 cases x with
 | one x=>simp only [At.map,At.toV,AV.map,vM h]
 | tup xs=>
  simp only [At.map,At.toV,AV.map]
  congr 1
  rw [Y9,Y9]; exact Zc fun t _=>vM h t
 | any=>rfl
theorem Ng {q:Pl} {u:U} {l:List (El u)} {t:Tt} (h:t.hit (KT q)=false):t.frz q u l=t:=by
 cases t with
 | pl p=>
  simp only [Tt.hit,KT,aaB,Bool.or_false] at h;exact fY (t:=.pl p) h
 | rf p=>
  simp only [Tt.hit,KT,ZH,aaO] at h;obtain ⟨n,o,path⟩:=p;cases path with
  | nil=>
   simp only [Tt.frz];rw [if_neg (by simpa using h.2)];exact fY (t:=.rf ⟨n,o,[]⟩) h.1
  | cons st r=>exact fY (t:=.rf ⟨n,o,st::r⟩) h.1
 | _=>rfl
theorem Nf {n:Nm} {c:C} {t:Tt} (h:t.hit (aJ n)=false):t.frm n c=t:=by
 cases t with
 | pl p=>exact fY (t:=.pl p) h
 | rf p=>
  simp only [Tt.hit,aJ,decide_eq_false_iff_not] at h;simp only [Tt.frm];rw [if_neg h]
 | _=>rfl
theorem sE {bad:Bool->Pl->Bool} {f:Tt->Tt} (hf:∀ {t:Tt},t.hit bad=false->f t=t) {x:At} (h:x.hit bad=false):x.map f=x:=by
 have one:∀ {y:A1},y.hit bad=false->y.map f=y:=by
  intro y hy;cases y with
  | c t=>simp only [A1.map,hf (show t.hit _=false from hy)]
  | agg ts=>
   simp only [A1.hit] at hy;simp only [A1.map]
   congr 1
   induction ts with
   | nil=>rfl
   | cons t ts ih=>
    simp only [List.any_cons,aaO] at hy;rw [List.map_cons,hf hy.1,ih hy.2]
 cases x with
 | one y=>simp only [At.map,one (show y.hit _=false from h)]
 | tup xs=>
  simp only [At.hit] at h;simp only [At.map]
  congr 1
  induction xs with
  | nil=>rfl
  | cons y ys ih=>
   simp only [List.any_cons,aaO] at h;rw [List.map_cons,one h.1,ih h.2]
 | any=>rfl
theorem MQ {q:Pl} {u:U} {l:List (El u)} {x:At} (h:x.hit (KT q)=false):x.map (Tt.frz q u l)=x:=sE Ng h
theorem mF (n:Nm):∀ m:List (Nm×Nat×Rt),aY m n=(bW m n).map (·.2)
 | []=>rfl
 | (k,j,r)::m=>by
  simp only [aY,bW];by_cases h:k=n
  ·rw [if_pos h,if_pos h]; rfl
  ·rw [if_neg h,if_neg h]; exact mF n m
theorem sK (s:St) (q:Pl):Ext s (rJ s q):=by
 unfold rJ;split
 ·split
  ·rename_i u l _ _;refine ⟨ZC _,qQ (·.hit (KT q)) (·.map (Tt.frz q u l)) (fun _ h=>MQ h) (YY _),?_⟩;have hset:∀ (m:List (Nm×Nat×Rt)) off t,By s.nx m (setCell m q.root s.nx off t):=by
    intro m off t;unfold setCell;split
    ·exact ct _ _ (YY _) m
    ·exact fun _ _ _ h _=>h
   exact ((hset _ _ _).trans (cN (YY _))).trans (hset _ _ _)
  ·split
   ·exact ⟨ZC _,qQ (·.hit (aJ q.root)) (·.map (Tt.frm q.root _)) (fun _ h=>sE Nf h) (YY _),(lq q.root).trans (cN (YY _))⟩
   ·exact Ext.refl s
  ·exact Ext.refl s
 ·exact Ext.refl s
theorem oc {m:List (Nm×Nat×Rt)} {n:Nm} {i off:Nat} {t:Tt} {r:Rt} (hr:aY m n=some r) (hh:r.hole=none) :
  toM (setCell m n i off t)=bv (toM m) n ⟨r.blk,(r.toR.cells).set off t.toT⟩:=by
 unfold setCell;rw [hr];dsimp only;rw [dI]
 congr 1
 simp only [Rt.toR,hh,holed,Zz]
theorem Cf {m:List (Nm×Nat×Rt)} {n:Nm} {i off:Nat} {t:Tt} {r:Rt} (hr:aY m n=some r):aY (setCell m n i off t) n=some { r with cells:=r.cells.set off t }:=by
 unfold setCell;rw [hr];dsimp only;induction m with
 | nil=>cases hr
 | cons x m ih=>
  obtain ⟨k,j,v⟩:=x;simp only [cq];simp only [aY] at hr;by_cases h:k=n
  ·rw [if_pos h]; simp only [aY]; rw [if_pos h]
  ·rw [if_neg h] at hr ⊢; simp only [aY]; rw [if_neg h]; exact ih hr
theorem AZ (bad:Bool->Pl->Bool) (i:Nat) (n:Nm) (m:List (Nm×Nat×Rt)):aY (bC bad i m) n=(aY m n).map (·.kill bad):=by
 rw [mF,mF];unfold bC;rw [tN (fun x=>(stp (x.2.2.cells.any (·.hit bad)) i x.2.1,x.2.2.kill bad))];cases bW m n <;> rfl
theorem gV {u:U} (h:leaf u=true) (x:El u):(ak u x).headD .any=(ah u x).toD:=by cases u <;> first | rfl | cases h
theorem Up (ku vu:U) (l:List (El ku×El vu)):frL (l.map fun x=>((ah ku x.1).toD,Sh.fr,(ah vu x.2).toD))=true:=by
 unfold frL;rw [aaU,Y6];exact fun _ _=>rfl
theorem s6 {g:G} {s:St} {a:Act} {w:World} {H:FH} {γ:Gam} {F:Nm->Fp} (h:RX g s.toS a w H γ F) (q:Pl):∃ H' F',RX g (rJ s q).toS a w H' γ F':=by
 unfold rJ;split
 ·rename_i r hpath hr;split
  ·rename_i sh u l hh hc;obtain ⟨H',F',h'⟩:=IM h q;refine ⟨H',F',?_⟩;have ec:r.toR.cells[q.off]? = some (.ow sh (l.map (ak u))):=by
    show (holed (r.cells.map Tt.toT) r.hole)[q.off]? = _
    rw [hh];show (r.cells.map Tt.toT)[q.off]? = _
    rw [YW,hc]; rfl
   have eg:aa s.toS.m q.root=some r.toR:=aM hr
   have egp:aP s.toS.m q=some (.ow sh (l.map (ak u))):=by
    unfold aP;rw [eg,hpath];exact ec
   have efrz:Fb s.toS q=⟨qj (AV.map (T.frz q (l.map (ak u)))) s.toS.t,Fa s.toS.m q (l.map (ak u))⟩:=by
    unfold Fb;rw [egp,hpath]
   rw [efrz] at h';have key:(⟨s.nx+1,s.t.map fun x=>(x.1,stp (x.2.2.hit (KT q)) s.nx x.2.1,x.2.2.map (Tt.frz q u l)),
     setCell (bC (thr q) s.nx (setCell s.m q.root s.nx q.off .any)) q.root s.nx q.off (.d (.li u l))⟩:St).toS=⟨qj (AV.map (T.frz q (l.map (ak u)))) s.toS.t,Fa s.toS.m q (l.map (ak u))⟩:=by
    refine aU.S_ext ?_ ?_
    ·simp only [St.toS,qj,Y9];exact Zc fun x _=>by simp only [Function.comp,pM (IZ q u l)]
    ·have g1:=Cf (i:=s.nx) (off:=q.off) (t:=.any) hr
     have g2:aY (bC (thr q) s.nx (setCell s.m q.root s.nx q.off .any)) q.root=some (({ r with cells:=r.cells.set q.off .any }:Rt).kill (thr q)):=by rw [AZ,g1]; rfl
     show toM (setCell _ q.root s.nx q.off (.d (.li u l)))=_
     rw [oc g2 hh,cH,oc hr hh];unfold Fa;have p1:a8 s.toS.m q .any=bv (toM s.m) q.root ⟨r.blk,r.toR.cells.set q.off Tt.any.toT⟩:=by
      unfold a8;rw [eg,hpath];rfl
     rw [p1];have g3:aa (aw (thr q) (bv (toM s.m) q.root ⟨r.blk,r.toR.cells.set q.off Tt.any.toT⟩)) q.root=some ⟨r.blk,(r.toR.cells.set q.off Tt.any.toT).map (·.kill (thr q))⟩:=by
      have:=aM g2
      rw [cH,oc hr hh] at this;rw [this,ut];simp only [Rt.toR,hh,holed,Zz,Tt.toT]
     unfold a8;rw [g3,hpath];dsimp only
     congr 1
     simp only [Rt.toR,Rt.kill,hh,holed,Zz,wH,Z3,Tt.toT,C.toD]
   rw [key]; exact h'
  ·rename_i ku vu l hh hc;split
   ·rename_i x hb hcs hlf;simp only [YV] at hlf;have hoff:q.off=0:=by
     have:=ae hc
     rw [hcs] at this; simpa using this
    have hx:x=.mp ku vu l:=by rw [hcs,hoff] at hc; simpa using hc
    have hr2:aa s.toS.m q.root=some ⟨false,[.mp (l.map fun x=>((ah ku x.1).toD,Sh.fr,(ah vu x.2).toD))]⟩:=by
     have:=aM hr
     unfold Rt.toR at this;rw [hb,hcs,hh,hx] at this;exact this
    obtain ⟨H',F',h'⟩:=Tq h hr2 (Up ku vu l);refine ⟨H',F',?_⟩;have e1:mpD (l.map fun x=>((ah ku x.1).toD,Sh.fr,(ah vu x.2).toD))=(C.mp ku vu (some l)).toD:=by
     show D.mp (some ((l.map _).map _))=D.mp (some (l.map _))
     rw [Y9]
     congr 2
     refine Zc fun x _=>?_
     show ((ah ku x.1).toD,(ah vu x.2).toD)=((ak ku x.1).headD .any,(ak vu x.2).headD .any)
     rw [gV hlf.1,gV hlf.2]
    rw [e1] at h';have key:(Ri s q.root (.mp ku vu (some l))).toS=frzm s.toS q.root (C.mp ku vu (some l)).toD:=by
     refine aU.S_ext ?_ ?_
     ·simp only [St.toS,Ri,qj,Y9];exact Zc fun x _=>by simp only [Function.comp,pM (IY q.root _)]
     ·have h2:=cH (aJ q.root) s.nx (dh s.m q.root)
      rw [jB q.root s.m (dT h)] at h2;exact h2
    rw [key]; exact h'
   ·exact ⟨H,F,h⟩
  ·exact ⟨H,F,h⟩
 ·exact ⟨H,F,h⟩
section
variable {g:G} {a:Act} {w:World} {γ:Gam}
theorem Ai {s:St} {H:FH} {F:Nm->Fp} (h:RX g s.toS a w H γ F) (t:Tt):∃ H' F',RX g (Me s t).toS a w H' γ F':=by
 cases t with
 | rf p=>exact s6 h p
 | _=>exact ⟨H,F,h⟩
theorem wD:∀ (ts:List Tt) (s:St) (H:FH) (F:Nm->Fp),RX g s.toS a w H γ F->∃ H' F',RX g (Cc s ts).toS a w H' γ F'
 | [],_,H,F,h=>⟨H,F,h⟩
 | t::ts,s,H,F,h=>by
  obtain ⟨H1,F1,h1⟩:=Ai h t;exact wD ts _ H1 F1 h1
theorem fh {s:St} {H:FH} {F:Nm->Fp} (h:RX g s.toS a w H γ F) (v:At):∃ H' F',RX g (dV s v).toS a w H' γ F':=by
 cases v with
 | one x=>cases x with
  | c t=>exact Ai h t
  | agg ts=>exact wD ts s H F h
 | _=>exact ⟨H,F,h⟩
theorem cg:∀ (vs:List At) (s:St) (H:FH) (F:Nm->Fp),RX g s.toS a w H γ F->∃ H' F',RX g (bm s vs).toS a w H' γ F'
 | [],_,H,F,h=>⟨H,F,h⟩
 | v::vs,s,H,F,h=>by
  obtain ⟨H1,F1,h1⟩:=fh h v;exact cg vs _ H1 F1 h1
theorem D6 {s s':St} {H:FH} {F:Nm->Fp} (hX:RX g s.toS a w H γ F) (hf:∀ (g':G) (H:FH) (F:Nm->Fp),RX g' s.toS a w H γ F->∃ H' F',RX g' s'.toS a w H' γ F') :
  ∃ H' F',RX g s'.toS a w H' γ F'/\∀ b o y,H b o=some y->H' b o=some y:=by
 let g':G:=⟨g.nt,w,H,tot F s.toS.m,g.out,g.ex,g.dfs⟩
 have hX2:RX g' s.toS a w H γ F:=⟨hX.mem,Fr.refl' rfl rfl rfl rfl (fun _ h=>h),hX.nt,⟨hX.df.1,hX.df.2.1,dz hX⟩,hX.t⟩
 obtain ⟨H',F',h⟩:=hf g' H F hX2;exact ⟨H',F',⟨h.mem,hX.fr.trans h.fr,h.nt,⟨h.df.1,h.df.2.1,hX.df.2.2⟩,h.t⟩,h.fr.hold⟩
theorem oH:∀ (ts:List Tt) (s:St) (p:Pl) (H:FH) (F:Nm->Fp),RX g s.toS a w H γ F->∃ H' F',RX g (uI s p ts).toS a w H' γ F'
 | [],s,_,H,F,h=>⟨H,F,h⟩
 | t::ts,s,p,H,F,h=>by
  cases t with
  | rf q=>
   simp only [uI];split
   ·obtain ⟨H1,F1,h1⟩:=s6 h q;exact oH ts _ _ H1 F1 h1
   ·exact oH ts _ _ H F h
  | _=>exact oH ts s (p.add 1) H F h
theorem M8 {s:St} {H:FH} {F:Nm->Fp} (h:RX g s.toS a w H γ F) (x v:At):∃ H' F',RX g (AU s x v).toS a w H' γ F':=by
 unfold AU;split
 ·exact oH _ _ _ H F h
 ·exact ⟨H,F,h⟩
theorem Af (s:St) (t:Tt):Ext s (Me s t):=by
 cases t with
 | rf p=>exact sK s p
 | _=>exact Ext.refl s
theorem we:∀ (ts:List Tt) (s:St),Ext s (Cc s ts)
 | [],s=>Ext.refl s
 | t::ts,s=>(Af s t).trans (we ts _)
theorem fg (s:St) (v:At):Ext s (dV s v):=by
 cases v with
 | one x=>cases x with
  | c t=>exact Af s t
  | agg ts=>exact we ts s
 | _=>exact Ext.refl s
theorem oC:∀ (ts:List Tt) (s:St) (p:Pl),Ext s (uI s p ts)
 | [],s,_=>Ext.refl s
 | t::ts,s,p=>by
  cases t with
  | rf q=>
   simp only [uI];split
   ·exact (sK s q).trans (oC ts _ _)
   ·exact oC ts _ _
  | _=>exact oC ts s (p.add 1)
theorem MV (s:St) (x v:At):Ext s (AU s x v):=by
 unfold AU;split
 ·exact oC _ _ _
 ·exact Ext.refl s
theorem bz:∀ (vs:List At) (s:St),Ext s (bm s vs)
 | [],s=>Ext.refl s
 | v::vs,s=>(fg s v).trans (bz vs _)
theorem wE {s:St} {H:FH} {F:Nm->Fp} (h:RX g s.toS a w H γ F) (o:Oper):∃ H' F',RX g (zx s o).toS a w H' γ F':=by
 unfold zx;split
 ·exact fh h _
 ·exact fh h _
 ·exact ⟨H,F,h⟩
theorem DT (s:St) (o:Oper):Ext s (zx s o):=by
 unfold zx;split
 ·exact fg s _
 ·exact fg s _
 ·exact Ext.refl s
theorem AT {s:S} {t:Tt} (h:t.noRf=true):Rj s t.toT=s:=by
 cases t with
 | rf p=>cases h
 | _=>rfl
theorem xD {s:S}:∀ {ts:List Tt},ts.all Tt.noRf=true->AX s (ts.map Tt.toT)=s
 | [],_=>rfl
 | t::ts,h=>by
  simp only [Zb,YV] at h;simp only [List.map_cons,AX];rw [AT h.1,xD h.2]
theorem tG {s:S} {v:At} (h:v.noRf=true):Fd s v.toV=s:=by
 cases v with
 | one x=>cases x with
  | c t=>exact AT h
  | agg ts=>exact xD h
 | _=>rfl
theorem dc {s:S}:∀ {vs:List At},vs.all At.noRf=true->iE s (vs.map At.toV)=s
 | [],_=>rfl
 | v::vs,h=>by
  simp only [Zb,YV] at h;simp only [List.map_cons,iE];rw [tG h.1,dc h.2]
theorem Ki {s:St} {H:FH} {F:Nm->Fp} (hX:RX g s.toS a w H γ F) {x:Operand} (hc:au x=true) :
  (∀ p,evA s x=.one (.c (.rf p))->okP (toM s.m) p)/\(∀ p,evA s x=.one (.c (.pl p))->okP (toM s.m) p):=by
 have h:=az hX hc
 rw [ac hc] at h;refine ⟨fun p e=>?_,fun p e=>?_⟩
 ·rw [e] at h;obtain ⟨_,h1,_⟩:=h;exact nV h1
 ·rw [e] at h;obtain ⟨_,h1,_⟩:=h;exact Kj h1
theorem tH {gd:Option (Nat×Bool)} {n:Nat} {q q':Prop} (hq:q->q') (h:gift gd n q):gift gd n q':=by
 cases gd with
 | none=>exact fun hh=>hq (h hh)
 | some _=>exact hq h
theorem A6 {gd:Option (Nat×Bool)} {m:List (Nm×Nat×Rt)} {x:At} {k k':Nat->Prop} (hk:∀ n,k n->k' n) (h:FQ gd m x k):FQ gd m x k':=by
 unfold FQ at h ⊢;split at h
 ·exact tH (hk _) h
 ·exact tH (hk _) h
 ·exact hk _ h
 ·split at h
  ·exact tH (hk _) h
  ·exact h.elim
 ·exact h.elim
theorem Ob (x:At):oS x.toV=Jz x:=by
 cases x with
 | one x=>cases x with
  | c t=>cases t with
   | d c=>cases c <;> rfl
   | _=>rfl
  | agg ts=>rfl
 | _=>rfl
theorem SE {e:En} {o:Oper} {s:St} {k:At->Prop} {H:FH} {F:Nm->Fp} (hX:RX g s.toS a w H γ F) (hc:opC g.nt o=true) (h:qT e o s k):qK e.P o s.toS (up k):=by
 unfold opC at hc;rw [YV] at hc;obtain ⟨_,hc⟩:=hc;unfold qT at h;unfold qK;cases ho:o.op with
 | move x=>rw [ho] at h hc; exact ⟨_,ac hc,h⟩
 | assign x=>rw [ho] at h hc; exact ⟨_,ac hc,h⟩
 | pick c x y=>
  rw [ho] at h hc;simp only [YV] at hc;dsimp only;rw [ac hc.1.1,ac hc.1.2,ac hc.2];exact Sm h
 | binOp op t x y z=>
  rw [ho] at h hc;simp only [YV] at hc;dsimp only;rw [ac hc.1,ac hc.2];exact TN h
 | unOp op t x=>rw [ho] at h hc; dsimp only at hc ⊢; rw [ac hc]; exact Xg h
 | load t x=>rw [ho] at h hc; dsimp only at hc ⊢; rw [ac hc]; exact xQ (Ki hX hc).2 h
 | field t x i=>rw [ho] at h hc; dsimp only at hc ⊢; rw [ac hc]; exact N5 h
 | fieldAddr t x i=>rw [ho] at h hc; dsimp only at hc ⊢; rw [ac hc]; exact zb h
 | indexAddr t x i=>
  rw [ho] at h hc;simp only [YV] at hc;dsimp only;rw [ac hc.1,ac hc.2];exact pB (Ki hX hc.1).1 h
 | index t x i=>
  rw [ho] at h hc;simp only [YV] at hc;dsimp only at h ⊢;split at h
  ·rename_i ht;rw [ac hc.1,ac hc.2];exact ⟨ht,O2 h⟩
  ·exact h.elim
 | extract x i=>rw [ho] at h hc; dsimp only at hc ⊢; rw [ac hc]; exact EX h
 | convert su du x=>rw [ho] at h hc; dsimp only at hc ⊢; rw [ac hc]; exact Q9 h
 | slice t x lo hi mx=>
  rw [ho] at h hc;cases mx with
  | some _=>exact h.elim
  | none=>
   dsimp only at h hc ⊢;simp only [YV] at hc;have opt:∀ (y:Option Operand),y.all au=true->y.map (ev s.toS)=(y.map (evA s)).map At.toV:=by
    intro y hy;cases y with
    | none=>rfl
    | some y=>simp only [Option.map_some]; rw [ac (by simpa using hy)]
   rw [ac hc.1.1,opt lo hc.1.2,opt hi hc.2];exact OV h
 | nilCheck x=>rw [ho] at h hc; dsimp only at hc ⊢; rw [ac hc]; exact CF h
 | build t ps=>rw [ho] at h hc; dsimp only at hc ⊢; rw [tW hc]; exact Nx h
 | call c=>
  rw [ho] at h hc;obtain ⟨callee,args,argTypes⟩:=c;obtain ⟨args⟩:=args;obtain ⟨argTypes⟩:=argTypes;dsimp only at h hc ⊢;cases callee with
  | builtin b=>
   cases b with
   | len=>
    match args,argTypes,h with
    | [x],[t],h=>
     have h1:au x=true:=by simpa using hc
     dsimp only at h ⊢;split at h
     ·rename_i hl;rw [ac h1,Ob];refine ⟨hl,?_⟩;exact UJ (Ki hX h1).1 (A6 (fun n hn=>⟨_,rfl,hn⟩) h)
     ·exact h.elim
   | _=>exact h.elim
  | _=>exact h.elim
 | _=>rw [ho] at h; exact h.elim
end
theorem o9 {u:U} {x x':El u} {off:Nat} {c:C} (h:GD u x off c=some x'):(∃ d,(ak u x)[off]? = some d)/\ak u x'=(ak u x).set off c.toD:=by
 unfold GD at h;split at h
 ·rename_i c0 hc;have e:=ug h
  refine ⟨⟨c0.toD,by rw [<- bh,YW,hc]; rfl⟩,?_⟩;rw [<- bh,<- e,<- bh,Zz]
 ·cases h
theorem GI:∀ {path:List Step} {sub:List Sh} {u:U} {l l':List (El u)} {t:Tt} {k:Prop} {K:List (List D)->Prop},nW sub u l path k->Bl sub u l t path=some l'->K (l'.map (ak u))->fN sub (l.map (ak u)) t.toT path K
 | [],_,_,_,_,_,_,_,h,_,_=>h.elim
 | [st],sub,u,l,l',t,k,K,h,ht,hK=>by
  obtain ⟨h1,_⟩:=h;simp only [Bl] at ht;simp only [fN];rw [iS l h1];dsimp only;split at ht
  ·rename_i c hs;split at ht
   ·rename_i x hx;simp only [YT] at ht;subst ht;obtain ⟨⟨d,hd⟩,e⟩:=o9 hx;rw [hs,hd];dsimp only;refine ⟨trivial,?_⟩;rw [Zz,e] at hK;exact hK
   ·cases ht
  ·rename_i hs;split at ht
   ·rename_i u' l0 hf;split at ht
    ·rename_i x hx;simp only [YT] at ht;subst ht;obtain ⟨⟨d,hd⟩,e⟩:=o9 hx;rw [hs,hd];dsimp only;refine ⟨trivial,?_⟩;rw [Zz,e] at hK;exact hK
    ·cases ht
   ·cases ht
  ·cases ht
 | st::st'::r,sub,u,l,l',t,k,K,h,ht,hK=>by
  simp only [Bl] at ht;simp only [fN];simp only [nW] at h;split at ht
  ·rename_i s u' l0 e1 e2;rw [e1,e2] at h;obtain ⟨h1,h4⟩:=h;rw [iS l h1];dsimp only;split at ht
   ·rename_i l2 hl2;split at ht
    ·rename_i x hx;simp only [YT] at ht;subst ht;obtain ⟨_,e⟩:=o9 hx;have e3:(ak u (l.getD st.idx (dflt u)))[st.off]? = some (.li (l0.map (ak u'))):=by
      rw [<- bh,YW,e2]; rfl
     rw [e1,e3];dsimp only;refine GI h4 hl2 ?_;rw [Zz,e] at hK;exact hK
    ·cases ht
   ·cases ht
  ·cases ht
mutual
theorem SO:∀ {a b:Sh},GL a b=true->a=b
 | .fr,.fr,_=>rfl
 | .ow a,.ow b,h=>by simp only [GL] at h; rw [jh h]
 | .fr,.ow _,h=>by simp [GL] at h
 | .ow _,.fr,h=>by simp [GL] at h
theorem jh:∀ {a b:List Sh},iz a b=true->a=b
 | [],[],_=>rfl
 | a::r,b::q,h=>by
  simp only [iz,YV] at h;rw [SO h.1,jh h.2]
 | [],_::_,h=>by simp [iz] at h
 | _::_,[],h=>by simp [iz] at h
end
theorem EZ:∀ {path:List Step} {sub:List Sh} {u:U} {l l':List (El u)} {sh:List Sh} {v:U} {lv:List (El v)} {k:Prop} {K:List (List D)->Prop},nW sub u l path k->AN sub u l sh v lv path=some l'->K (l'.map (ak u)) ->
  fN sub (bx sub (l.map (ak u)) .any path) (.ow sh (lv.map (ak v))) path K
 | [],_,_,_,_,_,_,_,_,_,h,_,_=>h.elim
 | [st],sub,u,l,l',sh,v,lv,k,K,h,ht,hK=>by
  obtain ⟨h1,_⟩:=h;have h1':st.idx < (l.map (ak u)).length:=by rw [YX]; exact h1
  simp only [AN] at ht;split at ht
  ·rename_i s c hs hc;split at ht
   ·rename_i x hsh hx;simp only [YT] at ht;subst ht;obtain ⟨⟨d,hd⟩,e⟩:=o9 hx;have hlt:st.off < (ak u (l.getD st.idx (dflt u))).length:=ae hd
    have hset:bx sub (l.map (ak u)) .any [st]=(l.map (ak u)).set st.idx ((ak u (l.getD st.idx (dflt u))).set st.off .any):=by
     simp only [bx]; rw [g9 l h1]
    rw [hset];simp only [fN];rw [Zh h1'];dsimp only;rw [hs,Zh hlt];dsimp only;refine ⟨jh hsh,?_⟩;rw [Z3,Z3];rw [Zz,e] at hK;exact hK
   ·cases ht
  ·cases ht
 | st::st'::r,sub,u,l,l',sh,v,lv,k,K,h,ht,hK=>by
  simp only [AN] at ht;simp only [nW] at h;split at ht
  ·rename_i s u' l0 e1 e2;rw [e1,e2] at h;obtain ⟨h1,h4⟩:=h;have h1':st.idx < (l.map (ak u)).length:=by rw [YX]; exact h1
   split at ht
   ·rename_i l2 hl2;split at ht
    ·rename_i x hx;simp only [YT] at ht;subst ht;obtain ⟨_,e⟩:=o9 hx;have e3:(ak u (l.getD st.idx (dflt u)))[st.off]? = some (.li (l0.map (ak u'))):=by
      rw [<- bh,YW,e2]; rfl
     have hlt:st.off < (ak u (l.getD st.idx (dflt u))).length:=ae e3
     have e4:(ak u (l.getD st.idx (dflt u))).getD st.off default=.li (l0.map (ak u')):=by rw [List.getD,e3]; rfl
     have hset:bx sub (l.map (ak u)) .any (st::st'::r)=(l.map (ak u)).set st.idx ((ak u (l.getD st.idx (dflt u))).set st.off (.li (bx s (l0.map (ak u')) .any (st'::r)))):=by
      simp only [bx]; rw [g9 l h1,e1,e4]
     rw [hset];simp only [fN];rw [Zh h1'];dsimp only;rw [e1,Zh hlt];dsimp only;refine EZ h4 hl2 ?_;rw [Z3,Z3];rw [Zz,e] at hK;exact hK
    ·cases ht
   ·cases ht
  ·cases ht
theorem CO:∀ {path:List Step} {sub:List Sh} {u:U} {l:List (El u)} {k:Prop},nW sub u l path k->k
 | [],_,_,_,_,h=>h.elim
 | [st],_,_,_,_,h=>h.2
 | st::st'::r,sub,u,l,k,h=>by
  simp only [nW] at h;split at h
  ·exact CO h.2
  ·exact h.elim
theorem o4:∀ {path:List Step} {sub:List Sh} {u:U} {l:List (El u)} {k k':Prop},(k->k')->nW sub u l path k->nW sub u l path k'
 | [],_,_,_,_,_,_,h=>h.elim
 | [st],_,_,_,_,_,hk,h=>⟨h.1,hk h.2⟩
 | st::st'::r,sub,u,l,k,k',hk,h=>by
  simp only [nW] at h ⊢;split at h
  ·exact ⟨h.1,o4 hk h.2⟩
  ·exact h.elim
theorem AM:∀ {a b:List Step} {k:Prop},mA a b k->a=b/\k
 | [],[],_,h=>⟨rfl,h⟩
 | x::r,y::q,k,h=>by
  simp only [mA] at h;split at h
  ·rename_i hb;rw [YV] at hb;obtain ⟨e,hk⟩:=AM h.2;obtain ⟨a1,a2,a3⟩:=x; obtain ⟨b1,b2,b3⟩:=y;have h1:a1=b1:=h.1
   have h2:a2=b2:=Y1 hb.1
   have h3:a3=b3:=Y1 hb.2
   subst h1; subst h2; subst h3; subst e;exact ⟨rfl,hk⟩
  ·exact h.elim
 | [],_::_,_,h=>h.elim
 | _::_,[],_,h=>h.elim
theorem uG:∀ {a b:List Step} {k k':Prop},(k->k')->mA a b k->mA a b k'
 | [],[],_,_,hk,h=>hk h
 | x::r,y::q,k,k',hk,h=>by
  simp only [mA] at h ⊢;split at h
  ·exact ⟨h.1,uG hk h.2⟩
  ·exact h.elim
 | [],_::_,_,_,_,h=>h.elim
 | _::_,[],_,_,_,h=>h.elim
theorem xH:∀ {path:List Step} {sub:List Sh} {u:U} {l:List (El u)} {sh:List Sh} {v:U} {lv:List (El v)},okO sub (l.map (ak u)) path->inT sub u l 1 path=some [.ow sh v lv]->aZ sub (l.map (ak u)) path=some (.ow sh,.li (lv.map (ak v)))
 | [],_,_,_,_,_,_,h,_=>h.elim
 | [st],sub,u,l,sh,v,lv,h,ht=>by
  obtain ⟨h1,h2,h3⟩:=h;rw [YX] at h1;simp only [inT] at ht;split at ht
  ·simp only [YT] at ht;have e1:sub[st.off]? = some sub[st.off]:=YU h3
   cases hc:(flat u (l.getD st.idx (dflt u)))[st.off]? with
   | none=>
    have:((flat u (l.getD st.idx (dflt u))).drop st.off).take 1=[]:=by
     rw [List.drop_eq_nil_of_le (List.getElem?_eq_none_iff.1 hc)]; rfl
    rw [this] at ht;simp at ht
   | some c=>
    have hlt:=ae hc
    have ec:(flat u (l.getD st.idx (dflt u)))[st.off]=c:=by
     rw [YU hlt] at hc; exact Option.some.inj hc
    have d1:(sub.drop st.off).take 1=[sub[st.off]]:=by rw [Z8 h3]; rfl
    have d2:((flat u (l.getD st.idx (dflt u))).drop st.off).take 1=[c]:=by rw [Z8 hlt,ec]; rfl
    rw [d1,d2] at ht;simp only [List.zipWith_cons_cons,List.zipWith_nil_left,List.cons.injEq,and_true] at ht;simp only [aZ,e1,Option.map_some,g9 l h1];have e3:(ak u (l.getD st.idx (dflt u))).getD st.off default=c.toD:=by
     rw [List.getD,<- bh,YW,hc]; rfl
    rw [e3];generalize sub[st.off]=s0 at ht;cases s0 with
    | fr=>cases ht
    | ow s1=>
     cases c with
     | li u1 l1=>
      simp only [Tt.ow.injEq] at ht;obtain ⟨rfl,rfl,e⟩:=ht;rw [eq_of_heq e]; rfl
     | _=>cases ht
  ·cases ht
 | st::st'::r,sub,u,l,sh,v,lv,h,ht=>by
  obtain ⟨⟨h1,h2,h3⟩,h4⟩:=h;rw [YX] at h1;simp only [inT] at ht;split at ht
  ·rename_i s u' l0 e1 e2;have e3:(ak u (l.getD st.idx (dflt u))).getD st.off default=.li (l0.map (ak u')):=by
    rw [List.getD,<- bh,YW,e2]; rfl
   rw [e1,g9 l h1,e3] at h4;simp only [aZ];rw [e1,g9 l h1,e3];exact xH h4 ht
  ·cases ht
theorem Fi {cells:List Tt} {off:Nat} {sub:List Sh} {u:U} {l:List (El u)} (st:Step) (q:List Step) (h:cells[off]? = some (.ow sub u l)) :
  holed (cells.map Tt.toT) (some (off,st,q))=(cells.map Tt.toT).set off (.ow sub (bx sub (l.map (ak u)) .any (st::q))):=by
 unfold holed;dsimp only;rw [YW,h];rfl
def yc (row:List D) (off:Nat):List D->List D
 | []=>row
 | d::r=>yc (row.set off d) (off+1) r
def fO (sub:List Sh) (l:List (List D)):List T->List Step->(List (List D)->Prop)->Prop
 | [],_,K=>K l
 | t::ts,path,K=>fN sub l t path fun l1=>fO sub l1 ts (aF path 1) K
theorem kM:∀ {path:List Step} {sub:List Sh} {l:List (List D)} {t:T} {K K':List (List D)->Prop},(∀ x,K x->K' x)->fN sub l t path K->fN sub l t path K'
 | [],_,_,_,_,_,_,h=>h.elim
 | [st],sub,l,t,K,K',hk,h=>by
  simp only [fN] at h ⊢;split at h
  ·split at h
   ·exact ⟨h.1,hk _ h.2⟩
   ·exact ⟨h.1,hk _ h.2⟩
   ·exact h.elim
  ·exact h.elim
 | st::st'::r,sub,l,t,K,K',hk,h=>by
  simp only [fN] at h ⊢;split at h
  ·split at h
   ·exact kM (fun x hx=>hk _ hx) h
   ·exact h.elim
  ·exact h.elim
theorem oe:∀ {ts:List T} {path:List Step} {sub:List Sh} {l:List (List D)} {K K':List (List D)->Prop},(∀ x,K x->K' x)->fO sub l ts path K->fO sub l ts path K'
 | [],_,_,_,_,_,hk,h=>hk _ h
 | t::ts,path,sub,l,K,K',hk,h=>kM (fun x hx=>oe hk hx) h
def Fo:T->Bool
 | .d _=>true
 | .nil=>true
 | _=>false
theorem yB {sub:List Sh} {idx esz:Nat}:∀ {ts:List T} {l:List (List D)} {off:Nat} {row:List D} {K:List (List D)->Prop},l[idx]? = some row->ts.all Fo=true->frs sub off ts.length=true->off+ts.length<=row.length ->
  K (l.set idx (yc row off (ts.map T.toD)))->fO sub l ts [⟨idx,esz,off⟩] K
 | [],l,off,row,K,hl,_,_,_,hK=>by
  have:l.set idx row=l:=by
   apply ZQ
   intro n;rw [ZJ];split
   ·rename_i e;subst e;have hlt:=ae hl
    rw [if_pos hlt]; exact hl.symm
   ·rfl
  simp only [List.map_nil,yc,this] at hK;exact hK
 | t::ts,l,off,row,K,hl,hd,hf,hlen,hK=>by
  simp only [Zb,YV] at hd;simp only [Y5] at hlen hf;simp only [frs] at hf;cases hs:sub[off]? with
  | none=>rw [hs] at hf; cases hf
  | some s=>
   rw [hs] at hf;cases s with
   | ow _=>cases hf
   | fr=>
    dsimp only at hf;have hoff:off<row.length:=by omega
    simp only [fO,fN];rw [hl];dsimp only;rw [hs,YU hoff];dsimp only;refine ⟨by have h0:=hd.1; cases t <;> first | trivial | (simp [Fo] at h0),?_⟩;have hlt:=ae hl
    show fO sub _ ts [⟨idx,esz,off+1⟩] K
    refine yB (row:=row.set off t.toD) (Zh hlt) hd.2 hf (by rw [List.length_set]; omega) ?_;rw [Z3];exact hK
theorem BT (st st':Step) (r:List Step) (n:Nat):aF (st::st'::r) n=st::aF (st'::r) n:=rfl
theorem uQ {sub s:List Sh} {st st':Step}:∀ {ts:List T} {r:List Step} {l l':List (List D)} {row:List D} {K:List (List D)->Prop},l[st.idx]? = some row->sub[st.off]? = some (.ow s)->row[st.off]? = some (.li l') ->
  fO s l' ts (st'::r) (fun l''=>K (l.set st.idx (row.set st.off (.li l''))))->fO sub l ts (st::st'::r) K
 | [],r,l,l',row,K,hl,hs,hc,h=>by
  have e1:row.set st.off (.li l')=row:=by
   apply ZQ
   intro n;rw [ZJ];split
   ·rename_i e; subst e; rw [if_pos (ae hc)]; exact hc.symm
   ·rfl
  have e2:l.set st.idx row=l:=by
   apply ZQ
   intro n;rw [ZJ];split
   ·rename_i e; subst e; rw [if_pos (ae hl)]; exact hl.symm
   ·rfl
  simp only [fO,e1,e2] at h;exact h
 | t::ts,r,l,l',row,K,hl,hs,hc,h=>by
  simp only [fO,fN] at h ⊢;rw [hl];dsimp only;rw [hs,hc];dsimp only;refine kM (fun l1 h1=>?_) h;rw [BT];have hlt:=ae hl
  have hlt2:=ae hc
  obtain ⟨st2,r2,e⟩:∃ st2 r2,aF (st'::r) 1=st2::r2:=by
   cases r with
   | nil=>exact ⟨_,_,rfl⟩
   | cons a b=>exact ⟨_,_,rfl⟩
  rw [e] at h1 ⊢;refine uQ (row:=row.set st.off (.li l1)) (l':=l1) (Zh hlt) hs (Zh hlt2) ?_;refine oe (fun l2 h2=>?_) h1;rw [Z3,Z3];exact h2
theorem yb:∀ {ts:List Tt} {cs cs':List C} {off:Nat},jN cs off ts=some cs'->cs'.map C.toD=yc (cs.map C.toD) off ((ts.map Tt.toT).map T.toD)/\(ts.map Tt.toT).all Fo=true/\(ts≠[]->off+ts.length<=cs.length)/\cs'.length=cs.length
 | [],cs,cs',off,h=>by
  simp only [jN,YT] at h;subst h; exact ⟨rfl,rfl,fun h=>(h rfl).elim,rfl⟩
 | t::r,cs,cs',off,h=>by
  have step:∀ {c:C},(∃ c0,cs[off]? = some c0)->jN (cs.set off c) (off+1) r=some cs'->t.toT.toD=c.toD->Fo t.toT=true ->
    cs'.map C.toD=yc (cs.map C.toD) off (((t::r).map Tt.toT).map T.toD)/\((t::r).map Tt.toT).all Fo=true/\((t::r)≠[]->off+(t::r).length<=cs.length)/\cs'.length=cs.length:=by
   rintro c ⟨c0,hc0⟩ h2 h3 h4
   obtain ⟨k1,k2,k3,k4⟩:=yb h2;have hlt:=ae hc0
   refine ⟨?_,by simp only [List.map_cons,Zb,h4,k2,aaQ],fun _=>?_,by rw [k4,List.length_set]⟩
   ·rw [k1];simp only [List.map_cons,yc,h3,Zz]
   ·simp only [Y5];by_cases hr:r=[]
    ·subst hr; simp only [Zg]; omega
    ·have:=k3 hr; rw [List.length_set] at this; omega
  cases t with
  | d c=>
   simp only [jN] at h;split at h
   ·cases h
   ·rename_i hc; exact step ⟨_,hc⟩ h rfl rfl
   ·cases h
  | nil=>
   simp only [jN] at h;split at h
   ·rename_i u' l0 hc; exact step ⟨_,hc⟩ h rfl rfl
   ·cases h
  | _=>simp [jN] at h
theorem GJ:∀ {path:List Step} {sub:List Sh} {u:U} {l l':List (El u)} {ts:List Tt} {k:Prop} {K:List (List D)->Prop},ts≠[]->nW sub u l path k->pJ sub u l ts path=some l'->K (l'.map (ak u))->fO sub (l.map (ak u)) (ts.map Tt.toT) path K
 | [],_,_,_,_,_,_,_,_,h,_,_=>h.elim
 | [st],sub,u,l,l',ts,k,K,hne,h,ht,hK=>by
  obtain ⟨h1,_⟩:=h;simp only [pJ] at ht;split at ht
  ·rename_i cs hf ho;split at ht
   ·rename_i x hx;simp only [YT] at ht;subst ht;obtain ⟨k1,k2,k3,k4⟩:=yb ho;have e:=ug hx
    obtain ⟨idx,esz,off⟩:=st;refine yB (iS l h1) k2 (by rw [YX]; exact hf) ?_ ?_
    ·rw [YX,<- bh,YX]; exact k3 hne
    ·rw [Zz] at hK;have e2:ak u x=yc (ak u (l.getD idx (dflt u))) off ((ts.map Tt.toT).map T.toD):=by
      rw [<- bh,<- e,k1,bh]
     rw [e2] at hK;exact hK
   ·cases ht
  ·cases ht
 | st::st'::r,sub,u,l,l',ts,k,K,hne,h,ht,hK=>by
  simp only [pJ] at ht;simp only [nW] at h;split at ht
  ·rename_i s u' l0 e1 e2;rw [e1,e2] at h;obtain ⟨h1,h4⟩:=h;split at ht
   ·rename_i l2 hl2;split at ht
    ·rename_i x hx;simp only [YT] at ht;subst ht;obtain ⟨_,e⟩:=o9 hx;have e3:(ak u (l.getD st.idx (dflt u)))[st.off]? = some (.li (l0.map (ak u'))):=by
      rw [<- bh,YW,e2]; rfl
     refine uQ (iS l h1) e1 e3 (GJ hne h4 hl2 ?_);rw [Zz,e] at hK;exact hK
    ·cases ht
   ·cases ht
  ·cases ht
theorem Bk:∀ {m:Mm} {n:Nm} {r r':Root},bv (bv m n r) n r'=bv m n r'
 | [],_,_,_=>rfl
 | (k,x)::m,n,r,r'=>by
  simp only [bv];by_cases h:k=n
  ·rw [if_pos h,if_pos h]; simp only [bv,if_pos h]
  ·rw [if_neg h,if_neg h]; simp only [bv,if_neg h,Bk]
theorem Bj:∀ {m:Mm} {n:Nm} {r:Root},aa m n=some r->bv m n r=m
 | [],_,_,h=>by simp [aa] at h
 | (k,x)::m,n,r,h=>by
  simp only [aa] at h;simp only [bv];by_cases hk:k=n
  ·rw [if_pos hk] at h ⊢;rw [Option.some.inj h]
  ·rw [if_neg hk] at h ⊢;rw [Bj h]
theorem uS {K:S->Prop}:∀ {ts:List T} {s:S} {p:Pl} {r:Root} {sub:List Sh} {l:List (List D)} {st:Step} {q:List Step},aa s.m p.root=some r->p.path=st::q->r.cells[p.off]? = some (.ow sub l)->ts.all Fo=true->(∀ t∈ts,t≠.d .any) ->
  fO sub l ts (st::q) (fun l'=>K ⟨s.t,bv s.m p.root { r with cells:=r.cells.set p.off (.ow sub l') }⟩)->cD s p ts K
 | [],s,p,r,sub,l,st,q,hr,hp,hc,_,_,h=>by
  have e1:r.cells.set p.off (.ow sub l)=r.cells:=by
   apply ZQ
   intro n;rw [ZJ];split
   ·rename_i e; subst e; rw [if_pos (ae hc)]; exact hc.symm
   ·rfl
  simp only [fO,e1] at h;have:bv s.m p.root r=s.m:=Bj hr
  rw [show ({ blk:=r.blk,cells:=r.cells }:Root)=r from rfl,this] at h;exact h
 | t::ts,s,p,r,sub,l,st,q,hr,hp,hc,hd,hn,h=>by
  simp only [Zb,YV] at hd;have key:cD s p (t::ts) K=qv s.m p t fun m'=>cD ⟨s.t,m'⟩ (p.add 1) ts K:=by
   cases t with
   | d c=>cases c with
    | any=>exact ((hn _ (by simp)) rfl).elim
    | _=>rfl
   | nil=>rfl
   | _=>have:=hd.1; simp [Fo] at this
  rw [key];unfold qv;rw [hr];dsimp only;rw [hp,hc];dsimp only;simp only [fO] at h;refine kM (fun l1 h1=>?_) h;have hlt:=ae hc
  have ep:(p.add 1).root=p.root/\(p.add 1).off=p.off/\(p.add 1).path=aF (st::q) 1:=by
   obtain ⟨pr,po,pp⟩:=p;dsimp only at hp;subst hp;exact ⟨rfl,rfl,rfl⟩
  obtain ⟨st2,q2,e⟩:∃ st2 r2,aF (st::q) 1=st2::r2:=by
   cases q with
   | nil=>exact ⟨_,_,rfl⟩
   | cons a b=>exact ⟨_,_,rfl⟩
  rw [e] at h1;refine uS (s:=⟨s.t,bv s.m p.root { r with cells:=r.cells.set p.off (.ow sub l1) }⟩) (p:=p.add 1) (r:={ r with cells:=r.cells.set p.off (.ow sub l1) }) (sub:=sub) (l:=l1) (st:=st2) (q:=q2) ?_ (ep.2.2.trans e) ?_ hd.2 (fun t ht=>hn t (by simp [ht])) ?_
  ·rw [ep.1];show aa (bv s.m p.root _) p.root=_
   rw [dP hr,if_pos rfl]
  ·rw [ep.2.1];exact Zh hlt
  ·refine oe (fun l2 h2=>?_) h1;rw [ep.1,ep.2.1];dsimp only;rw [Bk,Z3];exact h2
theorem tU:∀ {ts:List Tt} {cs cs':List C} {off:Nat},jN cs off ts=some cs'->∀ t∈ts.map Tt.toT,t≠.d .any
 | [],_,_,_,_,t,ht=>by simp at ht
 | t::r,cs,cs',off,h,x,hx=>by
  cases t with
  | d c=>
   have hne:c≠.any:=by rintro rfl; simp [jN] at h
   have h':∃ cs0 o,jN cs0 o r=some cs':=by
    simp only [jN] at h;split at h
    ·cases h
    ·exact ⟨_,_,h⟩
    ·cases h
   obtain ⟨cs0,o,h'⟩:=h';rcases Y2.1 hx with rfl | hx
   ·intro e;simp only [Tt.toT,T.d.injEq] at e;cases c <;> first | exact hne rfl | (simp [C.toD] at e)
   ·exact tU h' x hx
  | nil=>
   simp only [jN] at h;split at h
   ·rcases Y2.1 hx with rfl | hx
    ·intro e; cases e
    ·exact tU h x hx
   ·cases h
  | _=>simp [jN] at h
theorem Bm:∀ {path:List Step} {sub:List Sh} {u:U} {l l':List (El u)} {ts:List Tt},pJ sub u l ts path=some l'->(∀ t∈ts.map Tt.toT,t≠.d .any)/\(ts.map Tt.toT).all Fo=true
 | [],_,_,_,_,_,h=>by simp [pJ] at h
 | [st],_,_,_,_,_,h=>by
  simp only [pJ] at h;split at h
  ·rename_i ho; exact ⟨tU ho,(yb ho).2.1⟩
  ·cases h
 | st::st'::r,_,_,_,_,_,h=>by
  simp only [pJ] at h;split at h
  ·split at h
   ·rename_i hl; exact Bm hl
   ·cases h
  ·cases h
def rA (P:Program) (s:S) (t u:TypeId) (x y:Operand) (d:Tmp) (k:S->Prop):Prop:=
 match (ty P t).k with
 | .sl e=>(ty P e).ok=true/\(ty P u).k.isSS=true/\((zcells P e).map (·.length))=some (ty P e).size /\
  match gP s (ty P e).size (ev s y) with
  | some (s1,sub1,ys)=>match gP s1 (ty P e).size (ev s1 x) with
   | some (s2,sub,l)=>sub1=sub/\CN sub1.length ys/\l.length+ys.length<=4611686018427387904/\(l.length+ys.length)*(ty P e).bytes<=140737488355328 /\
    k (((s2.fresh (.gh d)).root (.gh d) ⟨false,[.ow sub (l++ys)]⟩).put (some d) (.one (.c (.rf ⟨.gh d,0,[]⟩))))
   | none=>False
  | none=>False
 | _=>False
section
variable {P:Program} {g:G} {s:S} {a:Act} {w:World} {H:FH} {γ:Gam} {F:Nm->Fp}
theorem Wf {k:Nat} {sh:Sh} {x:D} {f:Fp} {y:Value} (hs:x.sure=true) (h:OD w H k sh x f y):m0 y=true:=by
 cases sh with
 | fr=>exact Lz hs (dU.1 h).2
 | ow sub=>
  cases k with
  | zero=>cases x <;> first | (simp [OD] at h; done) | (simp [D.sure] at hs)
  | succ k=>
   cases x with
   | li l=>
    obtain ⟨a,c,_,_,rfl,_⟩:=lu h;rfl
   | any=>simp [D.sure] at hs
   | _=>simp [OD] at h
theorem PJ {k:Nat}:∀ {ss:List Sh} {xs:List D} {f:Fp} {vs:List Value},vs.length=xs.length->(∀ x∈xs,x.sure=true)->Cs (OD w H k) ss xs f vs->∀ u∈vs,m0 u=true
 | [],[],_,vs,hl,_,_=>by
  have:vs=[]:=by simpa using hl
  subst this; simp
 | s::ss,x::xs,f,vs,hl,hx,h=>by
  obtain ⟨v,r,f1,f2,rfl,_,h1,h2⟩:=h;intro u hu;rcases Y2.1 hu with rfl | hu
  ·exact Wf (hx x (by simp)) h1
  ·exact PJ (by simpa using hl) (fun y hy=>hx y (by simp [hy])) h2 u hu
 | [],_::_,_,_,_,_,h=>h.elim
 | _::_,[],_,_,_,_,h=>h.elim
theorem Vl {k:Nat} {sub:List Sh} {ys:List (List D)} {f:Fp} {v:Value} (h:OD w H k (.ow sub) (.li ys) f v) (hok:CN sub.length ys) :
  ∃ (kx:Nat) (gx:Fp) (ws:List Value),Src P w sub.length v ys.length ws/\Cs (OD w H kx) (List.replicate ys.length sub).flatten ys.flatten gx ws/\(∀ u∈ws,m0 u=true)/\∀ b,gx b<=f b:=by
 cases k with
 | zero=>simp [OD] at h
 | succ k=>
  obtain ⟨ad,c,gg,vs,rfl,hlc,hlb,hlen,hvs,hcs,hwhere⟩:=lu h;refine ⟨k,gg,vs,?_,hcs,?_,?_⟩
  ·rcases hwhere with ⟨rfl,rfl,rfl,_⟩ | ⟨b,cs,ty,fz,rfl,hb,hfz,hcsz,rfl,hf⟩
   ·have:vs=[]:=by simpa using hvs
    subst this;exact ny
   ·refine s7 hvs (fun j u hj=>?_);have hjl:=ae hj
    rw [ZY] at hjl;rw [Ze (by omega)] at hj;simp only [World.cell?,hb,ZS,Y4,if_false,ZI];simpa using hj
  ·refine PJ (by rw [hvs,bL _ _ hlen]) (fun x hx=>?_) hcs;rw [List.mem_flatten] at hx;obtain ⟨y,hy,hxy⟩:=hx;exact (hok y hy).2 x hxy
  ·intro b;rcases hwhere with ⟨rfl,rfl,rfl,hf0⟩ | ⟨b',cs,ty,fz,rfl,hb,hfz,hcsz,rfl,hf⟩
   ·have hv0:vs=[]:=by simpa using hvs
    have:∀ b,gg b=0:=by simpa [Cs] using hcs
    rw [this b]; exact ZE _
   ·rw [hf]; omega
theorem lF (h:RX g s a w H γ F) {size:Nat} {x:AV} {v:Value} {s1:S} {sub:List Sh} {l:List (List D)} (hx:AR w H γ s.m x v) (hb:gP s size x=some (s1,sub,l)) :
  ∃ k f F1,OD w H k (.ow sub) (.li l) f v/\RX g s1 a w H γ F1/\sub.length=size/\(∀ b,tot F1 s1.m b+f b=tot F s.m b)/\(∀ b,f b≠0->b<w.heap.size/\(∀ o,H b o=none)/\(g.own0 b≠0\/g.w0.heap.size<=b)):=by
 match x,hb with
 | .one (.c .nil),hb=>
  simp only [gP,YT,Prod.mk.injEq] at hb;obtain ⟨rfl,rfl,rfl⟩:=hb;obtain ⟨_,rfl⟩:=hx;refine ⟨1,fun _=>0,F,?_,h,by simp,fun b=>rfl,fun b hb=>absurd rfl hb⟩;rw [dy]; exact .inl ⟨rfl,rfl,fun _=>rfl⟩
 | .one (.c (.rf q)),hb=>
  simp only [gP] at hb;cases hg:aP s.m q with
  | none=>rw [hg] at hb; simp at hb
  | some t=>
   rw [hg] at hb;cases t with
   | ow sub' l'=>
    dsimp only at hb;split at hb
    ·rename_i hsz;simp only [YT,Prod.mk.injEq] at hb;obtain ⟨rfl,rfl,rfl⟩:=hb;obtain ⟨_,hok,hv⟩:=hx;obtain ⟨v',f,F',e1,⟨k,e2⟩,e3,e4⟩:=D5 h (dG hok) hg;rw [hv] at e1;obtain rfl:v=v':=by simpa using e1
     exact ⟨k,f,F',e2,e3,hsz,e4,fun b hb=>by
      have hne:tot F s.m b≠0:=by have:=e4 b; omega
      exact ⟨h.mem.lt b hne,h.mem.nofz b hne,h.fr.tt b hne⟩⟩
    ·simp at hb
   | _=>simp at hb
theorem Eu (h:RX g s a w H γ F) {t u tt:TypeId} {x y:Operand} {d:Tmp} {k:S->Prop} (hd:okD g.nt (some d)=true) (hx:au x=true) (hy:au y=true) (hK:rA P s t u x y d k) :
  ∃ s' z w' H' γ' F',(Builtin.append_ #[t,u] tt #[a.eval x,a.eval y]).run P w=.ok z w'/\k s'/\RX g s' (a.put (some d) z) w' H' γ' F':=by
 unfold rA at hK;cases hk:(ty P t).k with
 | sl e=>
  rw [hk] at hK;obtain ⟨hok,hss,hzl,hK⟩:=hK;obtain ⟨_,td,hit,hud,htk,_⟩:=aO hk (by simp);have:=mV htk
  subst this;obtain ⟨ie,de,hie,_,_,hsize,hbytes,_⟩:=eE hok;rw [hsize,hbytes] at hK;rw [hsize] at hzl;obtain ⟨zs,hzs,hzl⟩:=Y7.1 hzl;obtain ⟨it',z,hi',hz,hzc,_⟩:=ji hzs;rw [hie] at hi';obtain rfl:ie=it':=by simpa using hi'
  have hzsz:z.cells.size=ie.size:=by rw [<- hzl,<- hzc]; simp
  obtain ⟨ud,huu,hudd⟩:∃ ud,P.underlying u=some ud/\isSS ud=true:=by
   have hne:(ty P u).k≠.ot:=fun e=>by rw [e] at hss; simp [TK.isSS] at hss
   obtain ⟨_,ud,_,h2,h3,_⟩:=aO rfl hne;refine ⟨ud,h2,?_⟩;rw [<- h3] at hss;cases ud <;> first | rfl | (simp [eC,TK.isSS] at hss)
  cases hsr:gP s ie.size (ev s y) with
  | none=>rw [hsr] at hK; exact hK.elim
  | some q1=>
   obtain ⟨s1,sub1,ys⟩:=q1;rw [hsr] at hK;dsimp only at hK;obtain ⟨k1,f1,F1,d1,h1,d3,d4,d5⟩:=lF h (az h hy) hsr;cases hbs:gP s1 ie.size (ev s1 x) with
   | none=>rw [hbs] at hK; exact hK.elim
   | some q=>
    obtain ⟨s2,sub,l⟩:=q;rw [hbs] at hK;obtain ⟨hsub,hrows,hb62,hby,hK⟩:=hK;subst hsub;obtain ⟨kb,f,F2,b1,b2,b3,b4',b5⟩:=lF h1 (az h1 hx) hbs;have b4:∀ b,tot F2 s2.m b+f b+f1 b<=1:=fun b=>by have:=b4' b; have:=d4 b; have:=h.mem.le1 b; omega
    obtain ⟨kx,gx,ws,r1,r2,r3,r4⟩:=Vl (P:=P) d1 hrows;rw [d3] at r1;obtain ⟨z',w',f',c1,⟨k',c2⟩,c3,c4,c5,c6,c7,c8,c9⟩:=yr (tt:=tt) hud huu hudd hie hz hzsz (gx:=gx) (kx:=kx) b3 b1 r1 (fun y hy=>(hrows y hy).1)
     r2 r3 (fun b=>by have:=b4 b; have:=r4 b; omega) (fun b hb=>by rcases hb with hb | hb; exact (b5 b hb).1; exact (d5 b (by have:=r4 b; omega)).1) hb62 hby
    have hX:=nw b2 c3 c4 c5 c6 (fun b hb=>by
     rcases c7 b hb with h3 | h3
     ·exact .inl h3
     ·exact .inr ⟨by have:=b4 b; omega,(b5 b h3.1).2.1,(b5 b h3.1).2.2,h3.2⟩)
    have hX2:=bS hX (.gh d)
    have hn:=bB hX (.gh d)
    have hHnew:∀ b,w.heap.size<=b->∀ o,H b o=none:=by
     intro b hb o;cases hc:H b o with
     | none=>rfl
     | some y=>have:=(h1.mem.agree _ _ _ hc).lt; (try simp at this); omega
    have hts:∀ b,tot F2 (s2.fresh (.gh d)).m b<=tot F2 s2.m b:=by
     intro b;unfold S.fresh;split
     ·exact YY _
     ·show tot F2 (aw _ _) b<=_
      rw [aQ]; exact eD
    have htz:tot F2 s2.m w.heap.size=0:=by
     rcases Zj (tot F2 s2.m w.heap.size) with h' | h'
     ·exact h'
     ·have:=b2.mem.lt w.heap.size (by omega); omega
    have own:∀ b,f' b≠0->b≠w.heap.size->b<w.heap.size/\(∀ o,H b o=none)/\(g.own0 b≠0\/g.w0.heap.size<=b):=by
     intro b hb hb2;have h5:=c8 b
     have h6:=r4 b
     rw [if_neg hb2] at h5;by_cases hf:f b=0
     ·exact d5 b (by omega)
     ·exact b5 b hf
    obtain ⟨γ',F',hX3,hγ⟩:=cO hX2 (n:=.gh d) rfl hn (v:=z') (t:=.ow sub1 (l++ys)) (f:=f') ⟨k',c2⟩ (fun b=>by
      have h3:=hts b; have h4:=b4 b; have h5:=c8 b; have h6:=r4 b
      by_cases hb:b=w.heap.size
      ·subst hb;have e1:f w.heap.size=0:=by
        rcases Zj (f w.heap.size) with h' | h'
        ·exact h'
        ·have:=(b5 w.heap.size (by omega)).1; omega
       have e2:f1 w.heap.size=0:=by
        rcases Zj (f1 w.heap.size) with h' | h'
        ·exact h'
        ·have:=(d5 w.heap.size (by omega)).1; omega
       rw [if_pos rfl] at h5; omega
      ·rw [if_neg hb] at h5; omega)
     (fun b hb=>⟨c9 b hb,by
      by_cases hb2:b=w.heap.size
      ·subst hb2; exact hHnew _ (YY _)
      ·exact (own b hb hb2).2.1⟩)
     (fun b hb=>by
      by_cases hb2:b=w.heap.size
      ·right; have:=b2.fr.size; omega
      ·exact (own b hb hb2).2.2)
    refine ⟨_,z',w',H,γ',F',c1,hK,RX.put hX3 hd (fA (sub:=sub1) (l:=l++ys) ?_ hγ)⟩;simp [aa]
 | _=>rw [hk] at hK; exact hK.elim
end
def fzS:List Sh->List T->Option (List D)
 | [],[]=>some []
 | .fr::ss,t::ts=>match fzS ss ts with
  | some r=>some (t.fz::r)
  | none=>none
 | .ow _::ss,.nil::ts=>match fzS ss ts with
  | some r=>some (.li []::r)
  | none=>none
 | _,_=>none
section
variable {P:Program} {g:G} {s:S} {a:Act} {w:World} {H:FH} {γ:Gam} {F:Nm->Fp}
theorem Bx {k:Nat} {m:Mm}:∀ {ss:List Sh} {ts:List T} {xs:List D} {f:Fp} {vs:List Value},(∀ b,f b=0)->fzS ss ts=some xs->Ts (TR w H γ m) ts f vs ->
  Cs (OD w H (k+1)) ss xs f vs
 | [],[],xs,_,_,hf,hz,_=>by
  simp only [fzS,YT] at hz; subst hz; exact hf
 | .fr::ss,t::ts,xs,f,vs,hf,hz,h=>by
  simp only [fzS] at hz;cases h5:fzS ss ts with
  | none=>rw [h5] at hz; cases hz
  | some r0=>
   rw [h5] at hz;simp only [YT] at hz;subst hz;obtain ⟨v,r,f1,f2,h1,h2,h3,h4⟩:=h;refine ⟨v,r,f1,f2,h1,h2,?_,Bx (fun b=>by have:=hf b; have:=h2 b; omega) h5 h4⟩;rw [dU];refine ⟨fun b=>by have:=hf b; have:=h2 b; omega,?_⟩;cases t with
   | d x=>exact h3.2
   | nil=>obtain ⟨_,rfl⟩:=h3; exact j9
   | _=>exact ⟨0,trivial⟩
 | .ow sub::ss,.nil::ts,xs,f,vs,hf,hz,h=>by
  simp only [fzS] at hz;cases h5:fzS ss ts with
  | none=>rw [h5] at hz; cases hz
  | some r0=>
   rw [h5] at hz;simp only [YT] at hz;subst hz;obtain ⟨v,r,f1,f2,h1,h2,h3,h4⟩:=h;refine ⟨v,r,f1,f2,h1,h2,?_,Bx (fun b=>by have:=hf b; have:=h2 b; omega) h5 h4⟩;obtain ⟨_,rfl⟩:=h3;rw [dy];exact .inl ⟨rfl,rfl,fun b=>by have:=hf b; have:=h2 b; omega⟩
 | [],_::_,_,_,_,_,hz,_=>by simp [fzS] at hz
 | .fr::_,[],_,_,_,_,hz,_=>by simp [fzS] at hz
 | .ow _::_,[],_,_,_,_,hz,_=>by simp [fzS] at hz
 | .ow _::_,.d _::_,_,_,_,_,hz,_=>by simp [fzS] at hz
 | .ow _::_,.ow _ _::_,_,_,_,_,hz,_=>by simp [fzS] at hz
 | .ow _::_,.el _ _::_,_,_,_,_,hz,_=>by simp [fzS] at hz
 | .ow _::_,.pl _::_,_,_,_,_,hz,_=>by simp [fzS] at hz
 | .ow _::_,.rf _::_,_,_,_,_,hz,_=>by simp [fzS] at hz
 | .ow _::_,.any::_,_,_,_,_,hz,_=>by simp [fzS] at hz
theorem wC (h:RX g s a w H γ F) {n:Nm} (hno:n.isOut=false) (hn:aa s.m n=none) {cs:Array Value} {ty':TypeId} {len cap:Nat} {sub:List Sh} {l:List (List D)} (hl:l.length=len) (hle:len<=cap) (hbig:len<=BIG)
  (hx:∀ x∈l,x.length=sub.length) (hsz:cs.size=cap*sub.length) (hcs:∀ k,Cs (OD w H (k+1)) (List.replicate len sub).flatten l.flatten (fun _=>0) cs.toList) :
  ∃ γ' F',RX g (s.root n ⟨false,[.ow sub l]⟩) a (w.alloc (.cells cs ty')) H γ' F'/\γ' n=.gh (.slice (some ⟨w.heap.size,0,none⟩) len cap):=by
 obtain ⟨hm,hf,hK,hH⟩:=oD h.mem cs ty' false;simp only [Y4,false_and,if_false] at hm hf hK hH;have hX:RX g s a (w.alloc (.cells cs ty')) H γ F:=eG h hm hf (fun i=>bQ hK (fun _ _ _ h=>h) (h.t i)) (fun _=>rfl)
 have hz:tot F s.m w.heap.size=0:=by
  rcases Zj (tot F s.m w.heap.size) with h' | h'
  ·exact h'
  ·have:=h.mem.lt w.heap.size (by omega); omega
 have hHz:∀ o,H w.heap.size o=none:=by
  intro o;cases hc:H w.heap.size o with
  | none=>rfl
  | some y=>have:=(h.mem.agree _ _ _ hc).lt; simp at this
 have hcs':∀ k,Cs (OD (w.alloc (.cells cs ty')) H (k+1)) (List.replicate len sub).flatten l.flatten (fun _=>0) cs.toList:=by
  intro k;refine j8 _ _ _ _ (fun s x g v hg hod=>?_) (hcs k);exact bJ (fun _ _ _ h=>h) (k+1) (k+1) _ _ _ _ (YY _) (fun b hb=>absurd (Nat.le_zero.1 (hg b)) hb) hod
 subst hl;have hod:TR (w.alloc (.cells cs ty')) H γ s.m (.ow sub l) (fun b=>0+if b=w.heap.size then 1 else 0) (.slice (some ⟨w.heap.size,0,none⟩) l.length cap):=
  ⟨2,wA (bj) rfl hsz hle hbig hx (hcs' 0)⟩
 exact cO hX hno hn hod (fun b=>by
   by_cases hb:b=w.heap.size
   ·subst hb; rw [hz]; simp
   ·rw [if_neg hb]; have:=h.mem.le1 b; omega)
  (fun b hb=>by
   have hb':b=w.heap.size:=by
    by_cases hb':b=w.heap.size
    ·exact hb'
    ·rw [if_neg hb'] at hb; simp at hb
   subst hb';exact ⟨by simp,hHz⟩)
  (fun b hb=>by
   have hb':b=w.heap.size:=by
    by_cases hb':b=w.heap.size
    ·exact hb'
    ·rw [if_neg hb'] at hb; simp at hb
   right; have:=h.fr.size; omega)
def iQ (P:Program) (s0:S) (t:TypeId) (len:Nat) (sub:List Sh) (ps:Array (Nat×Operand)) (d:Tmp) (k:S->Prop):Prop:=
 match (ty P t).k with
 | .sl e=>(ty P e).ok=true/\(zcells P e).isSome=true/\len*(ty P e).size<=16777216/\len<=16777216/\sub.length=(ty P e).size /\
  let s:=(iE s0 (ps.toList.map fun x=>ev s0 x.2)).fresh (.gh d)
  match iD (fun i=>some (i*(ty P e).size,(ty P e).size)) (List.replicate (len*(ty P e).size) .any) (jO s ps) with
  | some ts=>match fzS (List.replicate len sub).flatten ts with
   | some xs=>k ((s.root (.gh d) ⟨false,[.ow sub (chunk (ty P e).size len xs)]⟩).put (some d) (.one (.c (.rf ⟨.gh d,0,[]⟩))))
   | none=>False
  | none=>False
 | _=>False
theorem vb (h:RX g s a w H γ F) {t:TypeId} {len:Nat} {ps:Array (Nat×Operand)} {d:Tmp} {sub:List Sh} {k:S->Prop} (hd:okD g.nt (some d)=true) (hp:(ps.toList.all fun x=>au x.2)=true) (hK:iQ P s t len sub ps d k) :
  ∃ s' y w' H' γ' F',(Instr.buildSlice t len (ps.map fun (i,x)=>(i,a.eval x))).run P w=.ok y w'/\k s'/\RX g s' (a.put (some d) y) w' H' γ' F':=by
 unfold iQ at hK;cases hk:(ty P t).k with
 | sl e=>
  rw [hk] at hK;obtain ⟨hok,hzc,hsmall,hlb,hsl,hK⟩:=hK;obtain ⟨_,td,hit,hud,htk,_⟩:=aO hk (by simp);have:=mV htk
  subst this;obtain ⟨ie,de,hie,_⟩:=eE hok;have hsize:(ty P e).size=ie.size:=by
   obtain ⟨ie',_,hie',_,_,hs,_⟩:=eE hok;rw [hie] at hie';obtain rfl:ie=ie':=by simpa using hie'
   exact hs
  obtain ⟨zs,hzs⟩:=Option.isSome_iff_exists.1 hzc;obtain ⟨it',z,hi',hz,_⟩:=ji hzs;rw [hie] at hi';obtain rfl:ie=it':=by simpa using hi'
  obtain ⟨H1,F1,h1⟩:=ju (ps.toList.map fun x=>ev s x.2) s H F h;have h2:=bS h1 (.gh d)
  have hn:=bB h1 (.gh d)
  dsimp only at hK;generalize (iE s (ps.toList.map fun x=>ev s x.2)).fresh (.gh d)=s2 at hK h2 hn;cases hf:iD (fun i=>some (i*(ty P e).size,(ty P e).size)) (List.replicate (len*(ty P e).size) .any) (jO s2 ps) with
  | none=>rw [hf] at hK; exact hK.elim
  | some ts=>
   rw [hf] at hK;dsimp only at hK;rw [hsize] at hf hK hsmall hsl;have hpr:PR w H1 γ s2.m (jO s2 ps) (ps.map fun (i,x)=>(i,a.eval x)).toList:=by
    rw [Array.toList_map];exact qV (m:=s2.m) h2 hp
   have hfill:∀ us:Array Value,us.size=len*ie.size->∃ cs,Instr.fill (fun i=>some (i*ie.size,ie.size)) us (ps.map fun (i,x)=>(i,a.eval x)).toList=some cs/\cs.size=ts.length/\Ts (TR w H1 γ s2.m) ts (fun _=>0) cs.toList:=by
    intro us hus;refine vB h2.mem _ _ _ us ts hpr (by simpa using hus) ?_ hf;have:=IW (w:=w) (H:=H1) (γ:=γ) (m:=s2.m) (vs:=us.toList)
    rw [show us.toList.length=len*ie.size from by simpa using hus] at this;exact this
   have hlen:ts.length=len*ie.size:=by rw [mB hf]; simp
   obtain ⟨us,cs,u1,u2,u3⟩:=ix (P:=P) (w:=w) (t:=t) (e:=e) (len:=len) (vs:=ps.map fun (i,x)=>(i,a.eval x)) (cells:=#[]) hud hie hz (by omega) (fun us hus=>by
    obtain ⟨cs,c1,c2,_⟩:=hfill us hus;exact ⟨cs,c1,by rw [c2,hlen],.inr trivial⟩)
   obtain ⟨cs',c1,c2,c3⟩:=hfill us u1;rw [u2] at c1;obtain rfl:cs=cs':=by simpa using c1
   cases hz2:fzS (List.replicate len sub).flatten ts with
   | none=>rw [hz2] at hK; exact hK.elim
   | some xs=>
    rw [hz2] at hK;dsimp only at hK;have hcs:∀ k,Cs (OD w H1 (k+1)) (List.replicate len sub).flatten xs (fun _=>0) cs.toList:=fun k=>Bx (fun _=>rfl) hz2 c3
    have hmap:xs.length=len*ie.size:=by
     have h5:=(Ad _ _ _ _ (hcs 0)).1
     rw [<- h5,bL sub.length _ (fun x hx=>by rw [(List.mem_replicate.1 hx).2]),ZW,hsl]
    obtain ⟨γ',F',hX,hγ⟩:=wC h2 (n:=.gh d) rfl hn (cs:=cs) (ty':=e) (len:=len) (cap:=len) (sub:=sub) (l:=chunk ie.size len xs) mz (YY _) (by
      show len<=2 ^ 62
      omega) (by rw [hsl]; exact tB hmap) (by rw [c2,hlen,hsl]) (fun k=>by
       rw [qb hmap];exact hcs k)
    refine ⟨_,_,_,H1,γ',F',u3,hK,RX.put hX hd (fA (sub:=sub) (l:=chunk ie.size len xs) ?_ hγ)⟩;simp [S.root,aa]
 | _=>rw [hk] at hK; exact hK.elim
end
abbrev upS (k:St->Prop):S->Prop:=fun s'=>∃ t:St,SEq s' t.toS/\k t
theorem Lb {P:Program} {t:TypeId} {zs:List Value} (h:zcells P t=some zs):zs.all okT=true:=by
 unfold zcells at h;split at h
 ·split at h
  ·split at h
   ·rename_i hz;simp only [YT] at h;subst h;simpa using hz
   ·cases h
  ·cases h
 ·cases h
section
variable {P:Program} {s:St} {k:St->Prop}
theorem Nk {t:TypeId} {d:Tmp} (hn:ND s.m) (h:nC P s t d k):s8 P s.toS t d (upS k):=by
 unfold nC at h;split at h
 ·rename_i z zs hz;split at h
  ·rename_i hd;unfold s8;rw [hz];refine ⟨by simp,YZ hd,_,?_,h⟩;have e:((s.fresh (j0 t d)).root (j0 t d) ⟨true,(z::zs).map nK,none⟩).toS=(s.toS.fresh (j0 t d)).root (j0 t d) ⟨true,(z::zs).map pj⟩:=by
    rw [<- bk hn,<- L8 (Lb hz)]; rfl
   rw [<- e];exact aD ((s.fresh (j0 t d)).root (j0 t d) ⟨true,(z::zs).map nK,none⟩) (some d) (.one (.c (.pl ⟨j0 t d,0,[]⟩)))
  ·exact h.elim
 ·exact h.elim
theorem TQ {x:Operand} {d:Tmp} (hn:ND s.m) (hx:au x=true) (h:EC s x d k):Nu s.toS x d (upS k):=by
 unfold EC at h;split at h
 ·rename_i t ts hc;split at h
  ·rename_i hd;simp only [YV] at hd;unfold Nu;rw [<- bk hn,ac hx,qa,hc];dsimp only [Option.map_some];refine ⟨by simp,?_,YZ hd.2,_,?_,h⟩
   ·rw [aaU,<- hd.1]; congr 1; funext t; exact GQ t
   ·exact aD ((s.fresh (.loc d)).root (.loc d) ⟨true,t::ts,none⟩) (some d) (.one (.c (.pl ⟨.loc d,0,[]⟩)))
  ·exact h.elim
 ·exact h.elim
theorem Mf {u:U} {t:Tt} {x:El u} (h:yZ u t=some x):t.toT.fz=(ah u x).toD:=by
 unfold yZ at h;split at h
 ·split at h
  ·simp only [YT] at h; subst h; rfl
  ·cases h
 ·rename_i c _; rw [cr h];rfl
 ·split at h
  ·simp only [YT] at h; subst h; rfl
  ·cases h
 ·cases h
theorem Fe:∀ {us:List U} {ts:List Tt} {x:Fl us},kh us ts=some x->ts.map (fun t=>t.toT.fz)=(dB us x).map C.toD
 | [],[],_,_=>rfl
 | u::r,c::cs,x,h=>by
  simp only [kh] at h;cases h1:yZ u c with
  | none=>rw [h1] at h; cases h
  | some y=>
   cases h2:kh r cs with
   | none=>rw [h1,h2] at h; cases h
   | some z=>
    rw [h1,h2] at h;simp only [YT] at h;subst h;rw [dB,rM,sr,List.map_cons,List.map_cons,Mf h1,Fe h2]
 | [],_::_,_,h=>by simp [kh] at h
 | _::_,[],_,h=>by simp [kh] at h
theorem Uq {u:U} {ts:List Tt} {x:El u} (h:gf u ts=some x):ts.map (fun t=>t.toT.fz)=ak u x:=by
 rw [<- bh];cases u with
 | st n=>
  simp only [gf] at h;cases h1:kh (sd n).fs ts with
  | none=>rw [h1] at h; cases h
  | some y=>
   rw [h1] at h;have:=Option.some.inj h
   subst this;show _=(dB (sd n).fs ((sd n).un ((sd n).mkF y))).map C.toD
   rw [(sd n).l2,Fe h1]
 | _=>
  cases ts with
  | nil=>cases h
  | cons t r=>cases r with
   | nil=>rw [jc rfl]; simp only [List.map_cons,List.map_nil]; rw [Mf h]
   | cons _ _=>cases h
theorem mE {u:U}:∀ {rows:List (List Tt)} {l:List (El u)},fI u rows=some l->rows.map (fun r=>r.map fun t=>t.toT.fz)=l.map (ak u)
 | [],l,h=>by simp only [fI,YT] at h; subst h; rfl
 | r::rs,l,h=>by
  simp only [fI] at h;cases h1:gf u r with
  | none=>rw [h1] at h; cases h
  | some x=>
   cases h2:fI u rs with
   | none=>rw [h1,h2] at h; cases h
   | some xs=>
    rw [h1,h2] at h;simp only [YT] at h;subst h;rw [List.map_cons,List.map_cons,Uq h1,mE h2]
theorem tA {α β:Type} (f:α->β) (size:Nat):∀ (n:Nat) (l:List α),chunk size n (l.map f)=(chunk size n l).map (·.map f)
 | 0,_=>rfl
 | n+1,l=>by simp only [chunk,List.map_cons,aaG]; rw [<- aaR,tA f size n]
theorem Ee {ps:Array (Nat×Operand)} (h:(dH s ps).all (fun x=>x.2.noRf)=true):(ps.toList.map fun x=>evA s x.2).all At.noRf=true:=by
 unfold dH at h;rw [aaU] at h ⊢;exact h
theorem Mb {xs:List (Nat×Operand)} (h:(xs.all fun x=>au x.2)=true):(xs.map fun x=>ev s.toS x.2)=(xs.map fun x=>evA s x.2).map At.toV:=by
 rw [Y9];exact Zc fun x hx=>ac (Y6.1 h x hx)
theorem xd {E:Ut} {t:TypeId} {len:Nat} {ps:Array (Nat×Operand)} {d:Tmp} (hps:(ps.toList.all fun x=>au x.2)=true)
  (hn:ND (bm s (ps.toList.map fun x=>evA s x.2)).m) (h:cX P E s t len ps d k):fj P (bm s (ps.toList.map fun x=>evA s x.2)).toS t len ps d (upS k):=by
 unfold cX at h;split at h
 ·rename_i e ht;split at h
  ·rename_i u z he hz;split at h
   ·rename_i hc;simp only [YV] at hc;obtain ⟨⟨⟨c1,c2⟩,c3⟩,c4⟩:=hc;have hsz:=Y1 c2
    dsimp only at h;generalize hs1:bm s (ps.toList.map fun x=>evA s x.2)=s1 at h hn;split at h
    ·rename_i ts hf hno;split at h
     ·rename_i l hl;unfold fj;rw [ht];dsimp only;refine ⟨c1,by rw [hz]; rfl,by rw [<- hsz]; exact YZ c3,YZ c4,?_⟩;rw [Mb hps,dc (Ee hno),<- bk hn,tW hps,<- hsz];have hf':=oO hf
      rw [List.map_replicate] at hf';have e0:Tt.any.toT=T.any:=rfl
      rw [e0] at hf';rw [hf'];dsimp only;refine ⟨_,?_,h⟩;have er:(⟨false,[.ow (List.replicate (nc u) .fr) u l],none⟩:Rt).toR=⟨false,[.ow (List.replicate (nc u) .fr) (chunk (nc u) len ((ts.map Tt.toT).map T.fz))]⟩:=by
       have e2:chunk (nc u) len ((ts.map Tt.toT).map T.fz)=l.map (ak u):=by rw [Y9,tA]; exact mE hl
       rw [e2]; rfl
      rw [<- er];exact aD ((s1.fresh (.gh d)).root (.gh d) ⟨false,[.ow (List.replicate (nc u) .fr) u l],none⟩) (some d) (.one (.c (.rf ⟨.gh d,0,[]⟩)))
     ·exact h.elim
    ·exact h.elim
   ·exact h.elim
  ·exact h.elim
 ·exact h.elim
theorem sm:∀ {ss:List Sh} {ts:List Tt},l5 ss ts=true->fzS ss (ts.map Tt.toT)=some (ts.map fun t=>t.toT.fz)
 | [],[],_=>rfl
 | .fr::r,t::ts,h=>by
  simp only [List.map_cons,fzS];rw [sm (show l5 r ts=true from h)]
 | .ow sub::r,t::ts,h=>by
  cases t with
  | nil=>
   simp only [List.map_cons,Tt.toT,fzS];rw [sm (show l5 r ts=true from h)]; rfl
  | _=>simp [l5] at h
 | [],_::_,h=>by simp [l5] at h
 | .fr::_,[],h=>by simp [l5] at h
 | .ow _::_,[],h=>by simp [l5] at h
theorem vd {E:Ut} {sub:List Sh} {t:TypeId} {len:Nat} {ps:Array (Nat×Operand)} {d:Tmp} (hps:(ps.toList.all fun x=>au x.2)=true)
  (hn:ND (bm s (ps.toList.map fun x=>evA s x.2)).m) (h:cw P E sub s t len ps d k):iQ P (bm s (ps.toList.map fun x=>evA s x.2)).toS t len sub ps d (upS k):=by
 unfold cw at h;split at h
 ·rename_i e ht;split at h
  ·rename_i u z he hz;split at h
   ·rename_i hc;simp only [YV] at hc;obtain ⟨⟨⟨⟨c1,c2⟩,c3⟩,c4⟩,c5⟩:=hc;have hsz:=Y1 c2
    dsimp only at h;generalize hs1:bm s (ps.toList.map fun x=>evA s x.2)=s1 at h hn;split at h
    ·rename_i ts hf hno;split at h
     ·rename_i l hl hsub;unfold iQ;rw [ht];dsimp only;refine ⟨c1,by rw [hz]; rfl,by rw [<- hsz]; exact YZ c3,YZ c4,by rw [<- hsz]; exact Y1 c5,?_⟩;rw [Mb hps,dc (Ee hno),<- bk hn,tW hps,<- hsz];have hf':=oO hf
      rw [List.map_replicate] at hf';have e0:Tt.any.toT=T.any:=rfl
      rw [e0] at hf';rw [hf'];dsimp only;rw [sm hsub];dsimp only;refine ⟨_,?_,h⟩;have er:(⟨false,[.ow sub u l],none⟩:Rt).toR=⟨false,[.ow sub (chunk (nc u) len (ts.map fun t=>t.toT.fz))]⟩:=by
       have e2:chunk (nc u) len (ts.map fun t=>t.toT.fz)=l.map (ak u):=by rw [tA]; exact mE hl
       rw [e2]; rfl
      rw [<- er];exact aD ((s1.fresh (.gh d)).root (.gh d) ⟨false,[.ow sub u l],none⟩) (some d) (.one (.c (.rf ⟨.gh d,0,[]⟩)))
     ·exact h.elim
    ·exact h.elim
   ·exact h.elim
  ·exact h.elim
 ·exact h.elim
theorem wz {m:List (Nm×Nat×Rt)} {n:Nm} {i:Nat} {r:Rt} (h:ND m):ND (cq m n i r):=by
 unfold ND; rw [A5]; exact h
theorem OI (t:Tt):t.toT.owned=t.owned:=by cases t <;> rfl
theorem MB {p:Pl} {t:Tt} (h:zy s p t k) (hn:ND s.m):∃ m',(∀ K:Mm->Prop,K m'->qv s.toS.m p t.toT K)/\∃ s':St,s'.toS=⟨s.toS.t,m'⟩/\ND s'.m/\k s':=by
 unfold zy at h;split at h
 ·exact h.elim
 ·rename_i r hr;split at h
  ·rename_i t0 hpath hh hc;split at h
   ·rename_i ho;have ec:r.toR.cells=r.cells.map Tt.toT:=by show holed _ r.hole=_; rw [hh]; rfl
    refine ⟨bv s.toS.m p.root ⟨r.blk,(r.cells.map Tt.toT).set p.off t.toT⟩,fun K hK=>?_,_,?_,wz hn,h⟩
    ·unfold qv;rw [show aa s.toS.m p.root=some r.toR from aM hr];dsimp only;rw [hpath,ec,YW,hc];exact ⟨by rw [OI]; exact ho,hK⟩
    refine aU.S_ext rfl ?_;show toM (cq s.m p.root s.nx _)=_
    rw [dI]
    congr 1
    simp only [Rt.toR,hh,holed,Zz]
   ·exact h.elim
  ·rename_i st q sub u l hpath hh hc;split at h
   ·rename_i l' hl;have ec:r.toR.cells=r.cells.map Tt.toT:=by show holed _ r.hole=_; rw [hh]; rfl
    refine ⟨bv s.toS.m p.root ⟨r.blk,(r.cells.map Tt.toT).set p.off (.ow sub (l'.map (ak u)))⟩,fun K hK=>?_,_,?_,wz hn,CO h⟩
    ·unfold qv;rw [show aa s.toS.m p.root=some r.toR from aM hr];dsimp only;rw [hpath,ec,YW,hc];exact GI h hl hK
    refine aU.S_ext rfl ?_;show toM (cq s.m p.root s.nx _)=_
    rw [dI]
    congr 1
    simp only [Rt.toR,hh,holed,Zz,Tt.toT]
   ·exact h.elim
  ·rename_i st q off st' q' sub u l hpath hh hc;split at h
   ·rename_i sh v lv hb;split at h
    ·rename_i l' hl;have hoff:off=p.off:=Y1 hb
     subst hoff;obtain ⟨epath,hk⟩:=AM (CO h);have hlt:p.off < (r.cells.map Tt.toT).length:=by rw [YX]; exact ae hc
     simp only [List.cons.injEq] at epath;obtain ⟨rfl,rfl⟩:=epath;have ec:r.toR.cells=(r.cells.map Tt.toT).set p.off (.ow sub (bx sub (l.map (ak u)) .any (st'::q'))):=by
      show holed _ r.hole=_
      rw [hh]; exact Fi _ _ hc
     refine ⟨bv s.toS.m p.root ⟨r.blk,(r.cells.map Tt.toT).set p.off (.ow sub (l'.map (ak u)))⟩,fun K hK=>?_,_,?_,wz hn,hk⟩
     ·unfold qv;rw [show aa s.toS.m p.root=some r.toR from aM hr];dsimp only;rw [hpath,ec,Zh hlt];refine EZ h hl ?_;rw [Z3];exact hK
     refine aU.S_ext rfl ?_;show toM (cq s.m p.root s.nx _)=_
     rw [dI]
     congr 1
     simp only [Rt.toR,holed,Zz,Tt.toT]
    ·exact h.elim
   ·exact h.elim
  ·exact h.elim
theorem RS (n:Nm) (t:Tt):t.toT.ment n=t.ment n:=by cases t <;> rfl
theorem qC {K:S->Prop} (hK:∀ t:St,k t->K t.toS):∀ {ts:List Tt} {s:St} {p:Pl},ND s.m->fP s p ts k->cD s.toS p (ts.map Tt.toT) K
 | [],s,p,hn,h=>hK s h
 | t::ts,s,p,hn,h=>by
  have gen:∀ t:Tt,(∀ q,t≠.rf q)->t≠.any->t≠.d .any->zy s p t (fun s'=>fP s' (p.add 1) ts k)->cD s.toS p (t.toT::ts.map Tt.toT) K:=by
   intro t h1 h2 h3 h;obtain ⟨m',hp,s',e,hn',hk⟩:=MB h hn;have key:cD s.toS p (t.toT::ts.map Tt.toT) K=qv s.toS.m p t.toT fun m'=>cD ⟨s.toS.t,m'⟩ (p.add 1) (ts.map Tt.toT) K:=by
    cases t with
    | rf q=>exact (h1 q rfl).elim
    | any=>exact (h2 rfl).elim
    | d c=>cases c with
     | any=>exact (h3 rfl).elim
     | _=>rfl
    | _=>rfl
   rw [key];refine hp _ ?_;rw [<- e];exact qC hK hn' hk
  cases t with
  | rf q=>
   simp only [fP] at h;split at h
   ·rename_i sub u l hr;split at h
    ·rename_i hpath hroot hall;simp only [List.map_cons,Tt.toT,cD];rw [show aa s.toS.m q.root=some (⟨false,[.ow sub u l],none⟩:Rt).toR from aM hr];refine ⟨hpath,by simpa using hroot,?_,?_⟩
     ·rw [aaU,<- hall]; congr 1; funext t; simp only [Function.comp,RS]
     ·rw [<- aU hn];obtain ⟨m',hp,s',e,hn',hk⟩:=MB h (LF hn);refine hp _ ?_;rw [<- e];exact qC hK hn' hk
    ·exact h.elim
   ·exact h.elim
  | any=>exact h.elim
  | d c=>cases c with
   | any=>exact h.elim
   | _=>exact gen _ (fun _ h=>by cases h) (fun h=>by cases h) (fun h=>by cases h) h
  | _=>exact gen _ (fun _ h=>by cases h) (fun h=>by cases h) (fun h=>by cases h) h
theorem Kz {K:S->Prop} (hK:∀ t:St,k t->K t.toS) {p:Pl} {ts:List Tt} (hne:ts≠[]) (h:kJ s p ts k):cD s.toS p (ts.map Tt.toT) K:=by
 unfold kJ at h;split at h
 ·exact h.elim
 ·rename_i r hr;split at h
  ·rename_i st q sub u l hpath hh hc;split at h
   ·rename_i l' hl;have ec:r.toR.cells=r.cells.map Tt.toT:=by show holed _ r.hole=_; rw [hh]; rfl
    obtain ⟨a1,a2⟩:=Bm hl;refine uS (aM hr) hpath (sub:=sub) (l:=l.map (ak u)) (by rw [ec,YW,hc]; rfl) a2 a1 (GJ hne h hl ?_);have hk:=hK _ (CO h)
    have e:(⟨s.nx+1,s.t,cq s.m p.root s.nx { r with cells:=r.cells.set p.off (.ow sub u l') }⟩:St).toS=⟨s.toS.t,bv s.toS.m p.root { r.toR with cells:=r.toR.cells.set p.off (.ow sub (l'.map (ak u))) }⟩:=by
     refine aU.S_ext rfl ?_;show toM (cq s.m p.root s.nx _)=_
     rw [dI]
     congr 1
     simp only [Rt.toR,hh,holed,Zz,Tt.toT]
    rw [e] at hk;exact hk
   ·exact h.elim
  ·exact h.elim
theorem OZ {K:S->Prop} (hK:∀ t:St,k t->K t.toS) {t:TypeId} {x v:At} (hn:ND s.m) (h:oh P s t x v k):ue P s.toS t x.toV v.toV K:=by
 unfold oh at h;split at h
 ·rename_i p ts hv;split at h
  ·rename_i hc;simp only [YV] at hc;unfold ue;rw [qa,hv];refine ⟨hc.1.1,by rw [YX]; exact Y1 hc.1.2,by rw [YX]; exact nQ hc.2,?_⟩;split at h
   ·rename_i hrow;refine Kz hK (fun e=>?_) h;subst e;simp [SK,Nat.blt] at hrow
   ·exact qC hK hn h
  ·exact h.elim
 ·exact h.elim
theorem Vk {u:U} {v:At} {l:List (El u)} {size:Nat} (hs:nc u=size) (h:Vj u v=some l):iV size v.toV=some (l.map (ak u))/\v.noRf=true:=by
 unfold Vj at h;split at h
 ·simp only [YT] at h; subst h; exact ⟨rfl,rfl⟩
 ·rename_i u' l';obtain ⟨e,rfl⟩:=gR h;subst e;exact ⟨rfl,rfl⟩
 ·rename_i b;split at h
  ·simp only [YT] at h;subst h;have:size=1:=hs.symm
   simp only [At.toV,A1.toV,Tt.toT,C.toD,iV];rw [if_pos this];exact ⟨rfl,rfl⟩
  ·cases h
 ·cases h
theorem EP {m:List (Nm×Nat×Rt)} {q:Pl} {r:Rt} {t:Tt} (hr:aY m q.root=some r) (hp:q.path=[]) (h:atT m q 1=some [t]):r.cells[q.off]? = some t:=by
 unfold atT at h;rw [hr] at h;dsimp only at h;rw [hp] at h;dsimp only at h;split at h
 ·rename_i hb;simp only [YT] at h;have:=congrArg (·[0]?) h
  simpa [List.getElem?_take,Zp] using this
 ·cases h
theorem lE {u:U} {v:At} {s':St} {sub:List Sh} {l:List (El u)} {size:Nat} (hs:nc u=size) (hn:ND s.m) (hop:∀ q,v=.one (.c (.rf q))->okP (toM s.m) q) (h:jy s u v=some (s',sub,l)) :
  gP s.toS size v.toV=some (s'.toS,sub,l.map (ak u))/\ND s'.m/\Ext s s':=by
 unfold jy at h;split at h
 ·simp only [YT,Prod.mk.injEq] at h;obtain ⟨rfl,rfl,rfl⟩:=h;exact ⟨by rw [<- hs]; rfl,hn,Ext.refl _⟩
 ·rename_i q;split at h
  ·rename_i sub' u' l' hsl;split at h
   ·rename_i l2 s2 hcast hlen htake;simp only [YT,Prod.mk.injEq] at h;obtain ⟨rfl,rfl,rfl⟩:=h;obtain ⟨e,rfl⟩:=gR hcast;subst e;unfold SQ at htake;split at htake
    ·cases htake
    ·rename_i r hr;split at htake
     ·rename_i hpath hh;simp only [YT] at htake;have ht:atT s.m q 1=some [.ow sub' u' l']:=by
       unfold sliceAt at hsl;split at hsl
       ·rename_i a b c hat; cases hsl; exact hat
       ·cases hsl
      have hc:=EP hr hpath ht
      have egr:aa s.toS.m q.root=some r.toR:=aM hr
      have ecs:r.toR.cells=r.cells.map Tt.toT:=by show holed _ r.hole=_; rw [hh]; rfl
      have egp:aP s.toS.m q=some (.ow sub' (l'.map (ak u'))):=by
       unfold aP;rw [egr,hpath];dsimp only;rw [ecs,YW,hc]; rfl
      refine ⟨?_,?_,?_⟩
      ·simp only [At.toV,A1.toV,Tt.toT,gP];rw [egp];dsimp only;rw [if_pos (by rw [<- hs]; exact Y1 hlen)]
       congr 2
       rw [<- htake];refine aU.S_ext (jf _ _ _).symm ?_;show _=toM (bC (thr q) s.nx (cq s.m q.root s.nx _))
       rw [cH,dI]
       congr 1
       unfold a8;rw [egr,hpath];dsimp only;show bv (toM s.m) q.root _=_
       congr 1
       simp only [Rt.toR,hh,holed,Zz,Tt.toT]
      ·rw [<- htake]; exact BM.2 (wz hn)
      ·rw [<- htake];exact ⟨ZC _,ff (YY _),(ct _ _ (YY _) s.m).trans (cN (YY _))⟩
     ·rename_i st pa hpath hh;simp only [YT] at htake;have ht:atT s.m q 1=some [.ow sub' u' l']:=by
       unfold sliceAt at hsl;split at hsl
       ·rename_i a b c hat; cases hsl; exact hat
       ·cases hsl
      have egr:aa s.toS.m q.root=some r.toR:=aM hr
      have ecs:r.toR.cells=r.cells.map Tt.toT:=by show holed _ r.hole=_; rw [hh]; rfl
      have hq:=hop q rfl
      unfold okP at hq;rw [hpath] at hq;obtain ⟨r2,sub2,l2,g1,g2,g3⟩:=hq;have er2:r2=r.toR:=Option.some.inj (g1.symm.trans egr)
      subst er2;unfold atT at ht;rw [hr] at ht;dsimp only at ht;rw [hpath] at ht;dsimp only at ht;split at ht
      ·rename_i sub0 u0 l0 _ hc;rw [ecs,YW,hc] at g2;simp only [Option.map_some,YT,Tt.toT,T.ow.injEq] at g2;obtain ⟨rfl,rfl⟩:=g2;have hlk:=xH g3 ht
       have egp:aP s.toS.m q=some (.ow sub' (l'.map (ak u'))):=by
        unfold aP;rw [egr];dsimp only;rw [hpath];dsimp only;rw [ecs,YW,hc];simp only [Option.map_some,Tt.toT];rw [hlk]
       refine ⟨?_,?_,?_⟩
       ·simp only [At.toV,A1.toV,Tt.toT,gP];rw [egp];dsimp only;rw [if_pos (by rw [<- hs]; exact Y1 hlen)]
        congr 2
        rw [<- htake];refine aU.S_ext (jf _ _ _).symm ?_;show _=toM (bC (thr q) s.nx (cq s.m q.root s.nx _))
        rw [cH,dI]
        congr 1
        unfold a8;rw [egr];dsimp only;rw [hpath];dsimp only;rw [ecs,YW,hc];show bv (toM s.m) q.root _=_
        congr 1
        simp only [Rt.toR,Option.map_some,Tt.toT,T.toD];rw [Fi _ _ hc]
       ·rw [<- htake]; exact BM.2 (wz hn)
       ·rw [<- htake];exact ⟨ZC _,ff (YY _),(ct _ _ (YY _) s.m).trans (cN (YY _))⟩
      ·cases ht
     ·cases htake
   ·cases h
  ·cases h
 ·cases h
theorem Vd:∀ n:Sn,(sd n).fs.all leaf=true:=by intro n; cases n <;> rfl
theorem AF {u:U} (h:leaf u=true) (x:El u):(ah u x).toD.sure=true:=by
 cases u with
 | st n=>cases h
 | _=>rfl
theorem xp:∀ {us:List U} (_:us.all leaf=true) (x:Fl us),∀ d∈(dB us x).map C.toD,d.sure=true
 | [],_,_,d,hd=>by simp [dB] at hd
 | u::r,h,x,d,hd=>by
  simp only [Zb,YV] at h;simp only [dB,List.map_cons,Y2] at hd;rcases hd with rfl | hd
  ·exact AF h.1 _
  ·exact xp h.2 _ d hd
theorem ER {u:U} (x:El u):∀ d∈ak u x,d.sure=true:=by
 rw [<- bh];cases u with
 | st n=>exact xp (Vd n) _
 | _=>intro d hd; rw [jc rfl] at hd; simp only [List.map_cons,List.map_nil,Y3] at hd; subst hd; exact AF rfl _
theorem I5 {E:Ut} {t u0:TypeId} {x y:Operand} {d:Tmp} (hx:au x=true) (hy:au y=true) (hn:ND (dV s (evA s y)).m) (hop:∀ q,evA (dV s (evA s y)) x=.one (.c (.rf q))->okP (toM (dV s (evA s y)).m) q) (h:ke P E s t u0 x y d k):oK P (dV s (evA s y)).toS t u0 x y d (upS k):=by
 unfold ke at h;dsimp only at h;generalize hs1:dV s (evA s y)=s1 at h hn hop;split at h
 ·rename_i e ht;split at h
  ·rename_i u z he hz;split at h
   ·rename_i hc;simp only [YV] at hc;obtain ⟨⟨⟨c1,c2⟩,c3⟩,c4⟩:=hc;have hsz:=Y1 c4
    split at h
    ·rename_i ys s2 sub l hsrc hbase;split at h
     ·rename_i hsub;obtain ⟨⟨h1,h2⟩,h3⟩:=h;obtain ⟨k1,k2⟩:=Vk hsz hsrc;obtain ⟨b1,b2,_⟩:=lE hsz hn hop hbase;unfold oK;dsimp only;rw [ac hy,tG k2,ht];dsimp only;refine ⟨c1,c2,by rw [hz]; simp only [Option.map_some]; rw [Y1 c3],?_⟩;rw [ac hy,ac hx,k1,b1];dsimp only;refine ⟨hsub,?_,by rw [YX,YX]; exact h1,by rw [YX,YX]; exact h2,_,?_,h3⟩
      ·intro r hr;obtain ⟨z',_,rfl⟩:=Zo.1 hr;exact ⟨by rw [gU]; exact hsz,ER z'⟩
      ·rw [<- bk b2];have er:(⟨false,[.ow sub u (l++ys)],none⟩:Rt).toR=⟨false,[.ow sub (l.map (ak u)++ys.map (ak u))]⟩:=by
        rw [<- ZU]; rfl
       rw [<- er];exact aD ((s2.fresh (.gh d)).root (.gh d) ⟨false,[.ow sub u (l++ys)],none⟩) (some d) (.one (.c (.rf ⟨.gh d,0,[]⟩)))
     ·exact h.elim
    ·exact h.elim
   ·exact h.elim
  ·exact h.elim
 ·exact h.elim
theorem Ev {E:Ut} {t u0:TypeId} {x y:Operand} {d:Tmp} (hx:au x=true) (hy:au y=true) (hn:ND s.m) (hopy:∀ q,evA s y=.one (.c (.rf q))->okP (toM s.m) q)
  (hopx:∀ (size:Nat) (s1:St) (sub:List Sh) (l:List (List D)) q,ND s1.m->gP s.toS size (evA s y).toV=some (s1.toS,sub,l)->evA s1 x=.one (.c (.rf q))->okP (toM s1.m) q) (h:gM P E s t u0 x y d k):rA P s.toS t u0 x y d (upS k):=by
 unfold gM at h;split at h
 ·rename_i e ht;split at h
  ·rename_i u z he hz;split at h
   ·rename_i hc;simp only [YV] at hc;obtain ⟨⟨⟨c1,c2⟩,c3⟩,c4⟩:=hc;have hsz:=Y1 c4
    split at h
    ·rename_i s1 sub1 ys hby;split at h
     ·rename_i s2 sub l hbx;split at h
      ·rename_i hsub;obtain ⟨⟨h1,h2⟩,h3⟩:=h;obtain ⟨a1,a2,_⟩:=lE hsz hn hopy hby;obtain ⟨b1,b2,_⟩:=lE hsz a2 (fun q hq=>hopx _ s1 _ _ q a2 a1 hq) hbx;unfold rA;rw [ht];dsimp only;refine ⟨c1,c2,by rw [hz]; simp only [Option.map_some]; rw [Y1 c3],?_⟩;rw [ac hy,a1];dsimp only;rw [ac hx,b1];dsimp only;have hlen:sub1.length=nc u:=by
        unfold jy at hby;split at hby
        ·simp only [YT,Prod.mk.injEq] at hby;obtain ⟨_,rfl,_⟩:=hby; simp
        ·split at hby
         ·split at hby
          ·rename_i hb _;simp only [YT,Prod.mk.injEq] at hby;obtain ⟨_,rfl,_⟩:=hby;exact Y1 hb
          ·cases hby
         ·cases hby
        ·cases hby
       refine ⟨jh hsub,?_,by rw [YX,YX]; exact h1,by rw [YX,YX]; exact h2,_,?_,h3⟩
       ·intro r hr;obtain ⟨z',_,rfl⟩:=Zo.1 hr;exact ⟨by rw [gU,hlen],ER z'⟩
       ·rw [<- bk b2];have er:(⟨false,[.ow sub u (l++ys)],none⟩:Rt).toR=⟨false,[.ow sub (l.map (ak u)++ys.map (ak u))]⟩:=by
         rw [<- ZU]; rfl
        rw [<- er];exact aD ((s2.fresh (.gh d)).root (.gh d) ⟨false,[.ow sub u (l++ys)],none⟩) (some d) (.one (.c (.rf ⟨.gh d,0,[]⟩)))
      ·exact h.elim
     ·exact h.elim
    ·exact h.elim
   ·exact h.elim
  ·exact h.elim
 ·exact h.elim
end
end Go.Am
end
