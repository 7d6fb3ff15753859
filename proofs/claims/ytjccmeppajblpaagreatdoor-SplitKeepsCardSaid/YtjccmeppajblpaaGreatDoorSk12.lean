/-
  Part 12: AmTy · AmE3 · AmE3b · AmE3c · AmE3d · AmE20 · AmAppTwo · AmBuildTwo · AmE3e · AmMp.
-/
import Derived.Test.YtjccmeppajblpaaGreatDoorSk11
import Derived.Test.YtjccmeppajblpaaGreatDoorChecked
set_option linter.unusedSimpArgs false
set_option linter.unusedVariables false
set_option linter.unusedSectionVars false
set_option linter.unnecessarySimpa false
section
namespace Go.Am
open Go.Proofs
theorem ty2:ty Tryz.prog 2=⟨true,false,1,8,.int .i64⟩:=by kernel_rfl
theorem ty5:ty Tryz.prog 5=⟨true,false,1,1,.int .u8⟩:=by kernel_rfl
theorem ty9:ty Tryz.prog 9=⟨true,false,1,16,.str⟩:=by kernel_rfl
theorem ty58:ty Tryz.prog 58=⟨true,false,1,24,.sl 5⟩:=by kernel_rfl
theorem ty152:ty Tryz.prog 152=⟨true,true,20,20,.ar 20 5⟩:=by kernel_rfl
theorem zc152:zcells Tryz.prog 152=some [.int .u8 0,.int .u8 0,.int .u8 0,.int .u8 0,.int .u8 0,.int .u8 0,.int .u8 0,.int .u8 0,.int .u8 0,.int .u8 0,.int .u8 0,.int .u8 0,.int .u8 0,.int .u8 0,.int .u8 0,.int .u8 0,.int .u8 0,.int .u8 0,.int .u8 0,.int .u8 0]:=by kernel_rfl
attribute [push_cast] ty2 ty5 ty9 ty58 ty152 zc152
end Go.Am
end

section
namespace Go.Am
theorem toA_sct (c:C):(sct c).toV=sc c.toD:=rfl
theorem byte_toNat {n:Int} (h:0<=n/\n < 256):(((UInt8.ofNat n.toNat).toNat:Nat):Int)=n:=by
 have:n.toNat < 256:=by omega
 simp only [UInt8.toNat_ofNat',Nat.reducePow]
 omega
theorem byte_lt (x:UInt8):0<=((x.toNat:Nat):Int)/\((x.toNat:Nat):Int) < 256:=by
 have:=x.toNat_lt
 omega
theorem mkC_toD {k:IntKind} {n:Int} (h:k=.u8->0<=n/\n < 256):(mkC k n).toD=.int k n:=by
 cases k with
 | u8=>show D.int .u8 _=_; rw [byte_toNat (h rfl)]
 | _=>rfl
theorem wrap8 (n:Int):0<=IntKind.u8.wrap n/\IntKind.u8.wrap n < 256:=by
 have:=wf_wrap (k:=.u8) n
 simp only [Lit.wf,Bool.and_eq_true,decide_eq_true_eq] at this
 have h1:IntKind.u8.min=0:=by decide
 have h2:IntKind.u8.max=255:=by decide
 rw [h1,h2] at this
 omega
theorem mkC_wrap {k:IntKind} {n:Int}:(mkC k (k.wrap n)).toD=.int k (k.wrap n):=mkC_toD fun h=>by subst h; exact wrap8 n
theorem intOf_toD {c:C} {k:IntKind} {n:Int} (h:intOf c=some (k,n)):c.toD=.int k n/\(k=.u8->0<=n/\n < 256):=by
 unfold intOf at h
 split at h
 ·rename_i k' n'
  cases k' <;> simp only [Option.some.injEq,Prod.mk.injEq,reduceCtorEq] at h <;> (obtain ⟨rfl,rfl⟩:=h; exact ⟨rfl,fun h=>by cases h⟩)
 ·rename_i x
  simp only [Option.some.injEq,Prod.mk.injEq] at h
  obtain ⟨rfl,rfl⟩:=h
  exact ⟨rfl,fun _=>byte_lt x⟩
 ·cases h
theorem globT_gw {k:Nat} {row:List D} (h:globT k=some row):row=gw.map D.str:=by
 unfold globT at h
 split at h
 ·first | (cases h; done) | (simp only [Option.some.injEq] at h; exact h.symm)
 ·cases h
theorem cstTt_toT {v:Value} (h:okT v=true):(cstTt v).toT=cstT v:=by
 cases v with
 | int k n=>
  simp only [cstTt,cstT]
  cases k with
  | u8=>
   simp only [okT,Lit.wf,Bool.and_eq_true,decide_eq_true_eq] at h
   have h1:IntKind.u8.min=0:=by decide
   have h2:IntKind.u8.max=255:=by decide
   rw [h1,h2] at h
   have h':0<=n/\n < 256:=by omega
   simp only [h',and_self,if_true,Tt.toT,C.toD,byte_toNat h']
  | _=>rfl
 | slice a l c=>cases a with
  | none=>match l,c with
   | 0,0=>rfl
   | 0,_+1=>rfl
   | _+1,_=>rfl
  | some _=>rfl
 | pointer p=>cases p <;> rfl
 | map p=>cases p <;> rfl
 | _=>rfl
theorem evA_toV {s:St} {x:Operand} (h:okOp x=true):ev s.toS x=(evA s x).toV:=by
 cases x with
 | tmp t=>exact gtA_toS t s.t
 | const v=>
  simp only [okOp] at h
  cases v with
  | agg cs=>
   simp only [ev,evA,cst,cstA,At.toV,A1.toV]
   congr 2
   rw [List.map_map]
   refine List.map_congr_left fun x hx=>?_
   simp only [okC] at h
   exact (cstTt_toT (Array.all_eq_true_iff_forall_mem.1 h x (by simpa using hx))).symm
  | _=>
   simp only [ev,evA,cst,cstA,At.toV,A1.toV]
   rw [cstTt_toT (by simpa [okC] using h)]
 | func f=>rfl
 | global g=>
  simp only [okOp] at h
  simp only [ev,evA,globC]
  cases hg:globT g with
  | none=>rw [hg] at h; cases h
  | some row=>
   simp only [At.toV,A1.toV,Tt.toT,globT_gw hg]
   rfl
section
variable {k:At->Prop}
abbrev up (k:At->Prop):AV->Prop:=fun v=>∃ v',v=v'.toV/\k v'
theorem up_sct {c:C} {d:D} (h:k (sct c)) (e:c.toD=d):up k (sc d):=⟨sct c,by rw [toA_sct,e],h⟩
theorem pickT_ok {c x y:At} (h:pickT c x y k):pickK c.toV x.toV y.toV (up k):=by
 unfold pickT at h
 split at h
 ·rename_i b
  cases b
  ·rw [if_neg (by simp)] at h; exact ⟨y,rfl,h⟩
  ·rw [if_pos rfl] at h; exact ⟨x,rfl,h⟩
 ·exact h.elim
theorem tmod8 {a b:Int} (ha:0<=a/\a < 256):0<=a.tmod b/\a.tmod b < 256:=by
 refine ⟨Int.tmod_nonneg _ ha.1,?_⟩
 rcases Int.lt_or_le b 0 with h | h
 ·rw [<- Int.tmod_neg]
  rcases Int.lt_or_le a (-b) with h' | h'
  ·rw [Int.tmod_eq_of_lt ha.1 h']; exact ha.2
  ·have:=Int.tmod_lt_of_pos a (show 0 < -b by omega); omega
 ·rcases Int.lt_or_le a b with h' | h'
  ·rw [Int.tmod_eq_of_lt ha.1 h']; exact ha.2
  ·rcases Int.lt_or_eq_of_le h with h'' | h''
   ·have:=Int.tmod_lt_of_pos a h''; omega
   ·subst h''; rw [Int.tmod_zero]; exact ha.2
theorem fdiv8 {a:Int} {m:Nat} (ha:0<=a/\a < 256):0<=a.fdiv (2 ^ m)/\a.fdiv (2 ^ m) < 256:=by
 have hp:(0:Int) < 2 ^ m:=Int.pow_pos (by decide)
 rw [Int.fdiv_eq_ediv_of_nonneg _ (by omega)]
 refine ⟨Int.ediv_nonneg ha.1 (by omega),?_⟩
 have:=Int.ediv_le_self (2 ^ m) ha.1
 omega
theorem binC_ok {op:BinOp} {x y:C} {K:C->Prop} (h:binC op x y K):binD op x.toD y.toD (fun d=>∃ c:C,c.toD=d/\K c):=by
 unfold binC at h
 split at h
 ·rename_i a b
  cases op <;> first | exact h.elim | exact ⟨_,rfl,h⟩ | exact ⟨h.1,_,rfl,h.2⟩
 ·split at h
  ·rename_i k a k' b hx hy
   obtain ⟨ex,rx⟩:=intOf_toD hx
   obtain ⟨ey,ry⟩:=intOf_toD hy
   rw [ex,ey]
   split at h
   ·rename_i hk
    unfold numT at h
    cases op <;> simp only [isSh,Bool.false_eq_true,false_or,true_or] at hk <;> simp only [binD]
    case add=>exact ⟨hk,_,mkC_wrap,h⟩
    case sub=>exact ⟨hk,_,mkC_wrap,h⟩
    case mul=>exact ⟨hk,_,mkC_wrap,h⟩
    case quo=>exact ⟨hk,h.1,_,mkC_wrap,h.2⟩
    case rem=>exact ⟨hk,h.1,_,mkC_toD fun e=>tmod8 (rx e),h.2⟩
    case and=>exact ⟨hk,_,mkC_wrap,h⟩
    case or=>exact ⟨hk,_,mkC_wrap,h⟩
    case xor=>exact ⟨hk,_,mkC_wrap,h⟩
    case andNot=>exact ⟨hk,_,mkC_wrap,h⟩
    case shl=>exact ⟨h.1,_,mkC_wrap,h.2⟩
    case shr=>exact ⟨h.1,_,mkC_toD fun e=>fdiv8 (rx e),h.2⟩
    case eql=>exact ⟨hk,_,rfl,h⟩
    case neq=>exact ⟨hk,_,rfl,h⟩
    case lss=>exact ⟨hk,_,rfl,h⟩
    case leq=>exact ⟨hk,_,rfl,h⟩
    case gtr=>exact ⟨hk,_,rfl,h⟩
    case geq=>exact ⟨hk,_,rfl,h⟩
   ·exact h.elim
  ·exact h.elim
theorem binD_mono' {op:BinOp} {x y:D} {K K':D->Prop} (hk:∀ d,K d->K' d) (h:binD op x y K):binD op x y K':=by
 cases x <;> cases y <;> try exact h.elim
 ·cases op <;> simp only [binD] at h ⊢ <;> first | exact ⟨h.1,h.2.1,hk _ h.2.2⟩ | exact ⟨h.1,hk _ h.2⟩
 ·cases op <;> simp only [binD] at h ⊢ <;> first | exact ⟨h.1,hk _ h.2⟩ | exact hk _ h | exact h.elim
theorem eqC_ok {ck:CK} {x y:C} {b:Bool} (h:eqC ck x y=some b):eqD ck x.toD y.toD=some b:=by
 unfold eqC at h
 cases ck with
 | i=>
  dsimp only at h
  split at h
  ·rename_i k a k' b' hx hy
   rw [(intOf_toD hx).1,(intOf_toD hy).1]; exact h
  ·cases h
 | s=>
  dsimp only at h
  split at h
  ·exact h
  ·cases h
 | b=>
  dsimp only at h
  split at h
  ·exact h
  ·cases h
theorem eqCs_ok:∀ {l:List (Nat×CK)} {xs ys:List C} {b:Bool},eqCs l xs ys=some b->eqDs l (xs.map C.toD) (ys.map C.toD)=some b
 | [],_,_,_,h=>h
 | (o,ck)::l,xs,ys,b,h=>by
  unfold eqCs at h
  unfold eqDs
  rw [List.getElem?_map,List.getElem?_map]
  cases hx:xs[o]? with
  | none=>rw [hx] at h; cases h
  | some x=>
   cases hy:ys[o]? with
   | none=>rw [hx,hy] at h; cases h
   | some y=>
    rw [hx,hy] at h
    dsimp only [Option.map_some] at h ⊢
    cases he:eqC ck x y with
    | none=>rw [he] at h; cases h
    | some c=>
     rw [he] at h
     rw [eqC_ok he]
     cases l with
     | nil=>exact h
     | cons z l=>
      dsimp only at h ⊢
      cases hr:eqCs (z::l) xs ys with
      | none=>rw [hr] at h; cases h
      | some r=>rw [hr] at h; rw [eqCs_ok hr]; exact h
theorem TC_toD (t:Tt) (h:TD t.toT≠.any\/True):(TC t).toD=TD t.toT:=by
 cases t <;> rfl
theorem binT_ok {P:Program} {op:BinOp} {t:TypeId} {x y:At} (h:binT P op t x y k):binK P op t x.toV y.toV (up k):=by
 unfold binT at h
 split at h
 ·rename_i a b
  split at h
  ·rename_i ht
   refine ⟨ht,?_⟩
   cases op <;> first | exact h.elim | exact ⟨_,rfl,h⟩
  ·exact h.elim
 ·rename_i a b hne
  have h':=binC_ok h
  have key:binD op a.toD b.toD (fun d=>up k (sc d)):=by
   refine binD_mono' ?_ h'
   rintro d ⟨c,rfl,hc⟩
   exact ⟨sct c,rfl,hc⟩
  cases a with
  | bo a=>cases b with
   | bo b=>exact (hne a b rfl rfl).elim
   | _=>exact key
  | _=>exact key
 ·rename_i xs ys
  split at h
  ·rename_i l hl
   have e1:(xs.map Tt.toT).map TD=(xs.map TC).map C.toD:=by
    rw [List.map_map,List.map_map]; exact List.map_congr_left fun t _=>(TC_toD t (.inr trivial)).symm
   have e2:(ys.map Tt.toT).map TD=(ys.map TC).map C.toD:=by
    rw [List.map_map,List.map_map]; exact List.map_congr_left fun t _=>(TC_toD t (.inr trivial)).symm
   simp only [At.toV,A1.toV,binK]
   rw [hl,e1,e2]
   dsimp only
   split at h
   ·rename_i b hb
    rw [eqCs_ok hb]; exact ⟨_,rfl,h⟩
   ·rename_i b hb
    rw [eqCs_ok hb]; exact ⟨_,rfl,h⟩
   ·exact h.elim
  ·exact h.elim
 ·exact h.elim
theorem unT_ok {op:UnOp} {x:At} (h:unT op x k):unK op x.toV (up k):=by
 unfold unT at h
 split at h
 ·exact ⟨_,rfl,h⟩
 ·rename_i c
  split at h
  ·rename_i κ n hc
   simp only [At.toV,A1.toV,Tt.toT,(intOf_toD hc).1]
   exact up_sct h mkC_wrap
  ·exact h.elim
 ·rename_i c
  split at h
  ·rename_i κ n hc
   simp only [At.toV,A1.toV,Tt.toT,(intOf_toD hc).1]
   exact up_sct h mkC_wrap
  ·exact h.elim
 ·exact h.elim
theorem extractT_ok {x:At} {i:Nat} (h:extractT x i k):extractK x.toV i (up k):=by
 unfold extractT at h
 split at h
 ·rename_i vs
  split at h
  ·rename_i v hv
   simp only [At.toV,extractK,List.getElem?_map,hv,Option.map_some]
   exact ⟨.one v,rfl,h⟩
  ·exact h.elim
 ·exact h.elim
theorem strAtT_ok {x i:At} (h:strAtT x i k):strAtK x.toV i.toV (up k):=by
 unfold strAtT at h
 split at h
 ·rename_i l κ n
  obtain ⟨⟨h1,h2⟩,h3⟩:=h
  simp only [At.toV,A1.toV,Tt.toT,C.toD,strAtK]
  refine ⟨h1,?_⟩
  rw [List.getElem?_eq_getElem h2]
  dsimp only
  refine ⟨_,?_,h3⟩
  rw [toA_sct]
  simp only [C.toD]
  rw [List.getD,List.getElem?_eq_getElem h2]; rfl
 ·exact h.elim
theorem nilCheckT_ok {x:At} (h:nilCheckT x k):nilCheckK x.toV (up k):=by
 unfold nilCheckT at h
 split at h
 ·exact ⟨_,rfl,h⟩
 ·exact ⟨_,rfl,h⟩
 ·exact ⟨_,rfl,h⟩
 ·exact h.elim
theorem fieldT_ok {P:Program} {t:TypeId} {x:At} {i:Nat} (h:fieldT P t x i k):fieldK P t x.toV i (up k):=by
 unfold fieldT at h
 split at h
 ·rename_i fs ts hk
  simp only [At.toV,A1.toV,fieldK]
  rw [hk]
  dsimp only
  cases hf:fs[i]? with
  | none=>rw [hf] at h; exact h.elim
  | some f=>
   obtain ⟨off,size,ag⟩:=f
   rw [hf] at h
   match ag,h with
   | some false,h=>
    dsimp only at h ⊢
    rw [List.getElem?_map]
    cases ht:ts[off]? with
    | none=>rw [ht] at h; exact h.elim
    | some t'=>rw [ht] at h; exact ⟨_,rfl,h⟩
   | some true,h=>
    dsimp only at h ⊢
    split at h
    ·rename_i hb
     refine ⟨by rw [List.length_map]; exact Nat.le_of_ble_eq_true hb,.one (.agg ((ts.drop off).take size)),?_,h⟩
     simp only [At.toV,A1.toV,List.map_take,List.map_drop]
    ·exact h.elim
   | none,h=>exact h.elim
 ·exact h.elim
theorem convT_ok {P:Program} {su du:TypeId} {x:At} (h:convT P su du x k):convK P su du x.toV (up k):=by
 unfold convT at h
 split at h
 ·rename_i κ0 κ h1 h2
  split at h
  ·rename_i c
   split at h
   ·rename_i κ1 n hc
    simp only [At.toV,A1.toV,Tt.toT,(intOf_toD hc).1,convK,h1,h2]
    exact up_sct h mkC_wrap
   ·exact h.elim
  ·exact h.elim
 ·rename_i e h1 h2
  split at h
  ·rename_i h3
   split at h
   ·rename_i l
    simp only [At.toV,A1.toV,Tt.toT,C.toD,convK,h1,h2]
    refine ⟨h3,?_⟩
    have:∀ l:List UInt8,decBy (l.map (encU .b8))=some l:=by
     intro l
     induction l with
     | nil=>rfl
     | cons a l ih=>
      simp only [List.map_cons,encU,decBy]
      have ih':decBy (l.map (encU .b8))=some l:=ih
      simp only [encU] at ih'
      first
       | rw [ih']
       | (show (decBy (l.map (encU .b8))).map _=_; rw [ih])
      simp
    rw [this l]
    exact ⟨_,rfl,h⟩
   ·simp only [At.toV,A1.toV,Tt.toT,convK,h1,h2]
    exact ⟨h3,_,rfl,h⟩
   ·exact h.elim
  ·exact h.elim
 ·exact h.elim
end
end Go.Am
end

section
namespace Go.Am
theorem sure_toT (t:Tt):t.toT.sure=t.sure:=by
 cases t with
 | d c=>cases c <;> rfl
 | _=>rfl
def RH (t:Tt) (t':T):Prop:=t'=t.toT\/∃ sh u l,∃ l':List (List D),t=.ow sh u l/\t'=.ow sh l'/\l'.length=l.length
structure HL (ts:List Tt) (ts':List T):Prop where
 len:ts'.length=ts.length
 nth:∀ (i:Nat) (t:Tt) (t':T),ts[i]? = some t->ts'[i]? = some t'->RH t t'
theorem HL_map (ts:List Tt):HL ts (ts.map Tt.toT):=by
 refine ⟨by simp,fun i t t' h h'=>?_⟩
 rw [List.getElem?_map,h] at h'
 exact .inl (Option.some.inj h').symm
theorem HL.drop {ts:List Tt} {ts':List T} (h:HL ts ts') (n:Nat):HL (ts.drop n) (ts'.drop n):=
 ⟨by simp [h.len],fun i t t' h1 h2=>by rw [List.getElem?_drop] at h1 h2; exact h.nth _ t t' h1 h2⟩
theorem HL.take {ts:List Tt} {ts':List T} (h:HL ts ts') (n:Nat):HL (ts.take n) (ts'.take n):=
 ⟨by simp [h.len],fun i t t' h1 h2=>by
  rw [List.getElem?_take] at h1 h2
  split at h1
  ·rename_i hi; rw [if_pos hi] at h2; exact h.nth _ t t' h1 h2
  ·cases h1⟩
theorem length_setO:∀ (q:List Step) (sub:List Sh) (l:List (List D)) (x:D),(setO sub l x q).length=l.length
 | [],_,_,_=>rfl
 | [st],_,_,_=>by simp [setO]
 | st::st'::r,sub,l,x=>by
  simp only [setO]
  split
  ·simp
  ·rfl
theorem HL_holed (cells:List Tt) (hole:Option (Nat×Step×List Step)):HL cells (holed (cells.map Tt.toT) hole):=by
 cases hole with
 | none=>exact HL_map cells
 | some h=>
  obtain ⟨off,st,q⟩:=h
  simp only [holed]
  split
  ·rename_i sub l hc
   refine ⟨by simp,fun i t t' h1 h2=>?_⟩
   by_cases hi:off=i
   ·subst hi
    rw [List.getElem?_map,h1] at hc
    have hc':=Option.some.inj hc
    have hlt:off < (cells.map Tt.toT).length:=by
     have:=(List.getElem?_eq_some_iff.1 h1).1
     simpa using this
    rw [List.getElem?_set_self hlt] at h2
    have h2':=Option.some.inj h2
    cases t with
    | ow sh u l0=>
     simp only [Tt.toT,T.ow.injEq] at hc'
     obtain ⟨rfl,rfl⟩:=hc'
     exact .inr ⟨_,_,_,_,rfl,h2'.symm,by rw [length_setO]; simp⟩
    | _=>simp [Tt.toT] at hc'
   ·rw [List.getElem?_set_ne hi] at h2
    exact (HL_map cells).nth i t t' h1 h2
  ·exact HL_map cells
theorem RH_ref {t:Tt} {t':T} (h:RH t t') (q:Pl):refT q t'=(refTt q t).toT:=by
 rcases h with rfl | ⟨sh,u,l,l',rfl,rfl,_⟩
 ·cases t <;> rfl
 ·rfl
theorem HL_refs {ts:List Tt} {ts':List T} (h:HL ts ts') (p:Pl):refTs p ts'=(refTts p ts).map Tt.toT:=by
 refine List.ext_getElem? fun i=>?_
 simp only [refTs,refTts,List.getElem?_map,List.getElem?_zipIdx,Nat.zero_add,Option.map_map]
 cases h1:ts[i]? with
 | none=>
  have:ts'[i]? = none:=by rw [List.getElem?_eq_none_iff] at h1 ⊢; rw [h.len]; exact h1
  rw [this]; rfl
 | some t=>
  have hlt:i<ts'.length:=by rw [h.len]; exact (List.getElem?_eq_some_iff.1 h1).1
  rw [List.getElem?_eq_getElem hlt]
  simp only [Option.map_some,Function.comp,Option.some.injEq]
  exact RH_ref (h.nth i t _ h1 (List.getElem?_eq_getElem hlt)) _
theorem getD_enc {u:U} (l:List (El u)) {i:Nat} (h:i<l.length):(l.map (encU u)).getD i []=encU u (l.getD i (dflt u)):=by
 rw [List.getD,List.getD,List.getElem?_map,List.getElem?_eq_getElem h]; rfl
theorem get_enc {u:U} (l:List (El u)) {i:Nat} (h:i<l.length):(l.map (encU u))[i]? = some (encU u (l.getD i (dflt u))):=by
 rw [List.getD,List.getElem?_map,List.getElem?_eq_getElem h]; rfl
def mkTt (s:Sh) (c:C):Tt:=match s,c with
 | Sh.fr,x=>Tt.d x
 | Sh.ow s,C.li u' l'=>Tt.ow s u' l'
 | _,_=>Tt.any
theorem mkTt_toT (s:Sh) (c:C):mkT s c.toD=(mkTt s c).toT:=by
 cases s with
 | fr=>rfl
 | ow s=>cases c <;> rfl
theorem zip_toT:∀ (s:List Sh) (c:List C),List.zipWith mkT s (c.map C.toD)=(List.zipWith mkTt s c).map Tt.toT
 | [],_=>by simp
 | _::_,[]=>by simp
 | s::ss,c::cs=>by simp only [List.map_cons,List.zipWith_cons_cons,mkTt_toT,zip_toT ss cs]
theorem inT_ok:∀ {path:List Step} {sub:List Sh} {u:U} {l:List (El u)} {n:Nat} {ts:List Tt} {K:List T->Prop},okO sub (l.map (encU u)) path->inT sub u l n path=some ts->K (ts.map Tt.toT)->inK sub (l.map (encU u)) n path K
 | [],_,_,_,_,_,_,h,_,_=>h.elim
 | [st],sub,u,l,n,ts,K,h,ht,hK=>by
  obtain ⟨h1,h2,h3⟩:=h
  rw [List.length_map] at h1
  simp only [inT] at ht
  split at ht
  ·rename_i hb
   simp only [Option.some.injEq] at ht
   refine ⟨Nat.le_of_ble_eq_true hb,?_⟩
   rw [get_enc l h1]
   dsimp only
   rw [<- flat_enc,<- List.map_drop,<- List.map_take,zip_toT]
   subst ht
   exact hK
  ·cases ht
 | st::st'::r,sub,u,l,n,ts,K,h,ht,hK=>by
  obtain ⟨⟨h1,h2,h3⟩,h4⟩:=h
  rw [List.length_map] at h1
  simp only [inT] at ht
  split at ht
  ·rename_i s u' l' e1 e2
   simp only [inK]
   rw [get_enc l h1]
   dsimp only
   have e3:(encU u (l.getD st.idx (dflt u)))[st.off]? = some (.li (l'.map (encU u'))):=by
    rw [<- flat_enc,List.getElem?_map,e2]; rfl
   rw [e1,e3]
   dsimp only
   rw [e1,getD_enc l h1,List.getD,e3] at h4
   exact inT_ok h4 ht hK
  ·cases ht
def okP (m:Mm) (p:Pl):Prop:=match p.path with
 | []=>True
 | st::q=>∃ r sub l,getR m p.root=some r/\r.cells[p.off]? = some (.ow sub l)/\okO sub l (st::q)
theorem okP_pl {m:Mm} {p:Pl} (h:okPl m p):okP m p:=by
 unfold okP
 split
 ·trivial
 ·rename_i st q hp
  unfold okPl at h
  split at h
  ·exact h.elim
  ·rename_i r hr
   rw [hp] at h
   dsimp only at h
   split at h
   ·rename_i sub l hc; exact ⟨r,sub,l,hr,hc,h⟩
   ·exact h.elim
theorem okP_rf {m:Mm} {p:Pl} (h:okRf m p):okP m p:=by
 unfold okP
 split
 ·trivial
 ·rename_i st q hp
  unfold okRf at h
  split at h
  ·exact h.elim
  ·rename_i r hr
   rw [hp] at h
   split at h
   ·simp_all
   ·simp_all
   ·rename_i sub l st' q' hc he
    simp only [List.cons.injEq] at he
    obtain ⟨rfl,rfl⟩:=he
    exact ⟨r,sub,l,hr,hc,h.1⟩
   ·exact h.elim
theorem getR_of {m:List (Nm×Nat×Rt)} {n:Nm} {r:Rt} (h:getM m n=some r):getR (toM m) n=some r.toR:=by rw [getM_toM,h]; rfl
theorem zip_nth {ss:List Sh} {xs:List D} {i:Nat} {t:T} (h:(List.zipWith mkT ss xs)[i]? = some t):∃ s x,ss[i]? = some s/\xs[i]? = some x/\t=mkT s x:=by
 rw [List.getElem?_zipWith] at h
 cases h1:ss[i]? with
 | none=>rw [h1] at h; simp at h
 | some s=>cases h2:xs[i]? with
  | none=>rw [h1,h2] at h; simp at h
  | some x=>rw [h1,h2] at h; exact ⟨s,x,rfl,rfl,(Option.some.inj h).symm⟩
theorem inH_ok:∀ {path hp:List Step} {sub:List Sh} {u:U} {l:List (El u)} {n:Nat} {ts:List Tt} {K:List T->Prop},path.length<hp.length->okO sub (setO sub (l.map (encU u)) .any hp) path->inT sub u l n path=some ts->(∀ ts',HL ts ts'->K ts')->inK sub (setO sub (l.map (encU u)) .any hp) n path K
 | [],_,_,_,_,_,_,_,_,h,_,_=>h.elim
 | _::_,[],_,_,_,_,_,_,hlt,_,_,_=>by simp at hlt
 | [_],[_],_,_,_,_,_,_,hlt,_,_,_=>by simp at hlt
 | _::_::_,[_],_,_,_,_,_,_,hlt,_,_,_=>by simp at hlt
 | [st],h::h'::hr,sub,u,l,n,ts,K,hlt,hok,ht,hK=>by
  have hlen:(setO sub (l.map (encU u)) .any (h::h'::hr)).length=l.length:=by rw [length_setO,List.length_map]
  have hok1:=hok.1
  rw [hlen] at hok1
  simp only [inT] at ht
  split at ht
  ·rename_i hb
   simp only [Option.some.injEq] at ht
   refine ⟨Nat.le_of_ble_eq_true hb,?_⟩
   have base:((l.map (encU u))[st.idx]?)=some (encU u (l.getD st.idx (dflt u))):=get_enc l hok1
   have key:∀ x,(setO sub (l.map (encU u)) .any (h::h'::hr))[st.idx]? = some x->(x=encU u (l.getD st.idx (dflt u))\/∃ s l1,sub[h.off]? = some (.ow s)/\(encU u (l.getD st.idx (dflt u)))[h.off]? = some (.li l1)/\x=(encU u (l.getD st.idx (dflt u))).set h.off (.li (setO s l1 .any (h'::hr)))):=by
    intro x hx
    simp only [setO] at hx
    split at hx
    ·rename_i s l1 e1 e2
     rw [List.getElem?_set] at hx
     split at hx
     ·rename_i ei
      split at hx
      ·have hx':=Option.some.inj hx
       rw [ei,getD_enc l hok1] at e2 hx'
       refine .inr ⟨s,l1,e1,?_,hx'.symm⟩
       rw [List.getD] at e2
       cases h3:(encU u (l.getD st.idx (dflt u)))[h.off]? with
       | none=>rw [h3] at e2; cases e2
       | some d=>rw [h3] at e2; simp only [Option.getD_some] at e2; rw [e2]
      ·cases hx
     ·rw [base] at hx; exact .inl (Option.some.inj hx).symm
    ·rw [base] at hx; exact .inl (Option.some.inj hx).symm
   have hlt2:st.idx < (setO sub (l.map (encU u)) .any (h::h'::hr)).length:=by rw [hlen]; exact hok1
   rw [List.getElem?_eq_getElem hlt2]
   dsimp only
   rcases key _ (List.getElem?_eq_getElem hlt2) with e | ⟨s,l1,e1,e2,e⟩
   ·rw [e,<- flat_enc,<- List.map_drop,<- List.map_take,zip_toT]
    subst ht
    exact hK _ (HL_map _)
   ·rw [e]
    refine hK _ ?_
    subst ht
    have hbase:List.zipWith mkT ((sub.drop st.off).take n) (((encU u (l.getD st.idx (dflt u))).drop st.off).take n)=(List.zipWith mkTt ((sub.drop st.off).take n) (((flat u (l.getD st.idx (dflt u))).drop st.off).take n)).map Tt.toT:=by
     rw [<- flat_enc,<- List.map_drop,<- List.map_take,zip_toT]
    refine ⟨?_,fun i t t' a1 a2=>?_⟩
    ·have hl:=congrArg List.length hbase
     simp only [List.length_map] at hl
     have hx:∀ ys:List D,(List.zipWith mkT ((sub.drop st.off).take n) ((ys.drop st.off).take n)).length=min (min n (sub.length-st.off)) (min n (ys.length-st.off)):=by
      intro ys; simp
     refine Eq.trans ?_ hl
     rw [hx,hx,List.length_set]
    ·obtain ⟨s0,x0,b1,b2,b3⟩:=zip_nth a2
     have a1':((List.zipWith mkTt ((sub.drop st.off).take n) (((flat u (l.getD st.idx (dflt u))).drop st.off).take n)).map Tt.toT)[i]? = some t.toT:=by
      rw [List.getElem?_map]
      have:(List.zipWith mkTt ((sub.drop st.off).take n) (((flat u (l.getD st.idx (dflt u))).drop st.off).take n))[i]? = some t:=a1
      rw [this]; rfl
     rw [<- hbase] at a1'
     obtain ⟨s1,x1,c1,c2,c3⟩:=zip_nth a1'
     rw [b1] at c1
     obtain rfl:=Option.some.inj c1
     rw [List.getElem?_take] at b1 b2 c2
     split at b2
     ·rename_i hin
      rw [if_pos hin] at b1 c2
      rw [List.getElem?_drop] at b1 b2 c2
      rw [List.getElem?_set] at b2
      split at b2
      ·rename_i eo
       rw [<- eo] at b1 c2
       rw [e1] at b1
       obtain rfl:=Option.some.inj b1
       rw [e2] at c2
       obtain rfl:=Option.some.inj c2
       split at b2
       ·obtain rfl:=Option.some.inj b2
        rw [b3]
        cases t with
        | ow sh2 u2 l2=>
         simp only [mkT,Tt.toT,T.ow.injEq] at c3
         obtain ⟨rfl,e5⟩:=c3
         refine .inr ⟨_,_,_,_,rfl,rfl,?_⟩
         rw [length_setO,<- e5,List.length_map]
        | _=>simp [mkT,Tt.toT] at c3
       ·cases b2
      ·rw [b2] at c2
       obtain rfl:=Option.some.inj c2
       rw [b3,<- c3]; exact .inl rfl
     ·cases b2
  ·cases ht
 | st::st'::r,h::h'::hr,sub,u,l,n,ts,K,hlt,hok,ht,hK=>by
  have hlen:(setO sub (l.map (encU u)) .any (h::h'::hr)).length=l.length:=by rw [length_setO,List.length_map]
  obtain ⟨⟨hi,hz,ho⟩,hok2⟩:=hok
  rw [hlen] at hi
  simp only [inT] at ht
  split at ht
  ·rename_i s u' l' e1 e2
   have base:((l.map (encU u))[st.idx]?)=some (encU u (l.getD st.idx (dflt u))):=get_enc l hi
   have e3:(encU u (l.getD st.idx (dflt u)))[st.off]? = some (.li (l'.map (encU u'))):=by
    rw [<- flat_enc,List.getElem?_map,e2]; rfl
   have key:∃ x,(setO sub (l.map (encU u)) .any (h::h'::hr))[st.idx]? = some x/\(x[st.off]? = some (.li (l'.map (encU u')))\/x[st.off]? = some (.li (setO s (l'.map (encU u')) .any (h'::hr)))):=by
    simp only [setO]
    split
    ·rename_i s1 l1 f1 f2
     rw [List.getElem?_set]
     split
     ·rename_i ei
      rw [if_pos (by rw [List.length_map,ei]; exact hi)]
      refine ⟨_,rfl,?_⟩
      rw [ei,getD_enc l hi] at f2 ⊢
      rw [List.getElem?_set]
      split
      ·rename_i eo
       rw [eo] at f1 f2
       rw [e1] at f1
       simp only [Option.some.injEq,Sh.ow.injEq] at f1
       subst f1
       rw [List.getD,e3,Option.getD_some] at f2
       simp only [D.li.injEq] at f2
       subst f2
       rw [if_pos (by rw [eo]; exact lt_of_get e3)]
       exact .inr rfl
      ·exact .inl e3
     ·exact ⟨_,base,.inl e3⟩
    ·exact ⟨_,base,.inl e3⟩
   obtain ⟨x,hx,hx2⟩:=key
   have hg:(setO sub (l.map (encU u)) .any (h::h'::hr)).getD st.idx []=x:=by rw [List.getD,hx]; rfl
   rw [e1,hg] at hok2
   simp only [inK]
   rw [hx]
   dsimp only
   rw [e1]
   rcases hx2 with hx2 | hx2
   ·rw [List.getD,hx2] at hok2
    rw [hx2]
    dsimp only at hok2 ⊢
    exact inT_ok hok2 ht (hK _ (HL_map _))
   ·rw [List.getD,hx2] at hok2
    rw [hx2]
    dsimp only at hok2 ⊢
    exact inH_ok (by simpa using hlt) hok2 ht hK
  ·cases ht
theorem atT_ok {m:List (Nm×Nat×Rt)} {p:Pl} {n:Nat} {ts:List Tt} {K:List T->Prop} (hp:okP (toM m) p) (h:atT m p n=some ts) (hK:∀ ts',HL ts ts'->K ts'):atK (toM m) p n K:=by
 unfold atT at h
 split at h
 ·cases h
 ·rename_i r hr
  unfold atK
  rw [getR_of hr]
  dsimp only
  unfold okP at hp
  split at h
  ·rename_i hpath
   rw [hpath]
   split at h
   ·rename_i hb
    simp only [Option.some.injEq] at h
    have hH:=HL_holed r.cells r.hole
    refine ⟨?_,hK _ ?_⟩
    ·show p.off+n<=(holed (r.cells.map Tt.toT) r.hole).length
     rw [hH.len]; exact Nat.le_of_ble_eq_true hb
    ·subst h; exact (hH.drop _).take _
   ·cases h
  ·rename_i st q hpath
   rw [hpath] at hp ⊢
   split at h
   ·rename_i sub u l hhole hc
    obtain ⟨r',sub',l',e1,e2,e3⟩:=hp
    rw [getR_of hr] at e1
    obtain rfl:=Option.some.inj e1
    have plain:r.toR.cells[p.off]? = some (.ow sub (l.map (encU u)))->(match st::q,r.toR.cells[p.off]? with
      | [],_=>p.off+n<=r.toR.cells.length/\K ((r.toR.cells.drop p.off).take n)
      | st::q,some (.ow sub l)=>inK sub l n (st::q) K
      | _,_=>False):=by
     intro ec
     rw [ec] at e2 ⊢
     have e2':=Option.some.inj e2
     simp only [T.ow.injEq] at e2'
     obtain ⟨rfl,rfl⟩:=e2'
     exact inT_ok e3 h (hK _ (HL_map ts))
    cases hho:r.hole with
    | none=>
     refine plain ?_
     show (holed (r.cells.map Tt.toT) r.hole)[p.off]? = _
     rw [hho]
     show (r.cells.map Tt.toT)[p.off]? = _
     rw [List.getElem?_map,hc]; rfl
    | some hh=>
     obtain ⟨off,st',q'⟩:=hh
     rw [hho] at hhole
     have hlt:(st::q).length < (st'::q').length:=Nat.le_of_ble_eq_true hhole
     by_cases hoff:off=p.off
     ·subst hoff
      have hlt2:p.off < (r.cells.map Tt.toT).length:=by rw [List.length_map]; exact (List.getElem?_eq_some_iff.1 hc).1
      have ec:r.toR.cells[p.off]? = some (.ow sub (setO sub (l.map (encU u)) .any (st'::q'))):=by
       show (holed (r.cells.map Tt.toT) r.hole)[p.off]? = _
       rw [hho]
       simp only [holed]
       rw [List.getElem?_map,hc]
       simp only [Option.map_some,Tt.toT]
       rw [List.getElem?_set_self hlt2]
      rw [ec] at e2 ⊢
      have e2':=Option.some.inj e2
      simp only [T.ow.injEq] at e2'
      obtain ⟨rfl,rfl⟩:=e2'
      exact inH_ok hlt e3 h hK
     ·refine plain ?_
      show (holed (r.cells.map Tt.toT) r.hole)[p.off]? = _
      rw [hho]
      simp only [holed]
      split
      ·rw [List.getElem?_set_ne hoff,List.getElem?_map,hc]; rfl
      ·rw [List.getElem?_map,hc]; rfl
   ·cases h
theorem sliceAt_ok {m:List (Nm×Nat×Rt)} {p:Pl} {sh:List Sh} {u:U} {l:List (El u)} {K:List T->Prop} (hp:okP (toM m) p) (h:sliceAt m p=some ⟨sh,u,l⟩) (hK:∀ l':List (List D),l'.length=l.length->K [.ow sh l']):atK (toM m) p 1 K:=by
 unfold sliceAt at h
 split at h
 ·rename_i sh' u' l' ht
  cases h
  refine atT_ok hp ht (fun ts' hH=>?_)
  have hl:=hH.len
  match ts',hl with
  | [t'],_=>
   rcases hH.nth 0 _ _ rfl rfl with e | ⟨sh2,u2,l2,l3,e1,e2,e3⟩
   ·rw [e]; exact hK _ (by simp)
   ·simp only [Tt.ow.injEq] at e1
    obtain ⟨rfl,rfl,e5⟩:=e1
    have e5':=eq_of_heq e5
    subst e5'
    rw [e2]; exact hK _ e3
 ·cases h
section
variable {k:At->Prop} {m:List (Nm×Nat×Rt)}
theorem gift_ok {gd:Option (Nat×Bool)} {n:Nat} {q:Prop} (h:gift gd n q):n<=4611686018427387904->q:=by
 cases gd with
 | none=>exact h
 | some _=>exact fun _=>h
theorem lenT_ok {gd:Option (Nat×Bool)} {x:At} {k:Nat->Prop} (hp:∀ p,x=.one (.c (.rf p))->okP (toM m) p) (h:lenT gd m x k):lenK (toM m) x.toV k:=by
 unfold lenT at h
 split at h
 ·exact gift_ok h
 ·simp only [At.toV,A1.toV,Tt.toT,C.toD,lenK,List.length_map]; exact gift_ok h
 ·exact h
 ·rename_i p
  split at h
  ·rename_i sh u l hs
   simp only [At.toV,A1.toV,Tt.toT,lenK]
   refine sliceAt_ok (hp p rfl) hs (fun l' hl=>?_)
   dsimp only
   rw [hl]; exact gift_ok h
  ·exact h.elim
 ·exact h.elim
theorem boundT_ok {x:Option At} {d:Nat} {k:Nat->Prop} (h:boundT x d k):boundK (x.map At.toV) d k:=by
 unfold boundT at h
 split at h
 ·exact h
 ·exact h
 ·exact h.elim
theorem sliceT_ok {P:Program} {t:TypeId} {x:At} {lo hi:Option At} (h:sliceT P t x lo hi k):sliceK P t x.toV (lo.map At.toV) (hi.map At.toV) (up k):=by
 have bmono:∀ {y:Option At} {d:Nat} {k1 k2:Nat->Prop},(∀ n,k1 n->k2 n)->boundT y d k1->boundT y d k2:=by
  intro y d k1 k2 hk hb
  unfold boundT at hb ⊢
  split at hb
  ·exact hk _ hb
  ·exact ⟨hb.1,hk _ hb.2⟩
  ·exact hb.elim
 unfold sliceT at h
 split at h
 ·rename_i l
  split at h
  ·rename_i ht
   refine ⟨ht,boundT_ok (bmono (fun a ha=>boundT_ok (bmono (fun b hb=>?_) ha)) h)⟩
   exact ⟨hb.1,_,rfl,hb.2⟩
  ·exact h.elim
 ·rename_i u l
  split at h
  ·rename_i e ht
   split at h
   ·rename_i hc
    simp only [Bool.and_eq_true] at hc
    simp only [At.toV,A1.toV,Tt.toT,C.toD,sliceK,ht]
    refine ⟨hc.1,fun y hy=>?_,boundT_ok (bmono (fun a ha=>?_) h)⟩
    ·obtain ⟨z,_,rfl⟩:=List.mem_map.1 hy
     rw [encU_length]; exact Nat.eq_of_beq_eq_true hc.2
    ·rw [List.length_map]
     refine boundT_ok (bmono (fun b hb=>?_) ha)
     exact ⟨hb.1,_,by simp only [At.toV,A1.toV,Tt.toT,C.toD,List.map_take,List.map_drop],hb.2⟩
   ·exact h.elim
  ·exact h.elim
 ·split at h
  ·rename_i e ht
   split at h
   ·rename_i hc
    simp only [At.toV,A1.toV,Tt.toT,sliceK,ht]
    refine ⟨hc,boundT_ok (bmono (fun a ha=>boundT_ok (bmono (fun b hb=>?_) ha)) h)⟩
    exact ⟨hb.1,hb.2.1,_,rfl,hb.2.2⟩
   ·exact h.elim
  ·exact h.elim
 ·exact h.elim
theorem hasRoomT_ok {p:Pl} {n:Nat} (h:hasRoomT m p n=true):hasRoom (toM m) p n:=by
 unfold hasRoomT at h
 split at h
 ·cases h
 ·rename_i r hr
  unfold hasRoom room
  rw [getR_of hr]
  dsimp only
  have hH:=HL_holed r.cells r.hole
  split at h
  ·rename_i hpath
   rw [hpath]
   show n < (holed (r.cells.map Tt.toT) r.hole).length-p.off
   rw [hH.len]
   exact Nat.le_of_ble_eq_true h
  ·rename_i st q sub u l hpath hc
   rw [hpath]
   split at h
   ·rename_i k hk
    have hlt:=(List.getElem?_eq_some_iff.1 hc).1
    have hlt':p.off < (holed (r.cells.map Tt.toT) r.hole).length:=by rw [hH.len]; exact hlt
    have:=hH.nth p.off _ _ hc (List.getElem?_eq_getElem hlt')
    have e:∃ l',r.toR.cells[p.off]? = some (.ow sub l'):=by
     rcases this with e | ⟨sh,u2,l2,l3,e1,e2,_⟩
     ·exact ⟨_,by show (holed _ _)[p.off]? = _; rw [List.getElem?_eq_getElem hlt',e]; rfl⟩
     ·simp only [Tt.ow.injEq] at e1
      obtain ⟨rfl,_,_⟩:=e1
      exact ⟨l3,by show (holed _ _)[p.off]? = _; rw [List.getElem?_eq_getElem hlt',e2]⟩
    obtain ⟨l',e⟩:=e
    rw [e]
    dsimp only
    rw [hk]
    exact Nat.le_of_ble_eq_true h
   ·cases h
  ·cases h
theorem fieldAddrT_ok {P:Program} {t:TypeId} {x:At} {i:Nat} (h:fieldAddrT P m t x i k):fieldAddrK P (toM m) t x.toV i (up k):=by
 unfold fieldAddrT at h
 split at h
 ·rename_i fs ht
  unfold fieldAddrK
  rw [ht]
  dsimp only
  cases hf:fs[i]? with
  | none=>rw [hf] at h; exact h.elim
  | some f=>
   obtain ⟨off,size,ag⟩:=f
   rw [hf] at h
   cases size with
   | zero=>exact h.elim
   | succ size=>
    dsimp only at h ⊢
    refine ⟨by omega,?_⟩
    split at h
    ·split at h
     ·rename_i hr; exact ⟨hasRoomT_ok hr,_,rfl,h⟩
     ·exact h.elim
    ·exact ⟨_,rfl,h⟩
    ·exact h.elim
 ·exact h.elim
theorem indexAddrT_ok {P:Program} {t:TypeId} {x i:At} (hp:∀ p,x=.one (.c (.rf p))->okP (toM m) p) (h:indexAddrT P m t x i k):indexAddrK P (toM m) t x.toV i.toV (up k):=by
 unfold indexAddrT at h
 split at h
 ·rename_i κ n
  simp only [At.toV,A1.toV,Tt.toT,C.toD,indexAddrK]
  split at h
  ·rename_i e ht
   rw [ht]
   split at h
   ·rename_i u l
    split at h
    ·rename_i hc
     simp only [Bool.and_eq_true] at hc
     obtain ⟨⟨h1,h2⟩,h3⟩:=h
     simp only [At.toV,A1.toV,Tt.toT,C.toD]
     refine ⟨hc.1,h1,?_⟩
     rw [get_enc l h2]
     dsimp only
     refine ⟨by rw [encU_length]; exact Nat.eq_of_beq_eq_true hc.2,_,?_,h3⟩
     simp only [At.toV,A1.toV,Tt.toT,flat_enc]
    ·exact h.elim
   ·rename_i p
    split at h
    ·rename_i hc
     simp only [Bool.and_eq_true] at hc
     split at h
     ·rename_i sh u l hs
      split at h
      ·rename_i hb
       obtain ⟨h1,h2⟩:=h
       simp only [At.toV,A1.toV,Tt.toT]
       refine ⟨hc.1,by have:=Nat.le_of_ble_eq_true hc.2; omega,sliceAt_ok (hp p rfl) hs (fun l' hl=>?_)⟩
       dsimp only
       exact ⟨⟨h1.1,by rw [hl]; exact h1.2⟩,Nat.eq_of_beq_eq_true hb,_,rfl,h2⟩
      ·exact h.elim
     ·exact h.elim
    ·exact h.elim
   ·exact h.elim
  ·rename_i N e ht
   rw [ht]
   split at h
   ·rename_i u l i
    split at h
    ·rename_i hc
     simp only [Bool.and_eq_true] at hc
     obtain ⟨h1,h2⟩:=h
     simp only [At.toV,A1.toV,Tt.toT]
     refine ⟨hc.1.1,h1,_,?_,h2⟩
     simp only [At.toV,A1.toV,Tt.toT]
     rw [Nat.eq_of_beq_eq_true hc.1.2,Nat.mul_one,Nat.add_comm]
     rfl
    ·exact h.elim
   ·rename_i p
    split at h
    ·rename_i hc
     simp only [Bool.and_eq_true] at hc
     obtain ⟨h1,h2⟩:=h
     simp only [At.toV,A1.toV,Tt.toT]
     exact ⟨hc.1,h1,hasRoomT_ok hc.2,_,rfl,h2⟩
    ·exact h.elim
   ·exact h.elim
  ·exact h.elim
 ·exact h.elim
theorem loadT_ok {P:Program} {t:TypeId} {x:At} (hp:∀ p,x=.one (.c (.pl p))->okP (toM m) p) (h:loadT P m t x k):loadK P (toM m) t x.toV (up k):=by
 unfold loadT at h
 split at h
 ·rename_i hok
  refine ⟨hok,?_⟩
  split at h
  ·rename_i row o
   simp only [At.toV,A1.toV,Tt.toT]
   split at h
   ·rename_i ha
    rw [if_pos ha]
    split at h
    ·rename_i hb
     refine ⟨by rw [List.length_map]; exact Nat.le_of_ble_eq_true hb,fun _=>⟨_,?_,h⟩⟩
     simp only [At.toV,A1.toV,AV.one.injEq,AV1.agg.injEq]
     rw [List.map_map,<- List.map_drop,<- List.map_take,List.map_map]
     rfl
    ·exact h.elim
   ·rename_i ha
    rw [if_neg (by rw [ha]; simp),List.getElem?_map]
    split at h
    ·rename_i c hc; rw [hc]; exact fun _=>⟨_,rfl,h⟩
    ·exact h.elim
  ·rename_i u l i
   simp only [At.toV,A1.toV,Tt.toT]
   split at h
   ·rename_i ha hl
    have e:l[i]? = some (l.getD i (dflt u)):=by rw [List.getD_eq_getElem?_getD,List.getElem?_eq_getElem h.1]; rfl
    rw [if_neg (by rw [ha]; simp),List.getElem?_map,e]
    exact fun _=>⟨_,rfl,h.2⟩
   ·exact h.elim
  ·rename_i p
   simp only [At.toV,A1.toV,Tt.toT]
   split at h
   ·rename_i ha
    rw [if_pos ha]
    split at h
    ·rename_i ts hts
     refine atT_ok (hp p rfl) hts (fun ts' hH=>fun _=>⟨_,?_,h⟩)
     simp only [At.toV,A1.toV,HL_refs hH]
    ·exact h.elim
   ·rename_i ha
    rw [if_neg (by rw [ha]; simp)]
    split at h
    ·rename_i t' hts
     refine atT_ok (hp p rfl) hts (fun ts' hH=>?_)
     have hl:=hH.len
     match ts',hl with
     | [t''],_=>
      dsimp only
      refine fun _=>⟨_,?_,h⟩
      simp only [At.toV,A1.toV]
      rw [RH_ref (hH.nth 0 _ _ rfl rfl)]
    ·exact h.elim
  ·exact h.elim
 ·exact h.elim
theorem cellsAt_ok (x:At):cellsAV x.toV=(cellsAt x).map (·.map Tt.toT):=by
 cases x with
 | one x=>cases x <;> rfl
 | _=>rfl
theorem overw_map {α β:Type} (f:α->β) (ts cs:List α) (off:Nat):(overw ts off cs).map f=overw (ts.map f) off (cs.map f):=by
 simp only [overw,List.map_append,List.map_take,List.map_drop,List.length_map]
theorem fillTt_ok {pl:Nat->Option (Nat×Nat)}:∀ {parts:List (Nat×At)} {ts ts':List Tt},fillTt pl ts parts=some ts'->fillT pl (ts.map Tt.toT) (parts.map fun x=>(x.1,x.2.toV))=some (ts'.map Tt.toT)
 | [],ts,ts',h=>by simp only [fillTt,Option.some.injEq] at h; subst h; rfl
 | (i,x)::r,ts,ts',h=>by
  simp only [fillTt] at h
  simp only [List.map_cons,fillT]
  cases hpl:pl i with
  | none=>rw [hpl] at h; cases h
  | some q=>
   obtain ⟨off,size⟩:=q
   cases hc:cellsAt x with
   | none=>rw [hpl,hc] at h; cases h
   | some cs=>
    rw [hpl,hc] at h
    dsimp only at h
    split at h
    ·rename_i hb
     simp only [Bool.and_eq_true] at hb
     rw [cellsAt_ok,hc]
     dsimp only [Option.map_some]
     have hs:(cs.map Tt.toT).all T.sure=true:=by
      rw [List.all_map]
      rw [<- hb.2]
      congr 1
      funext t; exact sure_toT t
     rw [if_pos ⟨by rw [List.length_map]; exact Nat.eq_of_beq_eq_true hb.1.1,by rw [List.length_map,List.length_map]; exact Nat.le_of_ble_eq_true hb.1.2,hs⟩]
     rw [<- overw_map]
     exact fillTt_ok h
    ·cases h
theorem partsT_ok {s:St} {ps:Array (Nat×Operand)} (h:(ps.toList.all fun x=>okOp x.2)=true):partsK s.toS ps=(partsT s ps).map fun x=>(x.1,x.2.toV):=by
 unfold partsK partsT
 rw [List.map_map]
 refine List.map_congr_left fun x hx=>?_
 simp only [Function.comp]
 rw [evA_toV (List.all_eq_true.1 h x hx)]
theorem csts_ok {zs:List Value} (h:zs.all okT=true):(zs.map cstTt).map Tt.toT=zs.map cstT:=by
 rw [List.map_map]
 exact List.map_congr_left fun x hx=>cstTt_toT (List.all_eq_true.1 h x hx)
theorem zst_okT {P:Program} {t:TypeId} {zs:List Value} {pl:List (Nat×Nat)} (h:zst P t=some (zs,pl)):zs.all okT=true:=by
 unfold zst at h
 split at h
 ·split at h
  ·split at h
   ·rename_i hall
    simp only [Option.some.injEq,Prod.mk.injEq] at h
    obtain ⟨rfl,_⟩:=h
    simpa using hall
   ·cases h
  ·cases h
 ·split at h
  ·split at h
   ·rename_i hall
    simp only [Option.some.injEq,Prod.mk.injEq] at h
    obtain ⟨rfl,_⟩:=h
    simpa using hall
   ·cases h
  ·cases h
 ·cases h
theorem buildT_ok {P:Program} {t:TypeId} {parts:List (Nat×At)} (h:buildT P t parts k):buildK P t (parts.map fun x=>(x.1,x.2.toV)) (up k):=by
 unfold buildT at h
 split at h
 ·rename_i zs places hz
  split at h
  ·rename_i ts hf
   unfold buildK
   rw [hz]
   dsimp only
   have:=fillTt_ok hf
   rw [csts_ok (zst_okT hz)] at this
   rw [this]
   exact ⟨.one (.agg ts),rfl,h⟩
  ·exact h.elim
 ·exact h.elim
end
end Go.Am
end

section
namespace Go.Am
theorem Tt_kill_toT (bad:Bool->Pl->Bool) (t:Tt):(t.kill bad).toT=t.toT.kill bad:=by
 cases t with
 | pl p=>
  show (if bad false p=true then Tt.any else Tt.pl p).toT=if bad false p=true then T.any else T.pl p
  by_cases h:bad false p=true <;> simp [h,Tt.toT]
 | rf p=>
  show (if bad true p=true then Tt.any else Tt.rf p).toT=if bad true p=true then T.any else T.rf p
  by_cases h:bad true p=true <;> simp [h,Tt.toT]
 | _=>rfl
theorem Tts_kill (bad:Bool->Pl->Bool) (ts:List Tt):(ts.map (·.kill bad)).map Tt.toT=(ts.map Tt.toT).map (·.kill bad):=by
 rw [List.map_map,List.map_map]; exact List.map_congr_left fun t _=>Tt_kill_toT bad t
theorem A1_kill_toV (bad:Bool->Pl->Bool) (x:A1):(x.kill bad).toV=x.toV.kill bad:=by
 cases x with
 | c t=>simp only [A1.kill,A1.toV,AV1.kill,Tt_kill_toT]
 | agg ts=>simp only [A1.kill,A1.toV,AV1.kill,Tts_kill]
theorem At_kill_toV (bad:Bool->Pl->Bool) (x:At):(x.kill bad).toV=x.toV.kill bad:=by
 cases x with
 | one x=>simp only [At.kill,At.toV,AV.kill,A1_kill_toV]
 | tup xs=>
  simp only [At.kill,At.toV,AV.kill]
  congr 1
  rw [List.map_map,List.map_map]; exact List.map_congr_left fun t _=>A1_kill_toV bad t
 | any=>rfl
theorem Tt_kill_id {bad:Bool->Pl->Bool} {t:Tt} (h:t.hit bad=false):t.kill bad=t:=by
 cases t with
 | pl p=>simp only [Tt.hit] at h; simp [Tt.kill,h]
 | rf p=>simp only [Tt.hit] at h; simp [Tt.kill,h]
 | _=>rfl
theorem Tts_kill_id {bad:Bool->Pl->Bool}:∀ {ts:List Tt},ts.any (·.hit bad)=false->ts.map (·.kill bad)=ts
 | [],_=>rfl
 | t::ts,h=>by
  simp only [List.any_cons,Bool.or_eq_false_iff] at h
  rw [List.map_cons,Tt_kill_id h.1,Tts_kill_id h.2]
theorem A1_kill_id {bad:Bool->Pl->Bool} {x:A1} (h:x.hit bad=false):x.kill bad=x:=by
 cases x with
 | c t=>simp only [A1.kill,Tt_kill_id (show t.hit bad=false from h)]
 | agg ts=>simp only [A1.kill,Tts_kill_id (show ts.any _=false from h)]
theorem At_kill_id {bad:Bool->Pl->Bool} {x:At} (h:x.hit bad=false):x.kill bad=x:=by
 cases x with
 | one x=>simp only [At.kill,A1_kill_id (show x.hit bad=false from h)]
 | tup xs=>
  simp only [At.hit] at h
  simp only [At.kill]
  congr 1
  induction xs with
  | nil=>rfl
  | cons x xs ih=>
   simp only [List.any_cons,Bool.or_eq_false_iff] at h
   rw [List.map_cons,A1_kill_id h.1,ih h.2]
 | any=>rfl
theorem holed_kill (bad:Bool->Pl->Bool) (cells:List Tt) (hole:Option (Nat×Step×List Step)) :
  holed ((cells.map (·.kill bad)).map Tt.toT) hole=(holed (cells.map Tt.toT) hole).map (·.kill bad):=by
 rw [Tts_kill]
 cases hole with
 | none=>rfl
 | some h=>
  obtain ⟨off,st,q⟩:=h
  simp only [holed]
  rw [List.getElem?_map (f:=fun t=>T.kill bad t)]
  cases hc:(cells.map Tt.toT)[off]? with
  | none=>rfl
  | some t=>
   simp only [Option.map_some]
   cases t with
   | ow sub l=>simp only [T.kill,List.map_set]
   | pl p=>by_cases h:bad false p=true <;> simp [T.kill,h]
   | rf p=>by_cases h:bad true p=true <;> simp [T.kill,h]
   | _=>rfl
theorem Rt_kill_toR (bad:Bool->Pl->Bool) (r:Rt):(r.kill bad).toR={ r.toR with cells:=r.toR.cells.map (·.kill bad) }:=by
 simp only [Rt.toR,Rt.kill,holed_kill]
theorem killA_toS (bad:Bool->Pl->Bool) (nx:Nat) (t:List (Nat×Nat×At)):(killA bad nx t).map (fun x=>(x.1,x.2.2.toV))=killT bad (t.map fun x=>(x.1,x.2.2.toV)):=by
 simp only [killA,killT,List.map_map]
 exact List.map_congr_left fun x _=>by simp only [Function.comp,At_kill_toV]
theorem killMm_toM (bad:Bool->Pl->Bool) (nx:Nat) (m:List (Nm×Nat×Rt)):toM (killMm bad nx m)=killM bad (toM m):=by
 simp only [toM,killMm,killM,List.map_map]
 exact List.map_congr_left fun x _=>by simp only [Function.comp,Rt_kill_toR]
theorem ND_kill {bad:Bool->Pl->Bool} {nx:Nat} {m:List (Nm×Nat×Rt)}:ND (killMm bad nx m) ↔ ND m:=by
 simp only [ND,killMm,List.map_map]; exact Iff.rfl
theorem mem_delM {n k:Nm}:∀ {m:List (Nm×Nat×Rt)},k∈(delM m n).map (·.1)->k∈m.map (·.1)/\k≠n
 | [],h=>by simp [delM] at h
 | (k',j,v)::m,h=>by
  simp only [delM] at h
  split at h
  ·have:=mem_delM h; exact ⟨List.mem_cons_of_mem _ this.1,this.2⟩
  ·rename_i hk
   simp only [List.map_cons,List.mem_cons] at h
   rcases h with rfl | h
   ·exact ⟨by simp,hk⟩
   ·have:=mem_delM h; exact ⟨List.mem_cons_of_mem _ this.1,this.2⟩
theorem ND_del {n:Nm}:∀ {m:List (Nm×Nat×Rt)},ND m->ND (delM m n)
 | [],_=>by simp [ND,delM]
 | (k,j,v)::m,h=>by
  have h':k ∉ m.map (·.1)/\(m.map (·.1)).Nodup:=by simpa [ND] using h
  simp only [delM]
  split
  ·exact ND_del h'.2
  ·have:=ND_del (n:=n) h'.2
   simp only [ND,List.map_cons,List.nodup_cons]
   exact ⟨fun hm=>h'.1 (mem_delM hm).1,this⟩
theorem keys_setM (n:Nm) (i:Nat) (r:Rt):∀ m:List (Nm×Nat×Rt),(setM m n i r).map (·.1)=m.map (·.1)
 | []=>rfl
 | (k,j,v)::m=>by
  simp only [setM]
  split
  ·rfl
  ·simp only [List.map_cons,keys_setM n i r m]
theorem ND_of {g:G} {s:St} {a:Act} {w:World} {H:FH} {γ:Gam} {F:Nm->Fp} (h:RX g s.toS a w H γ F):ND s.m:=by
 have:=h.mem.keys
 have e:s.toS.m.map (·.1)=s.m.map (·.1):=by simp only [St.toS,List.map_map]; rfl
 rw [e] at this; exact this
theorem drop_toS {s:St} {n:Nm} (h:ND s.m):(s.drop n).toS=s.toS.drop n:=by
 have h1:=killA_toS (badR n) s.nx s.t
 have h2:=killMm_toM (badR n) s.nx (delM s.m n)
 rw [delM_toM n s.m h] at h2
 exact S_ext h1 h2
where
 S_ext {t t':List (Nat×AV)} {m m':Mm} (h1:t=t') (h2:m=m'):(⟨t,m⟩:S)=⟨t',m'⟩:=by rw [h1,h2]
theorem ND_drop {s:St} {n:Nm} (h:ND s.m):ND (s.drop n).m:=ND_kill.2 (ND_del h)
theorem fresh_toS {s:St} {n:Nm} (h:ND s.m):(s.fresh n).toS=s.toS.fresh n:=by
 unfold St.fresh S.fresh
 have e:getR s.toS.m n=(getM s.m n).map Rt.toR:=getM_toM n s.m
 rw [e]
 cases hm:getM s.m n with
 | none=>rfl
 | some r=>exact drop_toS h
def SEq (s s':S):Prop:=(∀ i,getT s.t i=getT s'.t i)/\s.m=s'.m
theorem RX_SEq {g:G} {s s':S} {a:Act} {w:World} {H:FH} {γ:Gam} {F:Nm->Fp} (e:SEq s s') (h:RX g s a w H γ F):RX g s' a w H γ F:=by
 obtain ⟨t,m⟩:=s
 obtain ⟨t',m'⟩:=s'
 obtain ⟨e1,e2⟩:=e
 dsimp only at e1 e2
 subst e2
 exact ⟨h.mem,h.fr,h.nt,h.df,fun i=>by rw [<- e1 i]; exact h.t i⟩
theorem R_SEq {g:G} {s s':S} {a:Act} {w:World} (e:SEq s s') (h:R g s a w):R g s' a w:=by
 obtain ⟨H,γ,F,h⟩:=h; exact ⟨H,γ,F,RX_SEq e h⟩
theorem put_SEq (s:St) (d:Option Tmp) (v:At):SEq (s.toS.put d v.toV) (s.put d v).toS:=by
 cases d with
 | none=>exact ⟨fun _=>rfl,rfl⟩
 | some d=>
  refine ⟨fun i=>?_,rfl⟩
  show getT (setT _ d v.toV) i=getT ((d,v.toV)::_) i
  rw [getT_setT]; rfl
theorem lookS_map (f:Nat×Nat×At->Nat×At) (k:Nat):∀ t:List (Nat×Nat×At),lookS (t.map fun x=>(x.1,f x)) k=(lookS t k).map fun y=>f (k,y)
 | []=>rfl
 | (i,j,v)::t=>by
  simp only [List.map_cons,lookS]
  cases hb:Nat.beq i k with
  | true=>have:=Nat.eq_of_beq_eq_true hb; subst this; rfl
  | false=>exact lookS_map f k t
theorem lookM_map (f:Nm×Nat×Rt->Nat×Rt) (k:Nm):∀ t:List (Nm×Nat×Rt),lookM (t.map fun x=>(x.1,f x)) k=(lookM t k).map fun y=>f (k,y)
 | []=>rfl
 | (i,j,v)::t=>by
  simp only [List.map_cons,lookM]
  by_cases hb:i=k
  ·subst hb; rw [if_pos rfl,if_pos rfl]; rfl
  ·rw [if_neg hb,if_neg hb]; exact lookM_map f k t
structure Ext (s0 s:St):Prop where
 nx:s0.nx<=s.nx
 t:∀ k j v,lookS s.t k=some (j,v)->j<s0.nx->lookS s0.t k=some (j,v)
 m:∀ n j r,lookM s.m n=some (j,r)->j<s0.nx->lookM s0.m n=some (j,r)
theorem Ext.refl (s:St):Ext s s:=⟨Nat.le_refl _,fun _ _ _ h _=>h,fun _ _ _ h _=>h⟩
theorem Ext.trans {a b c:St} (h1:Ext a b) (h2:Ext b c):Ext a c:=
 ⟨Nat.le_trans h1.nx h2.nx,fun k j v h hj=>h1.t k j v (h2.t k j v h (Nat.lt_of_lt_of_le hj h1.nx)) hj,fun k j v h hj=>h1.m k j v (h2.m k j v h (Nat.lt_of_lt_of_le hj h1.nx)) hj⟩
abbrev ExtT (nx:Nat) (t t':List (Nat×Nat×At)):Prop:=∀ k j v,lookS t' k=some (j,v)->j<nx->lookS t k=some (j,v)
abbrev ExtM (nx:Nat) (m m':List (Nm×Nat×Rt)):Prop:=∀ n j r,lookM m' n=some (j,r)->j<nx->lookM m n=some (j,r)
theorem ExtM.trans {nx:Nat} {a b c:List (Nm×Nat×Rt)} (h1:ExtM nx a b) (h2:ExtM nx b c):ExtM nx a c:=fun n j r h hj=>h1 n j r (h2 n j r h hj) hj
theorem ExtT.trans {nx:Nat} {a b c:List (Nat×Nat×At)} (h1:ExtT nx a b) (h2:ExtT nx b c):ExtT nx a c:=fun n j r h hj=>h1 n j r (h2 n j r h hj) hj
theorem ExtT_cons {nx:Nat} {t:List (Nat×Nat×At)} (d i:Nat) (v:At) (hi:nx<=i):ExtT nx t ((d,i,v)::t):=by
 intro k j w h hj
 simp only [lookS] at h
 split at h
 ·simp only [Option.some.injEq,Prod.mk.injEq] at h; omega
 ·exact h
theorem ExtM_cons {nx:Nat} {t:List (Nm×Nat×Rt)} (d:Nm) (i:Nat) (v:Rt) (hi:nx<=i):ExtM nx t ((d,i,v)::t):=by
 intro k j w h hj
 simp only [lookM] at h
 split at h
 ·simp only [Option.some.injEq,Prod.mk.injEq] at h; omega
 ·exact h
theorem ExtT_map {nx i:Nat} {t:List (Nat×Nat×At)} (chg:At->Bool) (f:At->At) (hf:∀ v,chg v=false->f v=v) (hi:nx<=i) :
  ExtT nx t (t.map fun x=>(x.1,stp (chg x.2.2) i x.2.1,f x.2.2)):=by
 intro k j v h hj
 rw [lookS_map (fun x=>(stp (chg x.2.2) i x.2.1,f x.2.2))] at h
 cases hl:lookS t k with
 | none=>rw [hl] at h; cases h
 | some y=>
  obtain ⟨j',v'⟩:=y
  rw [hl] at h
  simp only [Option.map_some,Option.some.injEq,Prod.mk.injEq] at h
  cases hc:chg v' with
  | true=>rw [hc] at h; simp only [stp] at h; omega
  | false=>rw [hc,hf v' hc] at h; simp only [stp] at h; obtain ⟨rfl,rfl⟩:=h; rfl
theorem ExtT_kill {nx i:Nat} {t:List (Nat×Nat×At)} {bad:Bool->Pl->Bool} (hi:nx<=i):ExtT nx t (killA bad i t):=ExtT_map (·.hit bad) (·.kill bad) (fun _ h=>At_kill_id h) hi
theorem ExtM_kill {nx i:Nat} {t:List (Nm×Nat×Rt)} {bad:Bool->Pl->Bool} (hi:nx<=i):ExtM nx t (killMm bad i t):=by
 intro k j v h hj
 unfold killMm at h
 rw [lookM_map (fun x=>(stp (x.2.2.cells.any (·.hit bad)) i x.2.1,x.2.2.kill bad))] at h
 cases hl:lookM t k with
 | none=>rw [hl] at h; cases h
 | some y=>
  obtain ⟨j',r⟩:=y
  rw [hl] at h
  simp only [Option.map_some,Option.some.injEq,Prod.mk.injEq] at h
  cases hc:r.cells.any (·.hit bad) with
  | true=>rw [hc] at h; simp only [stp] at h; omega
  | false=>
   rw [hc] at h
   have:r.kill bad=r:=by unfold Rt.kill; rw [Tts_kill_id hc]
   rw [this] at h
   simp only [stp] at h
   obtain ⟨rfl,rfl⟩:=h; rfl
theorem lookM_delM (n k:Nm):∀ m:List (Nm×Nat×Rt),lookM (delM m n) k=if k=n then none else lookM m k
 | []=>by simp [delM,lookM]
 | (i,j,v)::m=>by
  simp only [delM]
  by_cases h:i=n
  ·subst h
   rw [if_pos rfl,lookM_delM i k m]
   by_cases hk:k=i
   ·rw [if_pos hk,if_pos hk]
   ·rw [if_neg hk,if_neg hk]; simp only [lookM]; rw [if_neg (fun e=>hk e.symm)]
  ·rw [if_neg h]
   simp only [lookM]
   by_cases hk:i=k
   ·subst hk; rw [if_pos rfl,if_neg h,if_pos rfl]
   ·rw [if_neg hk,if_neg hk,lookM_delM n k m]
theorem ExtM_del {nx:Nat} {m:List (Nm×Nat×Rt)} (n:Nm):ExtM nx m (delM m n):=by
 intro k j r h _
 rw [lookM_delM] at h
 split at h
 ·cases h
 ·exact h
theorem ExtM_set {nx i:Nat} (n:Nm) (r:Rt) (hi:nx<=i):∀ m:List (Nm×Nat×Rt),ExtM nx m (setM m n i r)
 | [],_,_,_,h,_=>h
 | (a,b,c)::m,k,j,v,h,hj=>by
  simp only [setM] at h
  split at h
  ·rename_i ha
   simp only [lookM] at h ⊢
   split at h
   ·simp only [Option.some.injEq,Prod.mk.injEq] at h; omega
   ·rename_i hk; rw [if_neg hk]; exact h
  ·simp only [lookM] at h ⊢
   split at h
   ·rename_i hk; rw [if_pos hk]; exact h
   ·rename_i hk; rw [if_neg hk]; exact ExtM_set n r hi m k j v h hj
theorem Ext_put (s:St) (d:Option Tmp) (v:At):Ext s (s.put d v):=by
 cases d with
 | none=>exact Ext.refl s
 | some d=>exact ⟨Nat.le_succ _,ExtT_cons d s.nx v (Nat.le_refl _),fun _ _ _ h _=>h⟩
theorem Ext_drop (s:St) (n:Nm):Ext s (s.drop n):=⟨Nat.le_succ _,ExtT_kill (Nat.le_refl _),(ExtM_del n).trans (ExtM_kill (Nat.le_refl _))⟩
theorem Ext_fresh (s:St) (n:Nm):Ext s (s.fresh n):=by
 unfold St.fresh; split
 ·exact Ext.refl s
 ·exact Ext_drop s n
theorem Ext_root (s:St) (n:Nm) (r:Rt):Ext s (s.root n r):=⟨Nat.le_succ _,fun _ _ _ h _=>h,ExtM_cons n s.nx r (Nat.le_refl _)⟩
theorem Tt_frz_toT (q:Pl) (u:U) (l:List (El u)) (t:Tt):(t.frz q u l).toT=t.toT.frz q (l.map (encU u)):=by
 cases t with
 | pl p=>exact Tt_kill_toT (thr q) (.pl p)
 | rf p=>
  obtain ⟨n,o,path⟩:=p
  cases path with
  | nil=>
   show (if n=q.root/\o=q.off then Tt.d (.li u l) else (Tt.rf ⟨n,o,[]⟩).kill (thr q)).toT=if n=q.root/\o=q.off then T.d (.li (l.map (encU u))) else (T.rf ⟨n,o,[]⟩).kill (thr q)
   by_cases h:n=q.root/\o=q.off
   ·rw [if_pos h,if_pos h]; rfl
   ·rw [if_neg h,if_neg h]; exact Tt_kill_toT (thr q) (.rf ⟨n,o,[]⟩)
  | cons st r=>exact Tt_kill_toT (thr q) (.rf ⟨n,o,st::r⟩)
 | _=>rfl
theorem A1_map_toV {f:Tt->Tt} {f':T->T} (h:∀ t,(f t).toT=f' t.toT) (x:A1):(x.map f).toV=x.toV.map f':=by
 cases x with
 | c t=>simp only [A1.map,A1.toV,AV1.map,h]
 | agg ts=>
  simp only [A1.map,A1.toV,AV1.map]
  congr 1
  rw [List.map_map,List.map_map]; exact List.map_congr_left fun t _=>h t
theorem At_map_toV {f:Tt->Tt} {f':T->T} (h:∀ t,(f t).toT=f' t.toT) (x:At):(x.map f).toV=x.toV.map f':=by
 cases x with
 | one x=>simp only [At.map,At.toV,AV.map,A1_map_toV h]
 | tup xs=>
  simp only [At.map,At.toV,AV.map]
  congr 1
  rw [List.map_map,List.map_map]; exact List.map_congr_left fun t _=>A1_map_toV h t
 | any=>rfl
theorem Tt_frz_id {q:Pl} {u:U} {l:List (El u)} {t:Tt} (h:t.hit (thrF q)=false):t.frz q u l=t:=by
 cases t with
 | pl p=>
  simp only [Tt.hit,thrF,Bool.false_and,Bool.or_false] at h
  exact Tt_kill_id (t:=.pl p) h
 | rf p=>
  simp only [Tt.hit,thrF,Bool.true_and,Bool.or_eq_false_iff] at h
  obtain ⟨n,o,path⟩:=p
  cases path with
  | nil=>
   simp only [Tt.frz]
   rw [if_neg (by simpa using h.2)]
   exact Tt_kill_id (t:=.rf ⟨n,o,[]⟩) h.1
  | cons st r=>exact Tt_kill_id (t:=.rf ⟨n,o,st::r⟩) h.1
 | _=>rfl
theorem At_frz_id {q:Pl} {u:U} {l:List (El u)} {x:At} (h:x.hit (thrF q)=false):x.map (Tt.frz q u l)=x:=by
 have one:∀ {y:A1},y.hit (thrF q)=false->y.map (Tt.frz q u l)=y:=by
  intro y hy
  cases y with
  | c t=>simp only [A1.map,Tt_frz_id (show t.hit _=false from hy)]
  | agg ts=>
   simp only [A1.hit] at hy
   simp only [A1.map]
   congr 1
   induction ts with
   | nil=>rfl
   | cons t ts ih=>
    simp only [List.any_cons,Bool.or_eq_false_iff] at hy
    rw [List.map_cons,Tt_frz_id hy.1,ih hy.2]
 cases x with
 | one y=>simp only [At.map,one (show y.hit _=false from h)]
 | tup xs=>
  simp only [At.hit] at h
  simp only [At.map]
  congr 1
  induction xs with
  | nil=>rfl
  | cons y ys ih=>
   simp only [List.any_cons,Bool.or_eq_false_iff] at h
   rw [List.map_cons,one h.1,ih h.2]
 | any=>rfl
theorem getM_lookM (n:Nm):∀ m:List (Nm×Nat×Rt),getM m n=(lookM m n).map (·.2)
 | []=>rfl
 | (k,j,r)::m=>by
  simp only [getM,lookM]
  by_cases h:k=n
  ·rw [if_pos h,if_pos h]; rfl
  ·rw [if_neg h,if_neg h]; exact getM_lookM n m
theorem Ext_frzPt (s:St) (q:Pl):Ext s (frzPt s q):=by
 unfold frzPt
 split
 ·split
  ·rename_i u l _ _
   refine ⟨Nat.le_succ _,ExtT_map (·.hit (thrF q)) (·.map (Tt.frz q u l)) (fun _ h=>At_frz_id h) (Nat.le_refl _),?_⟩
   have hset:∀ (m:List (Nm×Nat×Rt)) off t,ExtM s.nx m (setCell m q.root s.nx off t):=by
    intro m off t
    unfold setCell
    split
    ·exact ExtM_set _ _ (Nat.le_refl _) m
    ·exact fun _ _ _ h _=>h
   exact ((hset _ _ _).trans (ExtM_kill (Nat.le_refl _))).trans (hset _ _ _)
  ·exact Ext.refl s
 ·exact Ext.refl s
theorem setCell_toM {m:List (Nm×Nat×Rt)} {n:Nm} {i off:Nat} {t:Tt} {r:Rt} (hr:getM m n=some r) (hh:r.hole=none) :
  toM (setCell m n i off t)=setR (toM m) n ⟨r.blk,(r.toR.cells).set off t.toT⟩:=by
 unfold setCell
 rw [hr]
 dsimp only
 rw [setM_toM]
 congr 1
 simp only [Rt.toR,hh,holed,List.map_set]
theorem getM_setCell {m:List (Nm×Nat×Rt)} {n:Nm} {i off:Nat} {t:Tt} {r:Rt} (hr:getM m n=some r):getM (setCell m n i off t) n=some { r with cells:=r.cells.set off t }:=by
 unfold setCell
 rw [hr]
 dsimp only
 induction m with
 | nil=>cases hr
 | cons x m ih=>
  obtain ⟨k,j,v⟩:=x
  simp only [setM]
  simp only [getM] at hr
  by_cases h:k=n
  ·rw [if_pos h]; simp only [getM]; rw [if_pos h]
  ·rw [if_neg h] at hr ⊢; simp only [getM]; rw [if_neg h]; exact ih hr
theorem getM_kill (bad:Bool->Pl->Bool) (i:Nat) (n:Nm) (m:List (Nm×Nat×Rt)):getM (killMm bad i m) n=(getM m n).map (·.kill bad):=by
 rw [getM_lookM,getM_lookM]
 unfold killMm
 rw [lookM_map (fun x=>(stp (x.2.2.cells.any (·.hit bad)) i x.2.1,x.2.2.kill bad))]
 cases lookM m n <;> rfl
theorem RXt_frzPt {g:G} {s:St} {a:Act} {w:World} {H:FH} {γ:Gam} {F:Nm->Fp} (h:RX g s.toS a w H γ F) (q:Pl):∃ H' F',RX g (frzPt s q).toS a w H' γ F':=by
 unfold frzPt
 split
 ·rename_i r hpath hr
  split
  ·rename_i sh u l hh hc
   obtain ⟨H',F',h'⟩:=RX_frz h q
   refine ⟨H',F',?_⟩
   have ec:r.toR.cells[q.off]? = some (.ow sh (l.map (encU u))):=by
    show (holed (r.cells.map Tt.toT) r.hole)[q.off]? = _
    rw [hh]
    show (r.cells.map Tt.toT)[q.off]? = _
    rw [List.getElem?_map,hc]; rfl
   have eg:getR s.toS.m q.root=some r.toR:=getR_of hr
   have egp:getPl s.toS.m q=some (.ow sh (l.map (encU u))):=by
    unfold getPl
    rw [eg,hpath]
    exact ec
   have efrz:frzP s.toS q=⟨mapT (AV.map (T.frz q (l.map (encU u)))) s.toS.t,frzM s.toS.m q (l.map (encU u))⟩:=by
    unfold frzP
    rw [egp,hpath]
   rw [efrz] at h'
   have key:(⟨s.nx+1,s.t.map fun x=>(x.1,stp (x.2.2.hit (thrF q)) s.nx x.2.1,x.2.2.map (Tt.frz q u l)),
     setCell (killMm (thr q) s.nx (setCell s.m q.root s.nx q.off .any)) q.root s.nx q.off (.d (.li u l))⟩:St).toS=⟨mapT (AV.map (T.frz q (l.map (encU u)))) s.toS.t,frzM s.toS.m q (l.map (encU u))⟩:=by
    refine drop_toS.S_ext ?_ ?_
    ·simp only [St.toS,mapT,List.map_map]
     exact List.map_congr_left fun x _=>by simp only [Function.comp,At_map_toV (Tt_frz_toT q u l)]
    ·have g1:=getM_setCell (i:=s.nx) (off:=q.off) (t:=.any) hr
     have g2:getM (killMm (thr q) s.nx (setCell s.m q.root s.nx q.off .any)) q.root=some (({ r with cells:=r.cells.set q.off .any }:Rt).kill (thr q)):=by rw [getM_kill,g1]; rfl
     show toM (setCell _ q.root s.nx q.off (.d (.li u l)))=_
     rw [setCell_toM g2 hh,killMm_toM,setCell_toM hr hh]
     unfold frzM
     have p1:putPl s.toS.m q .any=setR (toM s.m) q.root ⟨r.blk,r.toR.cells.set q.off Tt.any.toT⟩:=by
      unfold putPl
      rw [eg,hpath]
      rfl
     rw [p1]
     have g3:getR (killM (thr q) (setR (toM s.m) q.root ⟨r.blk,r.toR.cells.set q.off Tt.any.toT⟩)) q.root=some ⟨r.blk,(r.toR.cells.set q.off Tt.any.toT).map (·.kill (thr q))⟩:=by
      have:=getR_of g2
      rw [killMm_toM,setCell_toM hr hh] at this
      rw [this,Rt_kill_toR]
      simp only [Rt.toR,hh,holed,List.map_set,Tt.toT]
     unfold putPl
     rw [g3,hpath]
     dsimp only
     congr 1
     simp only [Rt.toR,Rt.kill,hh,holed,List.map_set,Tts_kill,List.set_set,Tt.toT,C.toD]
   rw [key]; exact h'
  ·exact ⟨H,F,h⟩
 ·exact ⟨H,F,h⟩
end Go.Am
end

section
namespace Go.Am
section
variable {g:G} {a:Act} {w:World} {γ:Gam}
theorem RXt_frzTt {s:St} {H:FH} {F:Nm->Fp} (h:RX g s.toS a w H γ F) (t:Tt):∃ H' F',RX g (frzTt s t).toS a w H' γ F':=by
 cases t with
 | rf p=>exact RXt_frzPt h p
 | _=>exact ⟨H,F,h⟩
theorem RXt_frzTts:∀ (ts:List Tt) (s:St) (H:FH) (F:Nm->Fp),RX g s.toS a w H γ F->∃ H' F',RX g (frzTts s ts).toS a w H' γ F'
 | [],_,H,F,h=>⟨H,F,h⟩
 | t::ts,s,H,F,h=>by
  obtain ⟨H1,F1,h1⟩:=RXt_frzTt h t
  exact RXt_frzTts ts _ H1 F1 h1
theorem RXt_frzAt {s:St} {H:FH} {F:Nm->Fp} (h:RX g s.toS a w H γ F) (v:At):∃ H' F',RX g (frzAt s v).toS a w H' γ F':=by
 cases v with
 | one x=>cases x with
  | c t=>exact RXt_frzTt h t
  | agg ts=>exact RXt_frzTts ts s H F h
 | _=>exact ⟨H,F,h⟩
theorem RXt_frzAts:∀ (vs:List At) (s:St) (H:FH) (F:Nm->Fp),RX g s.toS a w H γ F->∃ H' F',RX g (frzAts s vs).toS a w H' γ F'
 | [],_,H,F,h=>⟨H,F,h⟩
 | v::vs,s,H,F,h=>by
  obtain ⟨H1,F1,h1⟩:=RXt_frzAt h v
  exact RXt_frzAts vs _ H1 F1 h1
theorem RXt_mono {s s':St} {H:FH} {F:Nm->Fp} (hX:RX g s.toS a w H γ F) (hf:∀ (g':G) (H:FH) (F:Nm->Fp),RX g' s.toS a w H γ F->∃ H' F',RX g' s'.toS a w H' γ F') :
  ∃ H' F',RX g s'.toS a w H' γ F'/\∀ b o y,H b o=some y->H' b o=some y:=by
 let g':G:=⟨g.nt,w,H,tot F s.toS.m,g.out,g.ex,g.dfs⟩
 have hX2:RX g' s.toS a w H γ F:=⟨hX.mem,Fr.refl' rfl rfl rfl rfl (fun _ h=>h),hX.nt,⟨hX.df.1,hX.df.2.1,RX_globs hX⟩,hX.t⟩
 obtain ⟨H',F',h⟩:=hf g' H F hX2
 exact ⟨H',F',⟨h.mem,hX.fr.trans h.fr,h.nt,⟨h.df.1,h.df.2.1,hX.df.2.2⟩,h.t⟩,h.fr.hold⟩
theorem RXt_frzSt:∀ (ts:List Tt) (s:St) (p:Pl) (H:FH) (F:Nm->Fp),RX g s.toS a w H γ F->∃ H' F',RX g (frzSt s p ts).toS a w H' γ F'
 | [],s,_,H,F,h=>⟨H,F,h⟩
 | t::ts,s,p,H,F,h=>by
  cases t with
  | rf q=>
   simp only [frzSt]
   split
   ·obtain ⟨H1,F1,h1⟩:=RXt_frzPt h q
    exact RXt_frzSt ts _ _ H1 F1 h1
   ·exact RXt_frzSt ts _ _ H F h
  | _=>exact RXt_frzSt ts s (p.add 1) H F h
theorem RXt_frzTo {s:St} {H:FH} {F:Nm->Fp} (h:RX g s.toS a w H γ F) (x v:At):∃ H' F',RX g (frzTo s x v).toS a w H' γ F':=by
 unfold frzTo
 split
 ·exact RXt_frzSt _ _ _ H F h
 ·exact ⟨H,F,h⟩
theorem Ext_frzTt (s:St) (t:Tt):Ext s (frzTt s t):=by
 cases t with
 | rf p=>exact Ext_frzPt s p
 | _=>exact Ext.refl s
theorem Ext_frzTts:∀ (ts:List Tt) (s:St),Ext s (frzTts s ts)
 | [],s=>Ext.refl s
 | t::ts,s=>(Ext_frzTt s t).trans (Ext_frzTts ts _)
theorem Ext_frzAt (s:St) (v:At):Ext s (frzAt s v):=by
 cases v with
 | one x=>cases x with
  | c t=>exact Ext_frzTt s t
  | agg ts=>exact Ext_frzTts ts s
 | _=>exact Ext.refl s
theorem Ext_frzSt:∀ (ts:List Tt) (s:St) (p:Pl),Ext s (frzSt s p ts)
 | [],s,_=>Ext.refl s
 | t::ts,s,p=>by
  cases t with
  | rf q=>
   simp only [frzSt]
   split
   ·exact (Ext_frzPt s q).trans (Ext_frzSt ts _ _)
   ·exact Ext_frzSt ts _ _
  | _=>exact Ext_frzSt ts s (p.add 1)
theorem Ext_frzTo (s:St) (x v:At):Ext s (frzTo s x v):=by
 unfold frzTo
 split
 ·exact Ext_frzSt _ _ _
 ·exact Ext.refl s
theorem Ext_frzAts:∀ (vs:List At) (s:St),Ext s (frzAts s vs)
 | [],s=>Ext.refl s
 | v::vs,s=>(Ext_frzAt s v).trans (Ext_frzAts vs _)
theorem RXt_preF {s:St} {H:FH} {F:Nm->Fp} (h:RX g s.toS a w H γ F) (o:Oper):∃ H' F',RX g (preF s o).toS a w H' γ F':=by
 unfold preF
 split
 ·exact RXt_frzAt h _
 ·exact RXt_frzAt h _
 ·exact ⟨H,F,h⟩
theorem Ext_preF (s:St) (o:Oper):Ext s (preF s o):=by
 unfold preF
 split
 ·exact Ext_frzAt s _
 ·exact Ext_frzAt s _
 ·exact Ext.refl s
theorem frzT_noRf {s:S} {t:Tt} (h:t.noRf=true):frzT s t.toT=s:=by
 cases t with
 | rf p=>cases h
 | _=>rfl
theorem frzTs_noRf {s:S}:∀ {ts:List Tt},ts.all Tt.noRf=true->frzTs s (ts.map Tt.toT)=s
 | [],_=>rfl
 | t::ts,h=>by
  simp only [List.all_cons,Bool.and_eq_true] at h
  simp only [List.map_cons,frzTs]
  rw [frzT_noRf h.1,frzTs_noRf h.2]
theorem frzV_noRf {s:S} {v:At} (h:v.noRf=true):frzV s v.toV=s:=by
 cases v with
 | one x=>cases x with
  | c t=>exact frzT_noRf h
  | agg ts=>exact frzTs_noRf h
 | _=>rfl
theorem frzVs_noRf {s:S}:∀ {vs:List At},vs.all At.noRf=true->frzVs s (vs.map At.toV)=s
 | [],_=>rfl
 | v::vs,h=>by
  simp only [List.all_cons,Bool.and_eq_true] at h
  simp only [List.map_cons,frzVs]
  rw [frzV_noRf h.1,frzVs_noRf h.2]
theorem okP_ev {s:St} {H:FH} {F:Nm->Fp} (hX:RX g s.toS a w H γ F) {x:Operand} (hc:okOp x=true) :
  (∀ p,evA s x=.one (.c (.rf p))->okP (toM s.m) p)/\(∀ p,evA s x=.one (.c (.pl p))->okP (toM s.m) p):=by
 have h:=ev_ok hX hc
 rw [evA_toV hc] at h
 refine ⟨fun p e=>?_,fun p e=>?_⟩
 ·rw [e] at h
  obtain ⟨_,h1,_⟩:=h
  exact okP_rf h1
 ·rw [e] at h
  obtain ⟨_,h1,_⟩:=h
  exact okP_pl h1
theorem gift_mono {gd:Option (Nat×Bool)} {n:Nat} {q q':Prop} (hq:q->q') (h:gift gd n q):gift gd n q':=by
 cases gd with
 | none=>exact fun hh=>hq (h hh)
 | some _=>exact hq h
theorem lenT_mono {gd:Option (Nat×Bool)} {m:List (Nm×Nat×Rt)} {x:At} {k k':Nat->Prop} (hk:∀ n,k n->k' n) (h:lenT gd m x k):lenT gd m x k':=by
 unfold lenT at h ⊢
 split at h
 ·exact gift_mono (hk _) h
 ·exact gift_mono (hk _) h
 ·exact hk _ h
 ·split at h
  ·exact gift_mono (hk _) h
  ·exact h.elim
 ·exact h.elim
theorem isStr_toV (x:At):isStrAV x.toV=isStrA x:=by
 cases x with
 | one x=>cases x with
  | c t=>cases t with
   | d c=>cases c <;> rfl
   | _=>rfl
  | agg ts=>rfl
 | _=>rfl
theorem qT_ok {e:En} {o:Oper} {s:St} {k:At->Prop} {H:FH} {F:Nm->Fp} (hX:RX g s.toS a w H γ F) (hc:opC g.nt o=true) (h:qT e o s k):qK e.P o s.toS (up k):=by
 unfold opC at hc
 rw [Bool.and_eq_true] at hc
 obtain ⟨_,hc⟩:=hc
 unfold qT at h
 unfold qK
 cases ho:o.op with
 | move x=>rw [ho] at h hc; exact ⟨_,evA_toV hc,h⟩
 | assign x=>rw [ho] at h hc; exact ⟨_,evA_toV hc,h⟩
 | pick c x y=>
  rw [ho] at h hc
  simp only [Bool.and_eq_true] at hc
  dsimp only
  rw [evA_toV hc.1.1,evA_toV hc.1.2,evA_toV hc.2]
  exact pickT_ok h
 | binOp op t x y z=>
  rw [ho] at h hc
  simp only [Bool.and_eq_true] at hc
  dsimp only
  rw [evA_toV hc.1,evA_toV hc.2]
  exact binT_ok h
 | unOp op t x=>rw [ho] at h hc; dsimp only at hc ⊢; rw [evA_toV hc]; exact unT_ok h
 | load t x=>rw [ho] at h hc; dsimp only at hc ⊢; rw [evA_toV hc]; exact loadT_ok (okP_ev hX hc).2 h
 | field t x i=>rw [ho] at h hc; dsimp only at hc ⊢; rw [evA_toV hc]; exact fieldT_ok h
 | fieldAddr t x i=>rw [ho] at h hc; dsimp only at hc ⊢; rw [evA_toV hc]; exact fieldAddrT_ok h
 | indexAddr t x i=>
  rw [ho] at h hc
  simp only [Bool.and_eq_true] at hc
  dsimp only
  rw [evA_toV hc.1,evA_toV hc.2]
  exact indexAddrT_ok (okP_ev hX hc.1).1 h
 | index t x i=>
  rw [ho] at h hc
  simp only [Bool.and_eq_true] at hc
  dsimp only at h ⊢
  split at h
  ·rename_i ht
   rw [evA_toV hc.1,evA_toV hc.2]
   exact ⟨ht,strAtT_ok h⟩
  ·exact h.elim
 | extract x i=>rw [ho] at h hc; dsimp only at hc ⊢; rw [evA_toV hc]; exact extractT_ok h
 | convert su du x=>rw [ho] at h hc; dsimp only at hc ⊢; rw [evA_toV hc]; exact convT_ok h
 | slice t x lo hi mx=>
  rw [ho] at h hc
  cases mx with
  | some _=>exact h.elim
  | none=>
   dsimp only at h hc ⊢
   simp only [Bool.and_eq_true] at hc
   have opt:∀ (y:Option Operand),y.all okOp=true->y.map (ev s.toS)=(y.map (evA s)).map At.toV:=by
    intro y hy
    cases y with
    | none=>rfl
    | some y=>simp only [Option.map_some]; rw [evA_toV (by simpa using hy)]
   rw [evA_toV hc.1.1,opt lo hc.1.2,opt hi hc.2]
   exact sliceT_ok h
 | nilCheck x=>rw [ho] at h hc; dsimp only at hc ⊢; rw [evA_toV hc]; exact nilCheckT_ok h
 | build t ps=>rw [ho] at h hc; dsimp only at hc ⊢; rw [partsT_ok hc]; exact buildT_ok h
 | call c=>
  rw [ho] at h hc
  obtain ⟨callee,args,argTypes⟩:=c
  obtain ⟨args⟩:=args
  obtain ⟨argTypes⟩:=argTypes
  dsimp only at h hc ⊢
  cases callee with
  | builtin b=>
   cases b with
   | len=>
    match args,argTypes,h with
    | [x],[t],h=>
     have h1:okOp x=true:=by simpa using hc
     dsimp only at h ⊢
     split at h
     ·rename_i hl
      rw [evA_toV h1,isStr_toV]
      refine ⟨hl,?_⟩
      exact lenT_ok (okP_ev hX h1).1 (lenT_mono (fun n hn=>⟨_,rfl,hn⟩) h)
     ·exact h.elim
   | _=>exact h.elim
  | _=>exact h.elim
 | _=>rw [ho] at h; exact h.elim
end
end Go.Am
end

section
namespace Go.Am
theorem rowT_ok {u:U} {x x':El u} {off:Nat} {c:C} (h:rowT u x off c=some x'):(∃ d,(encU u x)[off]? = some d)/\encU u x'=(encU u x).set off c.toD:=by
 unfold rowT at h
 split at h
 ·rename_i c0 hc
  have e:=unflat_eq h
  refine ⟨⟨c0.toD,by rw [<- flat_enc,List.getElem?_map,hc]; rfl⟩,?_⟩
  rw [<- flat_enc,<- e,<- flat_enc,List.map_set]
 ·cases h
theorem setT1_ok:∀ {path:List Step} {sub:List Sh} {u:U} {l l':List (El u)} {t:Tt} {k:Prop} {K:List (List D)->Prop},okTP sub u l path k->setT1 sub u l t path=some l'->K (l'.map (encU u))->setIn sub (l.map (encU u)) t.toT path K
 | [],_,_,_,_,_,_,_,h,_,_=>h.elim
 | [st],sub,u,l,l',t,k,K,h,ht,hK=>by
  obtain ⟨h1,_⟩:=h
  simp only [setT1] at ht
  simp only [setIn]
  rw [get_enc l h1]
  dsimp only
  split at ht
  ·rename_i c hs
   split at ht
   ·rename_i x hx
    simp only [Option.some.injEq] at ht
    subst ht
    obtain ⟨⟨d,hd⟩,e⟩:=rowT_ok hx
    rw [hs,hd]
    dsimp only
    refine ⟨trivial,?_⟩
    rw [List.map_set,e] at hK
    exact hK
   ·cases ht
  ·rename_i hs
   split at ht
   ·rename_i u' l0 hf
    split at ht
    ·rename_i x hx
     simp only [Option.some.injEq] at ht
     subst ht
     obtain ⟨⟨d,hd⟩,e⟩:=rowT_ok hx
     rw [hs,hd]
     dsimp only
     refine ⟨trivial,?_⟩
     rw [List.map_set,e] at hK
     exact hK
    ·cases ht
   ·cases ht
  ·cases ht
 | st::st'::r,sub,u,l,l',t,k,K,h,ht,hK=>by
  simp only [setT1] at ht
  simp only [setIn]
  simp only [okTP] at h
  split at ht
  ·rename_i s u' l0 e1 e2
   rw [e1,e2] at h
   obtain ⟨h1,h4⟩:=h
   rw [get_enc l h1]
   dsimp only
   split at ht
   ·rename_i l2 hl2
    split at ht
    ·rename_i x hx
     simp only [Option.some.injEq] at ht
     subst ht
     obtain ⟨_,e⟩:=rowT_ok hx
     have e3:(encU u (l.getD st.idx (dflt u)))[st.off]? = some (.li (l0.map (encU u'))):=by
      rw [<- flat_enc,List.getElem?_map,e2]; rfl
     rw [e1,e3]
     dsimp only
     refine setT1_ok h4 hl2 ?_
     rw [List.map_set,e] at hK
     exact hK
    ·cases ht
   ·cases ht
  ·cases ht
mutual
theorem shpEq_eq:∀ {a b:Sh},shpEq a b=true->a=b
 | .fr,.fr,_=>rfl
 | .ow a,.ow b,h=>by simp only [shpEq] at h; rw [shpEqs_eq h]
 | .fr,.ow _,h=>by simp [shpEq] at h
 | .ow _,.fr,h=>by simp [shpEq] at h
theorem shpEqs_eq:∀ {a b:List Sh},shpEqs a b=true->a=b
 | [],[],_=>rfl
 | a::r,b::q,h=>by
  simp only [shpEqs,Bool.and_eq_true] at h
  rw [shpEq_eq h.1,shpEqs_eq h.2]
 | [],_::_,h=>by simp [shpEqs] at h
 | _::_,[],h=>by simp [shpEqs] at h
end
theorem fillH_ok:∀ {path:List Step} {sub:List Sh} {u:U} {l l':List (El u)} {sh:List Sh} {v:U} {lv:List (El v)} {k:Prop} {K:List (List D)->Prop},okTP sub u l path k->fillH sub u l sh v lv path=some l'->K (l'.map (encU u)) ->
  setIn sub (setO sub (l.map (encU u)) .any path) (.ow sh (lv.map (encU v))) path K
 | [],_,_,_,_,_,_,_,_,_,h,_,_=>h.elim
 | [st],sub,u,l,l',sh,v,lv,k,K,h,ht,hK=>by
  obtain ⟨h1,_⟩:=h
  have h1':st.idx < (l.map (encU u)).length:=by rw [List.length_map]; exact h1
  simp only [fillH] at ht
  split at ht
  ·rename_i s c hs hc
   split at ht
   ·rename_i x hsh hx
    simp only [Option.some.injEq] at ht
    subst ht
    obtain ⟨⟨d,hd⟩,e⟩:=rowT_ok hx
    have hlt:st.off < (encU u (l.getD st.idx (dflt u))).length:=lt_of_get hd
    have hset:setO sub (l.map (encU u)) .any [st]=(l.map (encU u)).set st.idx ((encU u (l.getD st.idx (dflt u))).set st.off .any):=by
     simp only [setO]; rw [getD_enc l h1]
    rw [hset]
    simp only [setIn]
    rw [List.getElem?_set_self h1']
    dsimp only
    rw [hs,List.getElem?_set_self hlt]
    dsimp only
    refine ⟨shpEqs_eq hsh,?_⟩
    rw [List.set_set,List.set_set]
    rw [List.map_set,e] at hK
    exact hK
   ·cases ht
  ·cases ht
 | st::st'::r,sub,u,l,l',sh,v,lv,k,K,h,ht,hK=>by
  simp only [fillH] at ht
  simp only [okTP] at h
  split at ht
  ·rename_i s u' l0 e1 e2
   rw [e1,e2] at h
   obtain ⟨h1,h4⟩:=h
   have h1':st.idx < (l.map (encU u)).length:=by rw [List.length_map]; exact h1
   split at ht
   ·rename_i l2 hl2
    split at ht
    ·rename_i x hx
     simp only [Option.some.injEq] at ht
     subst ht
     obtain ⟨_,e⟩:=rowT_ok hx
     have e3:(encU u (l.getD st.idx (dflt u)))[st.off]? = some (.li (l0.map (encU u'))):=by
      rw [<- flat_enc,List.getElem?_map,e2]; rfl
     have hlt:st.off < (encU u (l.getD st.idx (dflt u))).length:=lt_of_get e3
     have e4:(encU u (l.getD st.idx (dflt u))).getD st.off default=.li (l0.map (encU u')):=by rw [List.getD,e3]; rfl
     have hset:setO sub (l.map (encU u)) .any (st::st'::r)=(l.map (encU u)).set st.idx ((encU u (l.getD st.idx (dflt u))).set st.off (.li (setO s (l0.map (encU u')) .any (st'::r)))):=by
      simp only [setO]; rw [getD_enc l h1,e1,e4]
     rw [hset]
     simp only [setIn]
     rw [List.getElem?_set_self h1']
     dsimp only
     rw [e1,List.getElem?_set_self hlt]
     dsimp only
     refine fillH_ok h4 hl2 ?_
     rw [List.set_set,List.set_set]
     rw [List.map_set,e] at hK
     exact hK
    ·cases ht
   ·cases ht
  ·cases ht
theorem okTP_k:∀ {path:List Step} {sub:List Sh} {u:U} {l:List (El u)} {k:Prop},okTP sub u l path k->k
 | [],_,_,_,_,h=>h.elim
 | [st],_,_,_,_,h=>h.2
 | st::st'::r,sub,u,l,k,h=>by
  simp only [okTP] at h
  split at h
  ·exact okTP_k h.2
  ·exact h.elim
theorem okTP_mono:∀ {path:List Step} {sub:List Sh} {u:U} {l:List (El u)} {k k':Prop},(k->k')->okTP sub u l path k->okTP sub u l path k'
 | [],_,_,_,_,_,_,h=>h.elim
 | [st],_,_,_,_,_,hk,h=>⟨h.1,hk h.2⟩
 | st::st'::r,sub,u,l,k,k',hk,h=>by
  simp only [okTP] at h ⊢
  split at h
  ·exact ⟨h.1,okTP_mono hk h.2⟩
  ·exact h.elim
theorem eqPath_eq:∀ {a b:List Step} {k:Prop},eqPath a b k->a=b/\k
 | [],[],_,h=>⟨rfl,h⟩
 | x::r,y::q,k,h=>by
  simp only [eqPath] at h
  split at h
  ·rename_i hb
   rw [Bool.and_eq_true] at hb
   obtain ⟨e,hk⟩:=eqPath_eq h.2
   obtain ⟨a1,a2,a3⟩:=x; obtain ⟨b1,b2,b3⟩:=y
   have h1:a1=b1:=h.1
   have h2:a2=b2:=Nat.eq_of_beq_eq_true hb.1
   have h3:a3=b3:=Nat.eq_of_beq_eq_true hb.2
   subst h1; subst h2; subst h3; subst e
   exact ⟨rfl,hk⟩
  ·exact h.elim
 | [],_::_,_,h=>h.elim
 | _::_,[],_,h=>h.elim
theorem eqPath_mono:∀ {a b:List Step} {k k':Prop},(k->k')->eqPath a b k->eqPath a b k'
 | [],[],_,_,hk,h=>hk h
 | x::r,y::q,k,k',hk,h=>by
  simp only [eqPath] at h ⊢
  split at h
  ·exact ⟨h.1,eqPath_mono hk h.2⟩
  ·exact h.elim
 | [],_::_,_,_,_,h=>h.elim
 | _::_,[],_,_,_,h=>h.elim
theorem inT_look:∀ {path:List Step} {sub:List Sh} {u:U} {l:List (El u)} {sh:List Sh} {v:U} {lv:List (El v)},okO sub (l.map (encU u)) path->inT sub u l 1 path=some [.ow sh v lv]->lookO sub (l.map (encU u)) path=some (.ow sh,.li (lv.map (encU v)))
 | [],_,_,_,_,_,_,h,_=>h.elim
 | [st],sub,u,l,sh,v,lv,h,ht=>by
  obtain ⟨h1,h2,h3⟩:=h
  rw [List.length_map] at h1
  simp only [inT] at ht
  split at ht
  ·simp only [Option.some.injEq] at ht
   have e1:sub[st.off]? = some sub[st.off]:=List.getElem?_eq_getElem h3
   cases hc:(flat u (l.getD st.idx (dflt u)))[st.off]? with
   | none=>
    have:((flat u (l.getD st.idx (dflt u))).drop st.off).take 1=[]:=by
     rw [List.drop_eq_nil_of_le (List.getElem?_eq_none_iff.1 hc)]; rfl
    rw [this] at ht
    simp at ht
   | some c=>
    have hlt:=lt_of_get hc
    have ec:(flat u (l.getD st.idx (dflt u)))[st.off]=c:=by
     rw [List.getElem?_eq_getElem hlt] at hc; exact Option.some.inj hc
    have d1:(sub.drop st.off).take 1=[sub[st.off]]:=by rw [List.drop_eq_getElem_cons h3]; rfl
    have d2:((flat u (l.getD st.idx (dflt u))).drop st.off).take 1=[c]:=by rw [List.drop_eq_getElem_cons hlt,ec]; rfl
    rw [d1,d2] at ht
    simp only [List.zipWith_cons_cons,List.zipWith_nil_left,List.cons.injEq,and_true] at ht
    simp only [lookO,e1,Option.map_some,getD_enc l h1]
    have e3:(encU u (l.getD st.idx (dflt u))).getD st.off default=c.toD:=by
     rw [List.getD,<- flat_enc,List.getElem?_map,hc]; rfl
    rw [e3]
    generalize sub[st.off]=s0 at ht
    cases s0 with
    | fr=>cases ht
    | ow s1=>
     cases c with
     | li u1 l1=>
      simp only [Tt.ow.injEq] at ht
      obtain ⟨rfl,rfl,e⟩:=ht
      rw [eq_of_heq e]; rfl
     | _=>cases ht
  ·cases ht
 | st::st'::r,sub,u,l,sh,v,lv,h,ht=>by
  obtain ⟨⟨h1,h2,h3⟩,h4⟩:=h
  rw [List.length_map] at h1
  simp only [inT] at ht
  split at ht
  ·rename_i s u' l0 e1 e2
   have e3:(encU u (l.getD st.idx (dflt u))).getD st.off default=.li (l0.map (encU u')):=by
    rw [List.getD,<- flat_enc,List.getElem?_map,e2]; rfl
   rw [e1,getD_enc l h1,e3] at h4
   simp only [lookO]
   rw [e1,getD_enc l h1,e3]
   exact inT_look h4 ht
  ·cases ht
theorem holed_at {cells:List Tt} {off:Nat} {sub:List Sh} {u:U} {l:List (El u)} (st:Step) (q:List Step) (h:cells[off]? = some (.ow sub u l)) :
  holed (cells.map Tt.toT) (some (off,st,q))=(cells.map Tt.toT).set off (.ow sub (setO sub (l.map (encU u)) .any (st::q))):=by
 unfold holed
 dsimp only
 rw [List.getElem?_map,h]
 rfl
def overD (row:List D) (off:Nat):List D->List D
 | []=>row
 | d::r=>overD (row.set off d) (off+1) r
def setInL (sub:List Sh) (l:List (List D)):List T->List Step->(List (List D)->Prop)->Prop
 | [],_,K=>K l
 | t::ts,path,K=>setIn sub l t path fun l1=>setInL sub l1 ts (addLast path 1) K
theorem setIn_mono':∀ {path:List Step} {sub:List Sh} {l:List (List D)} {t:T} {K K':List (List D)->Prop},(∀ x,K x->K' x)->setIn sub l t path K->setIn sub l t path K'
 | [],_,_,_,_,_,_,h=>h.elim
 | [st],sub,l,t,K,K',hk,h=>by
  simp only [setIn] at h ⊢
  split at h
  ·split at h
   ·exact ⟨h.1,hk _ h.2⟩
   ·exact ⟨h.1,hk _ h.2⟩
   ·exact h.elim
  ·exact h.elim
 | st::st'::r,sub,l,t,K,K',hk,h=>by
  simp only [setIn] at h ⊢
  split at h
  ·split at h
   ·exact setIn_mono' (fun x hx=>hk _ hx) h
   ·exact h.elim
  ·exact h.elim
theorem setInL_mono:∀ {ts:List T} {path:List Step} {sub:List Sh} {l:List (List D)} {K K':List (List D)->Prop},(∀ x,K x->K' x)->setInL sub l ts path K->setInL sub l ts path K'
 | [],_,_,_,_,_,hk,h=>hk _ h
 | t::ts,path,sub,l,K,K',hk,h=>setIn_mono' (fun x hx=>setInL_mono hk hx) h
def isDT:T->Bool
 | .d _=>true
 | .nil=>true
 | _=>false
theorem setInL_one {sub:List Sh} {idx esz:Nat}:∀ {ts:List T} {l:List (List D)} {off:Nat} {row:List D} {K:List (List D)->Prop},l[idx]? = some row->ts.all isDT=true->frs sub off ts.length=true->off+ts.length<=row.length ->
  K (l.set idx (overD row off (ts.map T.toD)))->setInL sub l ts [⟨idx,esz,off⟩] K
 | [],l,off,row,K,hl,_,_,_,hK=>by
  have:l.set idx row=l:=by
   apply List.ext_getElem?
   intro n
   rw [List.getElem?_set]
   split
   ·rename_i e
    subst e
    have hlt:=lt_of_get hl
    rw [if_pos hlt]; exact hl.symm
   ·rfl
  simp only [List.map_nil,overD,this] at hK
  exact hK
 | t::ts,l,off,row,K,hl,hd,hf,hlen,hK=>by
  simp only [List.all_cons,Bool.and_eq_true] at hd
  simp only [List.length_cons] at hlen hf
  simp only [frs] at hf
  cases hs:sub[off]? with
  | none=>rw [hs] at hf; cases hf
  | some s=>
   rw [hs] at hf
   cases s with
   | ow _=>cases hf
   | fr=>
    dsimp only at hf
    have hoff:off<row.length:=by omega
    simp only [setInL,setIn]
    rw [hl]
    dsimp only
    rw [hs,List.getElem?_eq_getElem hoff]
    dsimp only
    refine ⟨by have h0:=hd.1; cases t <;> first | trivial | (simp [isDT] at h0),?_⟩
    have hlt:=lt_of_get hl
    show setInL sub _ ts [⟨idx,esz,off+1⟩] K
    refine setInL_one (row:=row.set off t.toD) (List.getElem?_set_self hlt) hd.2 hf (by rw [List.length_set]; omega) ?_
    rw [List.set_set]
    exact hK
theorem addLast_cons (st st':Step) (r:List Step) (n:Nat):addLast (st::st'::r) n=st::addLast (st'::r) n:=rfl
theorem setInL_down {sub s:List Sh} {st st':Step}:∀ {ts:List T} {r:List Step} {l l':List (List D)} {row:List D} {K:List (List D)->Prop},l[st.idx]? = some row->sub[st.off]? = some (.ow s)->row[st.off]? = some (.li l') ->
  setInL s l' ts (st'::r) (fun l''=>K (l.set st.idx (row.set st.off (.li l''))))->setInL sub l ts (st::st'::r) K
 | [],r,l,l',row,K,hl,hs,hc,h=>by
  have e1:row.set st.off (.li l')=row:=by
   apply List.ext_getElem?
   intro n
   rw [List.getElem?_set]
   split
   ·rename_i e; subst e; rw [if_pos (lt_of_get hc)]; exact hc.symm
   ·rfl
  have e2:l.set st.idx row=l:=by
   apply List.ext_getElem?
   intro n
   rw [List.getElem?_set]
   split
   ·rename_i e; subst e; rw [if_pos (lt_of_get hl)]; exact hl.symm
   ·rfl
  simp only [setInL,e1,e2] at h
  exact h
 | t::ts,r,l,l',row,K,hl,hs,hc,h=>by
  simp only [setInL,setIn] at h ⊢
  rw [hl]
  dsimp only
  rw [hs,hc]
  dsimp only
  refine setIn_mono' (fun l1 h1=>?_) h
  rw [addLast_cons]
  have hlt:=lt_of_get hl
  have hlt2:=lt_of_get hc
  obtain ⟨st2,r2,e⟩:∃ st2 r2,addLast (st'::r) 1=st2::r2:=by
   cases r with
   | nil=>exact ⟨_,_,rfl⟩
   | cons a b=>exact ⟨_,_,rfl⟩
  rw [e] at h1 ⊢
  refine setInL_down (row:=row.set st.off (.li l1)) (l':=l1) (List.getElem?_set_self hlt) hs (List.getElem?_set_self hlt2) ?_
  refine setInL_mono (fun l2 h2=>?_) h1
  rw [List.set_set,List.set_set]
  exact h2
theorem overC_ok:∀ {ts:List Tt} {cs cs':List C} {off:Nat},overC cs off ts=some cs'->cs'.map C.toD=overD (cs.map C.toD) off ((ts.map Tt.toT).map T.toD)/\(ts.map Tt.toT).all isDT=true/\(ts≠[]->off+ts.length<=cs.length)/\cs'.length=cs.length
 | [],cs,cs',off,h=>by
  simp only [overC,Option.some.injEq] at h
  subst h; exact ⟨rfl,rfl,fun h=>(h rfl).elim,rfl⟩
 | t::r,cs,cs',off,h=>by
  have step:∀ {c:C},(∃ c0,cs[off]? = some c0)->overC (cs.set off c) (off+1) r=some cs'->t.toT.toD=c.toD->isDT t.toT=true ->
    cs'.map C.toD=overD (cs.map C.toD) off (((t::r).map Tt.toT).map T.toD)/\((t::r).map Tt.toT).all isDT=true/\((t::r)≠[]->off+(t::r).length<=cs.length)/\cs'.length=cs.length:=by
   rintro c ⟨c0,hc0⟩ h2 h3 h4
   obtain ⟨k1,k2,k3,k4⟩:=overC_ok h2
   have hlt:=lt_of_get hc0
   refine ⟨?_,by simp only [List.map_cons,List.all_cons,h4,k2,Bool.and_self],fun _=>?_,by rw [k4,List.length_set]⟩
   ·rw [k1]
    simp only [List.map_cons,overD,h3,List.map_set]
   ·simp only [List.length_cons]
    by_cases hr:r=[]
    ·subst hr; simp only [List.length_nil]; omega
    ·have:=k3 hr; rw [List.length_set] at this; omega
  cases t with
  | d c=>
   simp only [overC] at h
   split at h
   ·cases h
   ·rename_i hc; exact step ⟨_,hc⟩ h rfl rfl
   ·cases h
  | nil=>
   simp only [overC] at h
   split at h
   ·rename_i u' l0 hc; exact step ⟨_,hc⟩ h rfl rfl
   ·cases h
  | _=>simp [overC] at h
theorem setTs_ok:∀ {path:List Step} {sub:List Sh} {u:U} {l l':List (El u)} {ts:List Tt} {k:Prop} {K:List (List D)->Prop},ts≠[]->okTP sub u l path k->setTs sub u l ts path=some l'->K (l'.map (encU u))->setInL sub (l.map (encU u)) (ts.map Tt.toT) path K
 | [],_,_,_,_,_,_,_,_,h,_,_=>h.elim
 | [st],sub,u,l,l',ts,k,K,hne,h,ht,hK=>by
  obtain ⟨h1,_⟩:=h
  simp only [setTs] at ht
  split at ht
  ·rename_i cs hf ho
   split at ht
   ·rename_i x hx
    simp only [Option.some.injEq] at ht
    subst ht
    obtain ⟨k1,k2,k3,k4⟩:=overC_ok ho
    have e:=unflat_eq hx
    obtain ⟨idx,esz,off⟩:=st
    refine setInL_one (get_enc l h1) k2 (by rw [List.length_map]; exact hf) ?_ ?_
    ·rw [List.length_map,<- flat_enc,List.length_map]; exact k3 hne
    ·rw [List.map_set] at hK
     have e2:encU u x=overD (encU u (l.getD idx (dflt u))) off ((ts.map Tt.toT).map T.toD):=by
      rw [<- flat_enc,<- e,k1,flat_enc]
     rw [e2] at hK
     exact hK
   ·cases ht
  ·cases ht
 | st::st'::r,sub,u,l,l',ts,k,K,hne,h,ht,hK=>by
  simp only [setTs] at ht
  simp only [okTP] at h
  split at ht
  ·rename_i s u' l0 e1 e2
   rw [e1,e2] at h
   obtain ⟨h1,h4⟩:=h
   split at ht
   ·rename_i l2 hl2
    split at ht
    ·rename_i x hx
     simp only [Option.some.injEq] at ht
     subst ht
     obtain ⟨_,e⟩:=rowT_ok hx
     have e3:(encU u (l.getD st.idx (dflt u)))[st.off]? = some (.li (l0.map (encU u'))):=by
      rw [<- flat_enc,List.getElem?_map,e2]; rfl
     refine setInL_down (get_enc l h1) e1 e3 (setTs_ok hne h4 hl2 ?_)
     rw [List.map_set,e] at hK
     exact hK
    ·cases ht
   ·cases ht
  ·cases ht
theorem setR_setR:∀ {m:Mm} {n:Nm} {r r':Root},setR (setR m n r) n r'=setR m n r'
 | [],_,_,_=>rfl
 | (k,x)::m,n,r,r'=>by
  simp only [setR]
  by_cases h:k=n
  ·rw [if_pos h,if_pos h]; simp only [setR,if_pos h]
  ·rw [if_neg h,if_neg h]; simp only [setR,if_neg h,setR_setR]
theorem setR_self:∀ {m:Mm} {n:Nm} {r:Root},getR m n=some r->setR m n r=m
 | [],_,_,h=>by simp [getR] at h
 | (k,x)::m,n,r,h=>by
  simp only [getR] at h
  simp only [setR]
  by_cases hk:k=n
  ·rw [if_pos hk] at h ⊢
   rw [Option.some.inj h]
  ·rw [if_neg hk] at h ⊢
   rw [setR_self h]
theorem storesK_row {K:S->Prop}:∀ {ts:List T} {s:S} {p:Pl} {r:Root} {sub:List Sh} {l:List (List D)} {st:Step} {q:List Step},getR s.m p.root=some r->p.path=st::q->r.cells[p.off]? = some (.ow sub l)->ts.all isDT=true->(∀ t∈ts,t≠.d .any) ->
  setInL sub l ts (st::q) (fun l'=>K ⟨s.t,setR s.m p.root { r with cells:=r.cells.set p.off (.ow sub l') }⟩)->storesK s p ts K
 | [],s,p,r,sub,l,st,q,hr,hp,hc,_,_,h=>by
  have e1:r.cells.set p.off (.ow sub l)=r.cells:=by
   apply List.ext_getElem?
   intro n
   rw [List.getElem?_set]
   split
   ·rename_i e; subst e; rw [if_pos (lt_of_get hc)]; exact hc.symm
   ·rfl
  simp only [setInL,e1] at h
  have:setR s.m p.root r=s.m:=setR_self hr
  rw [show ({ blk:=r.blk,cells:=r.cells }:Root)=r from rfl,this] at h
  exact h
 | t::ts,s,p,r,sub,l,st,q,hr,hp,hc,hd,hn,h=>by
  simp only [List.all_cons,Bool.and_eq_true] at hd
  have key:storesK s p (t::ts) K=putK s.m p t fun m'=>storesK ⟨s.t,m'⟩ (p.add 1) ts K:=by
   cases t with
   | d c=>cases c with
    | any=>exact ((hn _ (by simp)) rfl).elim
    | _=>rfl
   | nil=>rfl
   | _=>have:=hd.1; simp [isDT] at this
  rw [key]
  unfold putK
  rw [hr]
  dsimp only
  rw [hp,hc]
  dsimp only
  simp only [setInL] at h
  refine setIn_mono' (fun l1 h1=>?_) h
  have hlt:=lt_of_get hc
  have ep:(p.add 1).root=p.root/\(p.add 1).off=p.off/\(p.add 1).path=addLast (st::q) 1:=by
   obtain ⟨pr,po,pp⟩:=p
   dsimp only at hp
   subst hp
   exact ⟨rfl,rfl,rfl⟩
  obtain ⟨st2,q2,e⟩:∃ st2 r2,addLast (st::q) 1=st2::r2:=by
   cases q with
   | nil=>exact ⟨_,_,rfl⟩
   | cons a b=>exact ⟨_,_,rfl⟩
  rw [e] at h1
  refine storesK_row (s:=⟨s.t,setR s.m p.root { r with cells:=r.cells.set p.off (.ow sub l1) }⟩) (p:=p.add 1) (r:={ r with cells:=r.cells.set p.off (.ow sub l1) }) (sub:=sub) (l:=l1) (st:=st2) (q:=q2) ?_ (ep.2.2.trans e) ?_ hd.2 (fun t ht=>hn t (by simp [ht])) ?_
  ·rw [ep.1]
   show getR (setR s.m p.root _) p.root=_
   rw [getR_setR hr,if_pos rfl]
  ·rw [ep.2.1]
   exact List.getElem?_set_self hlt
  ·refine setInL_mono (fun l2 h2=>?_) h1
   rw [ep.1,ep.2.1]
   dsimp only
   rw [setR_setR,List.set_set]
   exact h2
theorem overC_any:∀ {ts:List Tt} {cs cs':List C} {off:Nat},overC cs off ts=some cs'->∀ t∈ts.map Tt.toT,t≠.d .any
 | [],_,_,_,_,t,ht=>by simp at ht
 | t::r,cs,cs',off,h,x,hx=>by
  cases t with
  | d c=>
   have hne:c≠.any:=by rintro rfl; simp [overC] at h
   have h':∃ cs0 o,overC cs0 o r=some cs':=by
    simp only [overC] at h
    split at h
    ·cases h
    ·exact ⟨_,_,h⟩
    ·cases h
   obtain ⟨cs0,o,h'⟩:=h'
   rcases List.mem_cons.1 hx with rfl | hx
   ·intro e
    simp only [Tt.toT,T.d.injEq] at e
    cases c <;> first | exact hne rfl | (simp [C.toD] at e)
   ·exact overC_any h' x hx
  | nil=>
   simp only [overC] at h
   split at h
   ·rcases List.mem_cons.1 hx with rfl | hx
    ·intro e; cases e
    ·exact overC_any h x hx
   ·cases h
  | _=>simp [overC] at h
theorem setTs_any:∀ {path:List Step} {sub:List Sh} {u:U} {l l':List (El u)} {ts:List Tt},setTs sub u l ts path=some l'->(∀ t∈ts.map Tt.toT,t≠.d .any)/\(ts.map Tt.toT).all isDT=true
 | [],_,_,_,_,_,h=>by simp [setTs] at h
 | [st],_,_,_,_,_,h=>by
  simp only [setTs] at h
  split at h
  ·rename_i ho; exact ⟨overC_any ho,(overC_ok ho).2.1⟩
  ·cases h
 | st::st'::r,_,_,_,_,_,h=>by
  simp only [setTs] at h
  split at h
  ·split at h
   ·rename_i hl; exact setTs_any hl
   ·cases h
  ·cases h
end Go.Am
end

section
namespace Go.Am
def appendK2 (P:Program) (s:S) (t u:TypeId) (x y:Operand) (d:Tmp) (k:S->Prop):Prop:=
 match (ty P t).k with
 | .sl e=>(ty P e).ok=true/\(ty P u).k.isSS=true/\((zcells P e).map (·.length))=some (ty P e).size /\
  match baseK s (ty P e).size (ev s y) with
  | some (s1,sub1,ys)=>match baseK s1 (ty P e).size (ev s1 x) with
   | some (s2,sub,l)=>sub1=sub/\okRows sub1.length ys/\l.length+ys.length<=4611686018427387904/\(l.length+ys.length)*(ty P e).bytes<=140737488355328 /\
    k (((s2.fresh (.gh d)).root (.gh d) ⟨false,[.ow sub (l++ys)]⟩).put (some d) (.one (.c (.rf ⟨.gh d,0,[]⟩))))
   | none=>False
  | none=>False
 | _=>False
section
variable {P:Program} {g:G} {s:S} {a:Act} {w:World} {H:FH} {γ:Gam} {F:Nm->Fp}
theorem OD_one {k:Nat} {sh:Sh} {x:D} {f:Fp} {y:Value} (hs:x.sure=true) (h:OD w H k sh x f y):oneC y=true:=by
 cases sh with
 | fr=>exact FDx_one hs (OD_fr.1 h).2
 | ow sub=>
  cases k with
  | zero=>cases x <;> first | (simp [OD] at h; done) | (simp [D.sure] at hs)
  | succ k=>
   cases x with
   | li l=>
    obtain ⟨a,c,_,_,rfl,_⟩:=OD_cells h
    rfl
   | any=>simp [D.sure] at hs
   | _=>simp [OD] at h
theorem Cs_one {k:Nat}:∀ {ss:List Sh} {xs:List D} {f:Fp} {vs:List Value},vs.length=xs.length->(∀ x∈xs,x.sure=true)->Cs (OD w H k) ss xs f vs->∀ u∈vs,oneC u=true
 | [],[],_,vs,hl,_,_=>by
  have:vs=[]:=by simpa using hl
  subst this; simp
 | s::ss,x::xs,f,vs,hl,hx,h=>by
  obtain ⟨v,r,f1,f2,rfl,_,h1,h2⟩:=h
  intro u hu
  rcases List.mem_cons.1 hu with rfl | hu
  ·exact OD_one (hx x (by simp)) h1
  ·exact Cs_one (by simpa using hl) (fun y hy=>hx y (by simp [hy])) h2 u hu
 | [],_::_,_,_,_,_,h=>h.elim
 | _::_,[],_,_,_,_,h=>h.elim
theorem src_own {k:Nat} {sub:List Sh} {ys:List (List D)} {f:Fp} {v:Value} (h:OD w H k (.ow sub) (.li ys) f v) (hok:okRows sub.length ys) :
  ∃ (kx:Nat) (gx:Fp) (ws:List Value),Src P w sub.length v ys.length ws/\Cs (OD w H kx) (List.replicate ys.length sub).flatten ys.flatten gx ws/\(∀ u∈ws,oneC u=true)/\∀ b,gx b<=f b:=by
 cases k with
 | zero=>simp [OD] at h
 | succ k=>
  obtain ⟨ad,c,gg,vs,rfl,hlc,hlb,hlen,hvs,hcs,hwhere⟩:=OD_cells h
  refine ⟨k,gg,vs,?_,hcs,?_,?_⟩
  ·rcases hwhere with ⟨rfl,rfl,rfl,_⟩ | ⟨b,cs,ty,fz,rfl,hb,hfz,hcsz,rfl,hf⟩
   ·have:vs=[]:=by simpa using hvs
    subst this
    exact Src_zero
   ·refine Src_slice hvs (fun j u hj=>?_)
    have hjl:=lt_of_get hj
    rw [List.length_take] at hjl
    rw [List.getElem?_take_of_lt (by omega)] at hj
    simp only [World.cell?,hb,Option.isSome_none,Bool.false_eq_true,if_false,Nat.zero_add]
    simpa using hj
  ·refine Cs_one (by rw [hvs,flatten_len _ _ hlen]) (fun x hx=>?_) hcs
   rw [List.mem_flatten] at hx
   obtain ⟨y,hy,hxy⟩:=hx
   exact (hok y hy).2 x hxy
  ·intro b
   rcases hwhere with ⟨rfl,rfl,rfl,hf0⟩ | ⟨b',cs,ty,fz,rfl,hb,hfz,hcsz,rfl,hf⟩
   ·have hv0:vs=[]:=by simpa using hvs
    have:∀ b,gg b=0:=by simpa [Cs] using hcs
    rw [this b]; exact Nat.zero_le _
   ·rw [hf]; omega
theorem base_ok2 (h:RX g s a w H γ F) {size:Nat} {x:AV} {v:Value} {s1:S} {sub:List Sh} {l:List (List D)} (hx:AR w H γ s.m x v) (hb:baseK s size x=some (s1,sub,l)) :
  ∃ k f F1,OD w H k (.ow sub) (.li l) f v/\RX g s1 a w H γ F1/\sub.length=size/\(∀ b,tot F1 s1.m b+f b=tot F s.m b)/\(∀ b,f b≠0->b<w.heap.size/\(∀ o,H b o=none)/\(g.own0 b≠0\/g.w0.heap.size<=b)):=by
 match x,hb with
 | .one (.c .nil),hb=>
  simp only [baseK,Option.some.injEq,Prod.mk.injEq] at hb
  obtain ⟨rfl,rfl,rfl⟩:=hb
  obtain ⟨_,rfl⟩:=hx
  refine ⟨1,fun _=>0,F,?_,h,by simp,fun b=>rfl,fun b hb=>absurd rfl hb⟩
  rw [OD_ow]; exact .inl ⟨rfl,rfl,fun _=>rfl⟩
 | .one (.c (.rf q)),hb=>
  simp only [baseK] at hb
  cases hg:getPl s.m q with
  | none=>rw [hg] at hb; simp at hb
  | some t=>
   rw [hg] at hb
   cases t with
   | ow sub' l'=>
    dsimp only at hb
    split at hb
    ·rename_i hsz
     simp only [Option.some.injEq,Prod.mk.injEq] at hb
     obtain ⟨rfl,rfl,rfl⟩:=hb
     obtain ⟨_,hok,hv⟩:=hx
     obtain ⟨v',f,F',e1,⟨k,e2⟩,e3,e4⟩:=RX_takeP h (okPl_of_rf hok) hg
     rw [hv] at e1
     obtain rfl:v=v':=by simpa using e1
     exact ⟨k,f,F',e2,e3,hsz,e4,fun b hb=>by
      have hne:tot F s.m b≠0:=by have:=e4 b; omega
      exact ⟨h.mem.lt b hne,h.mem.nofz b hne,h.fr.tt b hne⟩⟩
    ·simp at hb
   | _=>simp at hb
theorem appendK2_ok (h:RX g s a w H γ F) {t u tt:TypeId} {x y:Operand} {d:Tmp} {k:S->Prop} (hd:okD g.nt (some d)=true) (hx:okOp x=true) (hy:okOp y=true) (hK:appendK2 P s t u x y d k) :
  ∃ s' z w' H' γ' F',(Builtin.append_ #[t,u] tt #[a.eval x,a.eval y]).run P w=.ok z w'/\k s'/\RX g s' (a.put (some d) z) w' H' γ' F':=by
 unfold appendK2 at hK
 cases hk:(ty P t).k with
 | sl e=>
  rw [hk] at hK
  obtain ⟨hok,hss,hzl,hK⟩:=hK
  obtain ⟨_,td,hit,hud,htk,_⟩:=ty_und hk (by simp)
  have:=tk_sl htk
  subst this
  obtain ⟨ie,de,hie,_,_,hsize,hbytes,_⟩:=ty_ok hok
  rw [hsize,hbytes] at hK
  rw [hsize] at hzl
  obtain ⟨zs,hzs,hzl⟩:=Option.map_eq_some_iff.1 hzl
  obtain ⟨it',z,hi',hz,hzc,_⟩:=zcells_ok hzs
  rw [hie] at hi'
  obtain rfl:ie=it':=by simpa using hi'
  have hzsz:z.cells.size=ie.size:=by rw [<- hzl,<- hzc]; simp
  obtain ⟨ud,huu,hudd⟩:∃ ud,P.underlying u=some ud/\isSS ud=true:=by
   have hne:(ty P u).k≠.ot:=fun e=>by rw [e] at hss; simp [TK.isSS] at hss
   obtain ⟨_,ud,_,h2,h3,_⟩:=ty_und rfl hne
   refine ⟨ud,h2,?_⟩
   rw [<- h3] at hss
   cases ud <;> first | rfl | (simp [tkOf,TK.isSS] at hss)
  cases hsr:baseK s ie.size (ev s y) with
  | none=>rw [hsr] at hK; exact hK.elim
  | some q1=>
   obtain ⟨s1,sub1,ys⟩:=q1
   rw [hsr] at hK
   dsimp only at hK
   obtain ⟨k1,f1,F1,d1,h1,d3,d4,d5⟩:=base_ok2 h (ev_ok h hy) hsr
   cases hbs:baseK s1 ie.size (ev s1 x) with
   | none=>rw [hbs] at hK; exact hK.elim
   | some q=>
    obtain ⟨s2,sub,l⟩:=q
    rw [hbs] at hK
    obtain ⟨hsub,hrows,hb62,hby,hK⟩:=hK
    subst hsub
    obtain ⟨kb,f,F2,b1,b2,b3,b4',b5⟩:=base_ok2 h1 (ev_ok h1 hx) hbs
    have b4:∀ b,tot F2 s2.m b+f b+f1 b<=1:=fun b=>by have:=b4' b; have:=d4 b; have:=h.mem.le1 b; omega
    obtain ⟨kx,gx,ws,r1,r2,r3,r4⟩:=src_own (P:=P) d1 hrows
    rw [d3] at r1
    obtain ⟨z',w',f',c1,⟨k',c2⟩,c3,c4,c5,c6,c7,c8,c9⟩:=run_append (tt:=tt) hud huu hudd hie hz hzsz (gx:=gx) (kx:=kx) b3 b1 r1 (fun y hy=>(hrows y hy).1)
     r2 r3 (fun b=>by have:=b4 b; have:=r4 b; omega) (fun b hb=>by rcases hb with hb | hb; exact (b5 b hb).1; exact (d5 b (by have:=r4 b; omega)).1) hb62 hby
    have hX:=RX_frame b2 c3 c4 c5 c6 (fun b hb=>by
     rcases c7 b hb with h3 | h3
     ·exact .inl h3
     ·exact .inr ⟨by have:=b4 b; omega,(b5 b h3.1).2.1,(b5 b h3.1).2.2,h3.2⟩)
    have hX2:=RX_fresh hX (.gh d)
    have hn:=getR_fresh hX (.gh d)
    have hHnew:∀ b,w.heap.size<=b->∀ o,H b o=none:=by
     intro b hb o
     cases hc:H b o with
     | none=>rfl
     | some y=>have:=World.block_lt_of_cell? _ _ (h1.mem.agree _ _ _ hc); simp at this; omega
    have hts:∀ b,tot F2 (s2.fresh (.gh d)).m b<=tot F2 s2.m b:=by
     intro b
     unfold S.fresh
     split
     ·exact Nat.le_refl _
     ·show tot F2 (killM _ _) b<=_
      rw [tot_killM]; exact tot_delR
    have htz:tot F2 s2.m w.heap.size=0:=by
     rcases Nat.eq_zero_or_pos (tot F2 s2.m w.heap.size) with h' | h'
     ·exact h'
     ·have:=b2.mem.lt w.heap.size (by omega); omega
    have own:∀ b,f' b≠0->b≠w.heap.size->b<w.heap.size/\(∀ o,H b o=none)/\(g.own0 b≠0\/g.w0.heap.size<=b):=by
     intro b hb hb2
     have h5:=c8 b
     have h6:=r4 b
     rw [if_neg hb2] at h5
     by_cases hf:f b=0
     ·exact d5 b (by omega)
     ·exact b5 b hf
    obtain ⟨γ',F',hX3,hγ⟩:=RX_ghost hX2 (n:=.gh d) rfl hn (v:=z') (t:=.ow sub1 (l++ys)) (f:=f') ⟨k',c2⟩ (fun b=>by
      have h3:=hts b; have h4:=b4 b; have h5:=c8 b; have h6:=r4 b
      by_cases hb:b=w.heap.size
      ·subst hb
       have e1:f w.heap.size=0:=by
        rcases Nat.eq_zero_or_pos (f w.heap.size) with h' | h'
        ·exact h'
        ·have:=(b5 w.heap.size (by omega)).1; omega
       have e2:f1 w.heap.size=0:=by
        rcases Nat.eq_zero_or_pos (f1 w.heap.size) with h' | h'
        ·exact h'
        ·have:=(d5 w.heap.size (by omega)).1; omega
       rw [if_pos rfl] at h5; omega
      ·rw [if_neg hb] at h5; omega)
     (fun b hb=>⟨c9 b hb,by
      by_cases hb2:b=w.heap.size
      ·subst hb2; exact hHnew _ (Nat.le_refl _)
      ·exact (own b hb hb2).2.1⟩)
     (fun b hb=>by
      by_cases hb2:b=w.heap.size
      ·right; have:=b2.fr.size; omega
      ·exact (own b hb hb2).2.2)
    refine ⟨_,z',w',H,γ',F',c1,hK,RX.put hX3 hd (AR_ghost (sub:=sub1) (l:=l++ys) ?_ hγ)⟩
    simp [getR]
 | _=>rw [hk] at hK; exact hK.elim
end
end Go.Am
end

section
namespace Go.Am
def fzS:List Sh->List T->Option (List D)
 | [],[]=>some []
 | .fr::ss,t::ts=>match fzS ss ts with
  | some r=>some (t.fz::r)
  | none=>none
 | .ow _::ss,.nil::ts=>match fzS ss ts with
  | some r=>some (.li []::r)
  | none=>none
 | _,_=>none
section
variable {P:Program} {g:G} {s:S} {a:Act} {w:World} {H:FH} {γ:Gam} {F:Nm->Fp}
theorem Cs_fzS {k:Nat} {m:Mm}:∀ {ss:List Sh} {ts:List T} {xs:List D} {f:Fp} {vs:List Value},(∀ b,f b=0)->fzS ss ts=some xs->Ts (TR w H γ m) ts f vs ->
  Cs (OD w H (k+1)) ss xs f vs
 | [],[],xs,_,_,hf,hz,_=>by
  simp only [fzS,Option.some.injEq] at hz; subst hz; exact hf
 | .fr::ss,t::ts,xs,f,vs,hf,hz,h=>by
  simp only [fzS] at hz
  cases h5:fzS ss ts with
  | none=>rw [h5] at hz; cases hz
  | some r0=>
   rw [h5] at hz
   simp only [Option.some.injEq] at hz
   subst hz
   obtain ⟨v,r,f1,f2,h1,h2,h3,h4⟩:=h
   refine ⟨v,r,f1,f2,h1,h2,?_,Cs_fzS (fun b=>by have:=hf b; have:=h2 b; omega) h5 h4⟩
   rw [OD_fr]
   refine ⟨fun b=>by have:=hf b; have:=h2 b; omega,?_⟩
   cases t with
   | d x=>exact h3.2
   | nil=>obtain ⟨_,rfl⟩:=h3; exact FDx_nil
   | _=>exact ⟨0,trivial⟩
 | .ow sub::ss,.nil::ts,xs,f,vs,hf,hz,h=>by
  simp only [fzS] at hz
  cases h5:fzS ss ts with
  | none=>rw [h5] at hz; cases hz
  | some r0=>
   rw [h5] at hz
   simp only [Option.some.injEq] at hz
   subst hz
   obtain ⟨v,r,f1,f2,h1,h2,h3,h4⟩:=h
   refine ⟨v,r,f1,f2,h1,h2,?_,Cs_fzS (fun b=>by have:=hf b; have:=h2 b; omega) h5 h4⟩
   obtain ⟨_,rfl⟩:=h3
   rw [OD_ow]
   exact .inl ⟨rfl,rfl,fun b=>by have:=hf b; have:=h2 b; omega⟩
 | [],_::_,_,_,_,_,hz,_=>by simp [fzS] at hz
 | .fr::_,[],_,_,_,_,hz,_=>by simp [fzS] at hz
 | .ow _::_,[],_,_,_,_,hz,_=>by simp [fzS] at hz
 | .ow _::_,.d _::_,_,_,_,_,hz,_=>by simp [fzS] at hz
 | .ow _::_,.ow _ _::_,_,_,_,_,hz,_=>by simp [fzS] at hz
 | .ow _::_,.el _ _::_,_,_,_,_,hz,_=>by simp [fzS] at hz
 | .ow _::_,.pl _::_,_,_,_,_,hz,_=>by simp [fzS] at hz
 | .ow _::_,.rf _::_,_,_,_,_,hz,_=>by simp [fzS] at hz
 | .ow _::_,.any::_,_,_,_,_,hz,_=>by simp [fzS] at hz
theorem RX_newrow2 (h:RX g s a w H γ F) {n:Nm} (hno:n.isOut=false) (hn:getR s.m n=none) {cs:Array Value} {ty':TypeId} {len cap:Nat} {sub:List Sh} {l:List (List D)} (hl:l.length=len) (hle:len<=cap) (hbig:len<=BIG)
  (hx:∀ x∈l,x.length=sub.length) (hsz:cs.size=cap*sub.length) (hcs:∀ k,Cs (OD w H (k+1)) (List.replicate len sub).flatten l.flatten (fun _=>0) cs.toList) :
  ∃ γ' F',RX g (s.root n ⟨false,[.ow sub l]⟩) a (w.alloc (.cells cs ty')) H γ' F'/\γ' n=.gh (.slice (some ⟨w.heap.size,0,none⟩) len cap):=by
 obtain ⟨hm,hf,hK,hH⟩:=Mem_alloc h.mem cs ty' false
 simp only [Bool.false_eq_true,false_and,if_false] at hm hf hK hH
 have hX:RX g s a (w.alloc (.cells cs ty')) H γ F:=RX_step h hm hf (fun i=>AR_keeps hK (fun _ _ _ h=>h) (h.t i)) (fun _=>rfl)
 have hz:tot F s.m w.heap.size=0:=by
  rcases Nat.eq_zero_or_pos (tot F s.m w.heap.size) with h' | h'
  ·exact h'
  ·have:=h.mem.lt w.heap.size (by omega); omega
 have hHz:∀ o,H w.heap.size o=none:=by
  intro o
  cases hc:H w.heap.size o with
  | none=>rfl
  | some y=>have:=World.block_lt_of_cell? _ _ (h.mem.agree _ _ _ hc); simp at this
 have hcs':∀ k,Cs (OD (w.alloc (.cells cs ty')) H (k+1)) (List.replicate len sub).flatten l.flatten (fun _=>0) cs.toList:=by
  intro k
  refine Cs_mono _ _ _ _ (fun s x g v hg hod=>?_) (hcs k)
  exact OD_frame (fun _ _ _ h=>h) (k+1) (k+1) _ _ _ _ (Nat.le_refl _) (fun b hb=>absurd (Nat.le_zero.1 (hg b)) hb) hod
 subst hl
 have hod:TR (w.alloc (.cells cs ty')) H γ s.m (.ow sub l) (fun b=>0+if b=w.heap.size then 1 else 0) (.slice (some ⟨w.heap.size,0,none⟩) l.length cap):=
  ⟨2,OD_new (heap_alloc_new') rfl hsz hle hbig hx (hcs' 0)⟩
 exact RX_ghost hX hno hn hod (fun b=>by
   by_cases hb:b=w.heap.size
   ·subst hb; rw [hz]; simp
   ·rw [if_neg hb]; have:=h.mem.le1 b; omega)
  (fun b hb=>by
   have hb':b=w.heap.size:=by
    by_cases hb':b=w.heap.size
    ·exact hb'
    ·rw [if_neg hb'] at hb; simp at hb
   subst hb'
   exact ⟨by simp,hHz⟩)
  (fun b hb=>by
   have hb':b=w.heap.size:=by
    by_cases hb':b=w.heap.size
    ·exact hb'
    ·rw [if_neg hb'] at hb; simp at hb
   right; have:=h.fr.size; omega)
def buildSliceK2 (P:Program) (s0:S) (t:TypeId) (len:Nat) (sub:List Sh) (ps:Array (Nat×Operand)) (d:Tmp) (k:S->Prop):Prop:=
 match (ty P t).k with
 | .sl e=>(ty P e).ok=true/\(zcells P e).isSome=true/\len*(ty P e).size<=16777216/\len<=16777216/\sub.length=(ty P e).size /\
  let s:=(frzVs s0 (ps.toList.map fun x=>ev s0 x.2)).fresh (.gh d)
  match fillT (fun i=>some (i*(ty P e).size,(ty P e).size)) (List.replicate (len*(ty P e).size) .any) (partsK s ps) with
  | some ts=>match fzS (List.replicate len sub).flatten ts with
   | some xs=>k ((s.root (.gh d) ⟨false,[.ow sub (chunk (ty P e).size len xs)]⟩).put (some d) (.one (.c (.rf ⟨.gh d,0,[]⟩))))
   | none=>False
  | none=>False
 | _=>False
theorem buildSliceK2_ok (h:RX g s a w H γ F) {t:TypeId} {len:Nat} {ps:Array (Nat×Operand)} {d:Tmp} {sub:List Sh} {k:S->Prop} (hd:okD g.nt (some d)=true) (hp:(ps.toList.all fun x=>okOp x.2)=true) (hK:buildSliceK2 P s t len sub ps d k) :
  ∃ s' y w' H' γ' F',(Instr.buildSlice t len (ps.map fun (i,x)=>(i,a.eval x))).run P w=.ok y w'/\k s'/\RX g s' (a.put (some d) y) w' H' γ' F':=by
 unfold buildSliceK2 at hK
 cases hk:(ty P t).k with
 | sl e=>
  rw [hk] at hK
  obtain ⟨hok,hzc,hsmall,hlb,hsl,hK⟩:=hK
  obtain ⟨_,td,hit,hud,htk,_⟩:=ty_und hk (by simp)
  have:=tk_sl htk
  subst this
  obtain ⟨ie,de,hie,_⟩:=ty_ok hok
  have hsize:(ty P e).size=ie.size:=by
   obtain ⟨ie',_,hie',_,_,hs,_⟩:=ty_ok hok
   rw [hie] at hie'
   obtain rfl:ie=ie':=by simpa using hie'
   exact hs
  obtain ⟨zs,hzs⟩:=Option.isSome_iff_exists.1 hzc
  obtain ⟨it',z,hi',hz,_⟩:=zcells_ok hzs
  rw [hie] at hi'
  obtain rfl:ie=it':=by simpa using hi'
  obtain ⟨H1,F1,h1⟩:=RX_frzVs (ps.toList.map fun x=>ev s x.2) s H F h
  have h2:=RX_fresh h1 (.gh d)
  have hn:=getR_fresh h1 (.gh d)
  dsimp only at hK
  generalize (frzVs s (ps.toList.map fun x=>ev s x.2)).fresh (.gh d)=s2 at hK h2 hn
  cases hf:fillT (fun i=>some (i*(ty P e).size,(ty P e).size)) (List.replicate (len*(ty P e).size) .any) (partsK s2 ps) with
  | none=>rw [hf] at hK; exact hK.elim
  | some ts=>
   rw [hf] at hK
   dsimp only at hK
   rw [hsize] at hf hK hsmall hsl
   have hpr:PR w H1 γ s2.m (partsK s2 ps) (ps.map fun (i,x)=>(i,a.eval x)).toList:=by
    rw [Array.toList_map]
    exact PR_parts (m:=s2.m) h2 hp
   have hfill:∀ us:Array Value,us.size=len*ie.size->∃ cs,Instr.fill (fun i=>some (i*ie.size,ie.size)) us (ps.map fun (i,x)=>(i,a.eval x)).toList=some cs/\cs.size=ts.length/\Ts (TR w H1 γ s2.m) ts (fun _=>0) cs.toList:=by
    intro us hus
    refine fill_ok h2.mem _ _ _ us ts hpr (by simpa using hus) ?_ hf
    have:=Ts_any (w:=w) (H:=H1) (γ:=γ) (m:=s2.m) (vs:=us.toList)
    rw [show us.toList.length=len*ie.size from by simpa using hus] at this
    exact this
   have hlen:ts.length=len*ie.size:=by rw [fillT_length hf]; simp
   obtain ⟨us,cs,u1,u2,u3⟩:=run_buildSlice' (P:=P) (w:=w) (t:=t) (e:=e) (len:=len) (vs:=ps.map fun (i,x)=>(i,a.eval x)) (cells:=#[]) hud hie hz (by omega) (fun us hus=>by
    obtain ⟨cs,c1,c2,_⟩:=hfill us hus
    exact ⟨cs,c1,by rw [c2,hlen],.inr trivial⟩)
   obtain ⟨cs',c1,c2,c3⟩:=hfill us u1
   rw [u2] at c1
   obtain rfl:cs=cs':=by simpa using c1
   cases hz2:fzS (List.replicate len sub).flatten ts with
   | none=>rw [hz2] at hK; exact hK.elim
   | some xs=>
    rw [hz2] at hK
    dsimp only at hK
    have hcs:∀ k,Cs (OD w H1 (k+1)) (List.replicate len sub).flatten xs (fun _=>0) cs.toList:=fun k=>Cs_fzS (fun _=>rfl) hz2 c3
    have hmap:xs.length=len*ie.size:=by
     have h5:=(Cs_length _ _ _ _ (hcs 0)).1
     rw [<- h5,flatten_len sub.length _ (fun x hx=>by rw [(List.mem_replicate.1 hx).2]),List.length_replicate,hsl]
    obtain ⟨γ',F',hX,hγ⟩:=RX_newrow2 h2 (n:=.gh d) rfl hn (cs:=cs) (ty':=e) (len:=len) (cap:=len) (sub:=sub) (l:=chunk ie.size len xs) chunk_length (Nat.le_refl _) (by
      show len<=2 ^ 62
      omega) (by rw [hsl]; exact chunk_mem hmap) (by rw [c2,hlen,hsl]) (fun k=>by
       rw [chunk_flat hmap]
       exact hcs k)
    refine ⟨_,_,_,H1,γ',F',u3,hK,RX.put hX hd (AR_ghost (sub:=sub) (l:=chunk ie.size len xs) ?_ hγ)⟩
    simp [S.root,getR]
 | _=>rw [hk] at hK; exact hK.elim
end
end Go.Am
end

section
namespace Go.Am
abbrev upS (k:St->Prop):S->Prop:=fun s'=>∃ t:St,SEq s' t.toS/\k t
theorem zcells_okT {P:Program} {t:TypeId} {zs:List Value} (h:zcells P t=some zs):zs.all okT=true:=by
 unfold zcells at h
 split at h
 ·split at h
  ·split at h
   ·rename_i hz
    simp only [Option.some.injEq] at h
    subst h
    simpa using hz
   ·cases h
  ·cases h
 ·cases h
section
variable {P:Program} {s:St} {k:St->Prop}
theorem allocT_ok {t:TypeId} {d:Tmp} (hn:ND s.m) (h:allocT P s t d k):allocK P s.toS t d (upS k):=by
 unfold allocT at h
 split at h
 ·rename_i z zs hz
  split at h
  ·rename_i hd
   unfold allocK
   rw [hz]
   refine ⟨by simp,Nat.le_of_ble_eq_true hd,_,?_,h⟩
   have e:((s.fresh (locN t d)).root (locN t d) ⟨true,(z::zs).map cstTt,none⟩).toS=(s.toS.fresh (locN t d)).root (locN t d) ⟨true,(z::zs).map cstT⟩:=by
    rw [<- fresh_toS hn,<- csts_ok (zcells_okT hz)]; rfl
   rw [<- e]
   exact put_SEq ((s.fresh (locN t d)).root (locN t d) ⟨true,(z::zs).map cstTt,none⟩) (some d) (.one (.c (.pl ⟨locN t d,0,[]⟩)))
  ·exact h.elim
 ·exact h.elim
theorem boxT_ok {x:Operand} {d:Tmp} (hn:ND s.m) (hx:okOp x=true) (h:boxT s x d k):boxK s.toS x d (upS k):=by
 unfold boxT at h
 split at h
 ·rename_i t ts hc
  split at h
  ·rename_i hd
   simp only [Bool.and_eq_true] at hd
   unfold boxK
   rw [<- fresh_toS hn,evA_toV hx,cellsAt_ok,hc]
   dsimp only [Option.map_some]
   refine ⟨by simp,?_,Nat.le_of_ble_eq_true hd.2,_,?_,h⟩
   ·rw [List.all_map,<- hd.1]; congr 1; funext t; exact sure_toT t
   ·exact put_SEq ((s.fresh (.loc d)).root (.loc d) ⟨true,t::ts,none⟩) (some d) (.one (.c (.pl ⟨.loc d,0,[]⟩)))
  ·exact h.elim
 ·exact h.elim
theorem fz_canC {u:U} {t:Tt} {x:El u} (h:canC u t=some x):t.toT.fz=(cellOf u x).toD:=by
 unfold canC at h
 split at h
 ·rename_i c; rw [ofCell_eq h]
  rfl
 ·split at h
  ·simp only [Option.some.injEq] at h; subst h; rfl
  ·cases h
 ·cases h
theorem fz_canCs:∀ {us:List U} {ts:List Tt} {x:Fl us},canCs us ts=some x->ts.map (fun t=>t.toT.fz)=(cellsF us x).map C.toD
 | [],[],_,_=>rfl
 | u::r,c::cs,x,h=>by
  simp only [canCs] at h
  cases h1:canC u c with
  | none=>rw [h1] at h; cases h
  | some y=>
   cases h2:canCs r cs with
   | none=>rw [h1,h2] at h; cases h
   | some z=>
    rw [h1,h2] at h
    simp only [Option.some.injEq] at h
    subst h
    rw [cellsF,hd_cons,tl_cons,List.map_cons,List.map_cons,fz_canC h1,fz_canCs h2]
 | [],_::_,_,h=>by simp [canCs] at h
 | _::_,[],_,h=>by simp [canCs] at h
theorem fz_canU {u:U} {ts:List Tt} {x:El u} (h:canU u ts=some x):ts.map (fun t=>t.toT.fz)=encU u x:=by
 rw [<- flat_enc]
 cases u with
 | st n=>
  simp only [canU] at h
  cases h1:canCs (sd n).fs ts with
  | none=>rw [h1] at h; cases h
  | some y=>
   rw [h1] at h
   have:=Option.some.inj h
   subst this
   show _=(cellsF (sd n).fs ((sd n).un ((sd n).mkF y))).map C.toD
   rw [(sd n).l2,fz_canCs h1]
 | _=>
  cases ts with
  | nil=>cases h
  | cons t r=>cases r with
   | nil=>rw [flat_leaf rfl]; simp only [List.map_cons,List.map_nil]; rw [fz_canC h]
   | cons _ _=>cases h
theorem fz_canRows {u:U}:∀ {rows:List (List Tt)} {l:List (El u)},canRows u rows=some l->rows.map (fun r=>r.map fun t=>t.toT.fz)=l.map (encU u)
 | [],l,h=>by simp only [canRows,Option.some.injEq] at h; subst h; rfl
 | r::rs,l,h=>by
  simp only [canRows] at h
  cases h1:canU u r with
  | none=>rw [h1] at h; cases h
  | some x=>
   cases h2:canRows u rs with
   | none=>rw [h1,h2] at h; cases h
   | some xs=>
    rw [h1,h2] at h
    simp only [Option.some.injEq] at h
    subst h
    rw [List.map_cons,List.map_cons,fz_canU h1,fz_canRows h2]
theorem chunk_map {α β:Type} (f:α->β) (size:Nat):∀ (n:Nat) (l:List α),chunk size n (l.map f)=(chunk size n l).map (·.map f)
 | 0,_=>rfl
 | n+1,l=>by simp only [chunk,List.map_cons,List.map_take]; rw [<- List.map_drop,chunk_map f size n]
theorem all_noRf {ps:Array (Nat×Operand)} (h:(partsT s ps).all (fun x=>x.2.noRf)=true):(ps.toList.map fun x=>evA s x.2).all At.noRf=true:=by
 unfold partsT at h
 rw [List.all_map] at h ⊢
 exact h
theorem evs_toV {xs:List (Nat×Operand)} (h:(xs.all fun x=>okOp x.2)=true):(xs.map fun x=>ev s.toS x.2)=(xs.map fun x=>evA s x.2).map At.toV:=by
 rw [List.map_map]
 exact List.map_congr_left fun x hx=>evA_toV (List.all_eq_true.1 h x hx)
theorem buildSliceT_ok {E:Ut} {t:TypeId} {len:Nat} {ps:Array (Nat×Operand)} {d:Tmp} (hps:(ps.toList.all fun x=>okOp x.2)=true)
  (hn:ND (frzAts s (ps.toList.map fun x=>evA s x.2)).m) (h:buildSliceT P E s t len ps d k):buildSliceK P (frzAts s (ps.toList.map fun x=>evA s x.2)).toS t len ps d (upS k):=by
 unfold buildSliceT at h
 split at h
 ·rename_i e ht
  split at h
  ·rename_i u z he hz
   split at h
   ·rename_i hc
    simp only [Bool.and_eq_true] at hc
    obtain ⟨⟨⟨c1,c2⟩,c3⟩,c4⟩:=hc
    have hsz:=Nat.eq_of_beq_eq_true c2
    dsimp only at h
    generalize hs1:frzAts s (ps.toList.map fun x=>evA s x.2)=s1 at h hn
    split at h
    ·rename_i ts hf hno
     split at h
     ·rename_i l hl
      unfold buildSliceK
      rw [ht]
      dsimp only
      refine ⟨c1,by rw [hz]; rfl,by rw [<- hsz]; exact Nat.le_of_ble_eq_true c3,Nat.le_of_ble_eq_true c4,?_⟩
      rw [evs_toV hps,frzVs_noRf (all_noRf hno),<- fresh_toS hn,partsT_ok hps,<- hsz]
      have hf':=fillTt_ok hf
      rw [List.map_replicate] at hf'
      have e0:Tt.any.toT=T.any:=rfl
      rw [e0] at hf'
      rw [hf']
      dsimp only
      refine ⟨_,?_,h⟩
      have er:(⟨false,[.ow (List.replicate (nc u) .fr) u l],none⟩:Rt).toR=⟨false,[.ow (List.replicate (nc u) .fr) (chunk (nc u) len ((ts.map Tt.toT).map T.fz))]⟩:=by
       have e2:chunk (nc u) len ((ts.map Tt.toT).map T.fz)=l.map (encU u):=by rw [List.map_map,chunk_map]; exact fz_canRows hl
       rw [e2]; rfl
      rw [<- er]
      exact put_SEq ((s1.fresh (.gh d)).root (.gh d) ⟨false,[.ow (List.replicate (nc u) .fr) u l],none⟩) (some d) (.one (.c (.rf ⟨.gh d,0,[]⟩)))
     ·exact h.elim
    ·exact h.elim
   ·exact h.elim
  ·exact h.elim
 ·exact h.elim
theorem subOk_ok:∀ {ss:List Sh} {ts:List Tt},subOk ss ts=true->fzS ss (ts.map Tt.toT)=some (ts.map fun t=>t.toT.fz)
 | [],[],_=>rfl
 | .fr::r,t::ts,h=>by
  simp only [List.map_cons,fzS]
  rw [subOk_ok (show subOk r ts=true from h)]
 | .ow sub::r,t::ts,h=>by
  cases t with
  | nil=>
   simp only [List.map_cons,Tt.toT,fzS]
   rw [subOk_ok (show subOk r ts=true from h)]; rfl
  | _=>simp [subOk] at h
 | [],_::_,h=>by simp [subOk] at h
 | .fr::_,[],h=>by simp [subOk] at h
 | .ow _::_,[],h=>by simp [subOk] at h
theorem buildSliceT2_ok {E:Ut} {sub:List Sh} {t:TypeId} {len:Nat} {ps:Array (Nat×Operand)} {d:Tmp} (hps:(ps.toList.all fun x=>okOp x.2)=true)
  (hn:ND (frzAts s (ps.toList.map fun x=>evA s x.2)).m) (h:buildSliceT2 P E sub s t len ps d k):buildSliceK2 P (frzAts s (ps.toList.map fun x=>evA s x.2)).toS t len sub ps d (upS k):=by
 unfold buildSliceT2 at h
 split at h
 ·rename_i e ht
  split at h
  ·rename_i u z he hz
   split at h
   ·rename_i hc
    simp only [Bool.and_eq_true] at hc
    obtain ⟨⟨⟨⟨c1,c2⟩,c3⟩,c4⟩,c5⟩:=hc
    have hsz:=Nat.eq_of_beq_eq_true c2
    dsimp only at h
    generalize hs1:frzAts s (ps.toList.map fun x=>evA s x.2)=s1 at h hn
    split at h
    ·rename_i ts hf hno
     split at h
     ·rename_i l hl hsub
      unfold buildSliceK2
      rw [ht]
      dsimp only
      refine ⟨c1,by rw [hz]; rfl,by rw [<- hsz]; exact Nat.le_of_ble_eq_true c3,Nat.le_of_ble_eq_true c4,by rw [<- hsz]; exact Nat.eq_of_beq_eq_true c5,?_⟩
      rw [evs_toV hps,frzVs_noRf (all_noRf hno),<- fresh_toS hn,partsT_ok hps,<- hsz]
      have hf':=fillTt_ok hf
      rw [List.map_replicate] at hf'
      have e0:Tt.any.toT=T.any:=rfl
      rw [e0] at hf'
      rw [hf']
      dsimp only
      rw [subOk_ok hsub]
      dsimp only
      refine ⟨_,?_,h⟩
      have er:(⟨false,[.ow sub u l],none⟩:Rt).toR=⟨false,[.ow sub (chunk (nc u) len (ts.map fun t=>t.toT.fz))]⟩:=by
       have e2:chunk (nc u) len (ts.map fun t=>t.toT.fz)=l.map (encU u):=by rw [chunk_map]; exact fz_canRows hl
       rw [e2]; rfl
      rw [<- er]
      exact put_SEq ((s1.fresh (.gh d)).root (.gh d) ⟨false,[.ow sub u l],none⟩) (some d) (.one (.c (.rf ⟨.gh d,0,[]⟩)))
     ·exact h.elim
    ·exact h.elim
   ·exact h.elim
  ·exact h.elim
 ·exact h.elim
theorem ND_set {m:List (Nm×Nat×Rt)} {n:Nm} {i:Nat} {r:Rt} (h:ND m):ND (setM m n i r):=by
 unfold ND; rw [keys_setM]; exact h
theorem owned_toT (t:Tt):t.toT.owned=t.owned:=by cases t <;> rfl
theorem putT_ok {p:Pl} {t:Tt} (h:putT s p t k) (hn:ND s.m):∃ m',(∀ K:Mm->Prop,K m'->putK s.toS.m p t.toT K)/\∃ s':St,s'.toS=⟨s.toS.t,m'⟩/\ND s'.m/\k s':=by
 unfold putT at h
 split at h
 ·exact h.elim
 ·rename_i r hr
  split at h
  ·rename_i t0 hpath hh hc
   split at h
   ·rename_i ho
    have ec:r.toR.cells=r.cells.map Tt.toT:=by show holed _ r.hole=_; rw [hh]; rfl
    refine ⟨setR s.toS.m p.root ⟨r.blk,(r.cells.map Tt.toT).set p.off t.toT⟩,fun K hK=>?_,_,?_,ND_set hn,h⟩
    ·unfold putK
     rw [show getR s.toS.m p.root=some r.toR from getR_of hr]
     dsimp only
     rw [hpath,ec,List.getElem?_map,hc]
     exact ⟨by rw [owned_toT]; exact ho,hK⟩
    refine drop_toS.S_ext rfl ?_
    show toM (setM s.m p.root s.nx _)=_
    rw [setM_toM]
    congr 1
    simp only [Rt.toR,hh,holed,List.map_set]
   ·exact h.elim
  ·rename_i st q sub u l hpath hh hc
   split at h
   ·rename_i l' hl
    have ec:r.toR.cells=r.cells.map Tt.toT:=by show holed _ r.hole=_; rw [hh]; rfl
    refine ⟨setR s.toS.m p.root ⟨r.blk,(r.cells.map Tt.toT).set p.off (.ow sub (l'.map (encU u)))⟩,fun K hK=>?_,_,?_,ND_set hn,okTP_k h⟩
    ·unfold putK
     rw [show getR s.toS.m p.root=some r.toR from getR_of hr]
     dsimp only
     rw [hpath,ec,List.getElem?_map,hc]
     exact setT1_ok h hl hK
    refine drop_toS.S_ext rfl ?_
    show toM (setM s.m p.root s.nx _)=_
    rw [setM_toM]
    congr 1
    simp only [Rt.toR,hh,holed,List.map_set,Tt.toT]
   ·exact h.elim
  ·rename_i st q off st' q' sub u l hpath hh hc
   split at h
   ·rename_i sh v lv hb
    split at h
    ·rename_i l' hl
     have hoff:off=p.off:=Nat.eq_of_beq_eq_true hb
     subst hoff
     obtain ⟨epath,hk⟩:=eqPath_eq (okTP_k h)
     have hlt:p.off < (r.cells.map Tt.toT).length:=by rw [List.length_map]; exact lt_of_get hc
     simp only [List.cons.injEq] at epath
     obtain ⟨rfl,rfl⟩:=epath
     have ec:r.toR.cells=(r.cells.map Tt.toT).set p.off (.ow sub (setO sub (l.map (encU u)) .any (st'::q'))):=by
      show holed _ r.hole=_
      rw [hh]; exact holed_at _ _ hc
     refine ⟨setR s.toS.m p.root ⟨r.blk,(r.cells.map Tt.toT).set p.off (.ow sub (l'.map (encU u)))⟩,fun K hK=>?_,_,?_,ND_set hn,hk⟩
     ·unfold putK
      rw [show getR s.toS.m p.root=some r.toR from getR_of hr]
      dsimp only
      rw [hpath,ec,List.getElem?_set_self hlt]
      refine fillH_ok h hl ?_
      rw [List.set_set]
      exact hK
     refine drop_toS.S_ext rfl ?_
     show toM (setM s.m p.root s.nx _)=_
     rw [setM_toM]
     congr 1
     simp only [Rt.toR,holed,List.map_set,Tt.toT]
    ·exact h.elim
   ·exact h.elim
  ·exact h.elim
theorem ment_toT (n:Nm) (t:Tt):t.toT.ment n=t.ment n:=by cases t <;> rfl
theorem storesT_ok {K:S->Prop} (hK:∀ t:St,k t->K t.toS):∀ {ts:List Tt} {s:St} {p:Pl},ND s.m->storesT s p ts k->storesK s.toS p (ts.map Tt.toT) K
 | [],s,p,hn,h=>hK s h
 | t::ts,s,p,hn,h=>by
  have gen:∀ t:Tt,(∀ q,t≠.rf q)->t≠.any->t≠.d .any->putT s p t (fun s'=>storesT s' (p.add 1) ts k)->storesK s.toS p (t.toT::ts.map Tt.toT) K:=by
   intro t h1 h2 h3 h
   obtain ⟨m',hp,s',e,hn',hk⟩:=putT_ok h hn
   have key:storesK s.toS p (t.toT::ts.map Tt.toT) K=putK s.toS.m p t.toT fun m'=>storesK ⟨s.toS.t,m'⟩ (p.add 1) (ts.map Tt.toT) K:=by
    cases t with
    | rf q=>exact (h1 q rfl).elim
    | any=>exact (h2 rfl).elim
    | d c=>cases c with
     | any=>exact (h3 rfl).elim
     | _=>rfl
    | _=>rfl
   rw [key]
   refine hp _ ?_
   rw [<- e]
   exact storesT_ok hK hn' hk
  cases t with
  | rf q=>
   simp only [storesT] at h
   split at h
   ·rename_i sub u l hr
    split at h
    ·rename_i hpath hroot hall
     simp only [List.map_cons,Tt.toT,storesK]
     rw [show getR s.toS.m q.root=some (⟨false,[.ow sub u l],none⟩:Rt).toR from getR_of hr]
     refine ⟨hpath,by simpa using hroot,?_,?_⟩
     ·rw [List.all_map,<- hall]; congr 1; funext t; simp only [Function.comp,ment_toT]
     ·rw [<- drop_toS hn]
      obtain ⟨m',hp,s',e,hn',hk⟩:=putT_ok h (ND_drop hn)
      refine hp _ ?_
      rw [<- e]
      exact storesT_ok hK hn' hk
    ·exact h.elim
   ·exact h.elim
  | any=>exact h.elim
  | d c=>cases c with
   | any=>exact h.elim
   | _=>exact gen _ (fun _ h=>by cases h) (fun h=>by cases h) (fun h=>by cases h) h
  | _=>exact gen _ (fun _ h=>by cases h) (fun h=>by cases h) (fun h=>by cases h) h
theorem putRowT_ok {K:S->Prop} (hK:∀ t:St,k t->K t.toS) {p:Pl} {ts:List Tt} (hne:ts≠[]) (h:putRowT s p ts k):storesK s.toS p (ts.map Tt.toT) K:=by
 unfold putRowT at h
 split at h
 ·exact h.elim
 ·rename_i r hr
  split at h
  ·rename_i st q sub u l hpath hh hc
   split at h
   ·rename_i l' hl
    have ec:r.toR.cells=r.cells.map Tt.toT:=by show holed _ r.hole=_; rw [hh]; rfl
    obtain ⟨a1,a2⟩:=setTs_any hl
    refine storesK_row (getR_of hr) hpath (sub:=sub) (l:=l.map (encU u)) (by rw [ec,List.getElem?_map,hc]; rfl) a2 a1 (setTs_ok hne h hl ?_)
    have hk:=hK _ (okTP_k h)
    have e:(⟨s.nx+1,s.t,setM s.m p.root s.nx { r with cells:=r.cells.set p.off (.ow sub u l') }⟩:St).toS=⟨s.toS.t,setR s.toS.m p.root { r.toR with cells:=r.toR.cells.set p.off (.ow sub (l'.map (encU u))) }⟩:=by
     refine drop_toS.S_ext rfl ?_
     show toM (setM s.m p.root s.nx _)=_
     rw [setM_toM]
     congr 1
     simp only [Rt.toR,hh,holed,List.map_set,Tt.toT]
    rw [e] at hk
    exact hk
   ·exact h.elim
  ·exact h.elim
theorem storeT_ok {K:S->Prop} (hK:∀ t:St,k t->K t.toS) {t:TypeId} {x v:At} (hn:ND s.m) (h:storeT P s t x v k):storeK P s.toS t x.toV v.toV K:=by
 unfold storeT at h
 split at h
 ·rename_i p ts hv
  split at h
  ·rename_i hc
   simp only [Bool.and_eq_true] at hc
   unfold storeK
   rw [cellsAt_ok,hv]
   refine ⟨hc.1.1,by rw [List.length_map]; exact Nat.eq_of_beq_eq_true hc.1.2,by rw [List.length_map]; exact hasRoomT_ok hc.2,?_⟩
   split at h
   ·rename_i hrow
    refine putRowT_ok hK (fun e=>?_) h
    subst e
    simp [rowSt,Nat.blt] at hrow
   ·exact storesT_ok hK hn h
  ·exact h.elim
 ·exact h.elim
theorem srcT_ok {u:U} {v:At} {l:List (El u)} {size:Nat} (hs:nc u=size) (h:srcT u v=some l):srcRows size v.toV=some (l.map (encU u))/\v.noRf=true:=by
 unfold srcT at h
 split at h
 ·simp only [Option.some.injEq] at h; subst h; exact ⟨rfl,rfl⟩
 ·rename_i u' l'
  obtain ⟨e,rfl⟩:=castL_eq h
  subst e
  exact ⟨rfl,rfl⟩
 ·rename_i b
  split at h
  ·simp only [Option.some.injEq] at h
   subst h
   have:size=1:=hs.symm
   simp only [At.toV,A1.toV,Tt.toT,C.toD,srcRows]
   rw [if_pos this]
   exact ⟨rfl,rfl⟩
  ·cases h
 ·cases h
theorem cell_of_atT {m:List (Nm×Nat×Rt)} {q:Pl} {r:Rt} {t:Tt} (hr:getM m q.root=some r) (hp:q.path=[]) (h:atT m q 1=some [t]):r.cells[q.off]? = some t:=by
 unfold atT at h
 rw [hr] at h
 dsimp only at h
 rw [hp] at h
 dsimp only at h
 split at h
 ·rename_i hb
  simp only [Option.some.injEq] at h
  have:=congrArg (·[0]?) h
  simpa [List.getElem?_take,List.getElem?_drop] using this
 ·cases h
theorem baseT_ok {u:U} {v:At} {s':St} {sub:List Sh} {l:List (El u)} {size:Nat} (hs:nc u=size) (hn:ND s.m) (hop:∀ q,v=.one (.c (.rf q))->okP (toM s.m) q) (h:baseT s u v=some (s',sub,l)) :
  baseK s.toS size v.toV=some (s'.toS,sub,l.map (encU u))/\ND s'.m/\Ext s s':=by
 unfold baseT at h
 split at h
 ·simp only [Option.some.injEq,Prod.mk.injEq] at h
  obtain ⟨rfl,rfl,rfl⟩:=h
  exact ⟨by rw [<- hs]; rfl,hn,Ext.refl _⟩
 ·rename_i q
  split at h
  ·rename_i sub' u' l' hsl
   split at h
   ·rename_i l2 s2 hcast hlen htake
    simp only [Option.some.injEq,Prod.mk.injEq] at h
    obtain ⟨rfl,rfl,rfl⟩:=h
    obtain ⟨e,rfl⟩:=castL_eq hcast
    subst e
    unfold takeT at htake
    split at htake
    ·cases htake
    ·rename_i r hr
     split at htake
     ·rename_i hpath hh
      simp only [Option.some.injEq] at htake
      have ht:atT s.m q 1=some [.ow sub' u' l']:=by
       unfold sliceAt at hsl
       split at hsl
       ·rename_i a b c hat; cases hsl; exact hat
       ·cases hsl
      have hc:=cell_of_atT hr hpath ht
      have egr:getR s.toS.m q.root=some r.toR:=getR_of hr
      have ecs:r.toR.cells=r.cells.map Tt.toT:=by show holed _ r.hole=_; rw [hh]; rfl
      have egp:getPl s.toS.m q=some (.ow sub' (l'.map (encU u'))):=by
       unfold getPl
       rw [egr,hpath]
       dsimp only
       rw [ecs,List.getElem?_map,hc]; rfl
      refine ⟨?_,?_,?_⟩
      ·simp only [At.toV,A1.toV,Tt.toT,baseK]
       rw [egp]
       dsimp only
       rw [if_pos (by rw [<- hs]; exact Nat.eq_of_beq_eq_true hlen)]
       congr 2
       rw [<- htake]
       refine drop_toS.S_ext (killA_toS _ _ _).symm ?_
       show _=toM (killMm (thr q) s.nx (setM s.m q.root s.nx _))
       rw [killMm_toM,setM_toM]
       congr 1
       unfold putPl
       rw [egr,hpath]
       dsimp only
       show setR (toM s.m) q.root _=_
       congr 1
       simp only [Rt.toR,hh,holed,List.map_set,Tt.toT]
      ·rw [<- htake]; exact ND_kill.2 (ND_set hn)
      ·rw [<- htake]
       exact ⟨Nat.le_succ _,ExtT_kill (Nat.le_refl _),(ExtM_set _ _ (Nat.le_refl _) s.m).trans (ExtM_kill (Nat.le_refl _))⟩
     ·rename_i st pa hpath hh
      simp only [Option.some.injEq] at htake
      have ht:atT s.m q 1=some [.ow sub' u' l']:=by
       unfold sliceAt at hsl
       split at hsl
       ·rename_i a b c hat; cases hsl; exact hat
       ·cases hsl
      have egr:getR s.toS.m q.root=some r.toR:=getR_of hr
      have ecs:r.toR.cells=r.cells.map Tt.toT:=by show holed _ r.hole=_; rw [hh]; rfl
      have hq:=hop q rfl
      unfold okP at hq
      rw [hpath] at hq
      obtain ⟨r2,sub2,l2,g1,g2,g3⟩:=hq
      have er2:r2=r.toR:=Option.some.inj (g1.symm.trans egr)
      subst er2
      unfold atT at ht
      rw [hr] at ht
      dsimp only at ht
      rw [hpath] at ht
      dsimp only at ht
      split at ht
      ·rename_i sub0 u0 l0 _ hc
       rw [ecs,List.getElem?_map,hc] at g2
       simp only [Option.map_some,Option.some.injEq,Tt.toT,T.ow.injEq] at g2
       obtain ⟨rfl,rfl⟩:=g2
       have hlk:=inT_look g3 ht
       have egp:getPl s.toS.m q=some (.ow sub' (l'.map (encU u'))):=by
        unfold getPl
        rw [egr]
        dsimp only
        rw [hpath]
        dsimp only
        rw [ecs,List.getElem?_map,hc]
        simp only [Option.map_some,Tt.toT]
        rw [hlk]
       refine ⟨?_,?_,?_⟩
       ·simp only [At.toV,A1.toV,Tt.toT,baseK]
        rw [egp]
        dsimp only
        rw [if_pos (by rw [<- hs]; exact Nat.eq_of_beq_eq_true hlen)]
        congr 2
        rw [<- htake]
        refine drop_toS.S_ext (killA_toS _ _ _).symm ?_
        show _=toM (killMm (thr q) s.nx (setM s.m q.root s.nx _))
        rw [killMm_toM,setM_toM]
        congr 1
        unfold putPl
        rw [egr]
        dsimp only
        rw [hpath]
        dsimp only
        rw [ecs,List.getElem?_map,hc]
        show setR (toM s.m) q.root _=_
        congr 1
        simp only [Rt.toR,Option.map_some,Tt.toT,T.toD]
        rw [holed_at _ _ hc]
       ·rw [<- htake]; exact ND_kill.2 (ND_set hn)
       ·rw [<- htake]
        exact ⟨Nat.le_succ _,ExtT_kill (Nat.le_refl _),(ExtM_set _ _ (Nat.le_refl _) s.m).trans (ExtM_kill (Nat.le_refl _))⟩
      ·cases ht
     ·cases htake
   ·cases h
  ·cases h
 ·cases h
theorem sd_leaf:∀ n:Sn,(sd n).fs.all leaf=true:=by intro n; cases n <;> rfl
theorem cell_sure {u:U} (h:leaf u=true) (x:El u):(cellOf u x).toD.sure=true:=by
 cases u with
 | st n=>cases h
 | _=>rfl
theorem cells_sure:∀ {us:List U} (_:us.all leaf=true) (x:Fl us),∀ d∈(cellsF us x).map C.toD,d.sure=true
 | [],_,_,d,hd=>by simp [cellsF] at hd
 | u::r,h,x,d,hd=>by
  simp only [List.all_cons,Bool.and_eq_true] at h
  simp only [cellsF,List.map_cons,List.mem_cons] at hd
  rcases hd with rfl | hd
  ·exact cell_sure h.1 _
  ·exact cells_sure h.2 _ d hd
theorem enc_sure {u:U} (x:El u):∀ d∈encU u x,d.sure=true:=by
 rw [<- flat_enc]
 cases u with
 | st n=>exact cells_sure (sd_leaf n) _
 | _=>intro d hd; rw [flat_leaf rfl] at hd; simp only [List.map_cons,List.map_nil,List.mem_singleton] at hd; subst hd; exact cell_sure rfl _
theorem appendT_ok {E:Ut} {t u0:TypeId} {x y:Operand} {d:Tmp} (hx:okOp x=true) (hy:okOp y=true) (hn:ND (frzAt s (evA s y)).m) (hop:∀ q,evA (frzAt s (evA s y)) x=.one (.c (.rf q))->okP (toM (frzAt s (evA s y)).m) q) (h:appendT P E s t u0 x y d k):appendK P (frzAt s (evA s y)).toS t u0 x y d (upS k):=by
 unfold appendT at h
 dsimp only at h
 generalize hs1:frzAt s (evA s y)=s1 at h hn hop
 split at h
 ·rename_i e ht
  split at h
  ·rename_i u z he hz
   split at h
   ·rename_i hc
    simp only [Bool.and_eq_true] at hc
    obtain ⟨⟨⟨c1,c2⟩,c3⟩,c4⟩:=hc
    have hsz:=Nat.eq_of_beq_eq_true c4
    split at h
    ·rename_i ys s2 sub l hsrc hbase
     split at h
     ·rename_i hsub
      obtain ⟨⟨h1,h2⟩,h3⟩:=h
      obtain ⟨k1,k2⟩:=srcT_ok hsz hsrc
      obtain ⟨b1,b2,_⟩:=baseT_ok hsz hn hop hbase
      unfold appendK
      dsimp only
      rw [evA_toV hy,frzV_noRf k2,ht]
      dsimp only
      refine ⟨c1,c2,by rw [hz]; simp only [Option.map_some]; rw [Nat.eq_of_beq_eq_true c3],?_⟩
      rw [evA_toV hy,evA_toV hx,k1,b1]
      dsimp only
      refine ⟨hsub,?_,by rw [List.length_map,List.length_map]; exact h1,by rw [List.length_map,List.length_map]; exact h2,_,?_,h3⟩
      ·intro r hr
       obtain ⟨z',_,rfl⟩:=List.mem_map.1 hr
       exact ⟨by rw [encU_length]; exact hsz,enc_sure z'⟩
      ·rw [<- fresh_toS b2]
       have er:(⟨false,[.ow sub u (l++ys)],none⟩:Rt).toR=⟨false,[.ow sub (l.map (encU u)++ys.map (encU u))]⟩:=by
        rw [<- List.map_append]; rfl
       rw [<- er]
       exact put_SEq ((s2.fresh (.gh d)).root (.gh d) ⟨false,[.ow sub u (l++ys)],none⟩) (some d) (.one (.c (.rf ⟨.gh d,0,[]⟩)))
     ·exact h.elim
    ·exact h.elim
   ·exact h.elim
  ·exact h.elim
 ·exact h.elim
theorem appendT2_ok {E:Ut} {t u0:TypeId} {x y:Operand} {d:Tmp} (hx:okOp x=true) (hy:okOp y=true) (hn:ND s.m) (hopy:∀ q,evA s y=.one (.c (.rf q))->okP (toM s.m) q)
  (hopx:∀ (size:Nat) (s1:St) (sub:List Sh) (l:List (List D)) q,ND s1.m->baseK s.toS size (evA s y).toV=some (s1.toS,sub,l)->evA s1 x=.one (.c (.rf q))->okP (toM s1.m) q) (h:appendT2 P E s t u0 x y d k):appendK2 P s.toS t u0 x y d (upS k):=by
 unfold appendT2 at h
 split at h
 ·rename_i e ht
  split at h
  ·rename_i u z he hz
   split at h
   ·rename_i hc
    simp only [Bool.and_eq_true] at hc
    obtain ⟨⟨⟨c1,c2⟩,c3⟩,c4⟩:=hc
    have hsz:=Nat.eq_of_beq_eq_true c4
    split at h
    ·rename_i s1 sub1 ys hby
     split at h
     ·rename_i s2 sub l hbx
      split at h
      ·rename_i hsub
       obtain ⟨⟨h1,h2⟩,h3⟩:=h
       obtain ⟨a1,a2,_⟩:=baseT_ok hsz hn hopy hby
       obtain ⟨b1,b2,_⟩:=baseT_ok hsz a2 (fun q hq=>hopx _ s1 _ _ q a2 a1 hq) hbx
       unfold appendK2
       rw [ht]
       dsimp only
       refine ⟨c1,c2,by rw [hz]; simp only [Option.map_some]; rw [Nat.eq_of_beq_eq_true c3],?_⟩
       rw [evA_toV hy,a1]
       dsimp only
       rw [evA_toV hx,b1]
       dsimp only
       have hlen:sub1.length=nc u:=by
        unfold baseT at hby
        split at hby
        ·simp only [Option.some.injEq,Prod.mk.injEq] at hby
         obtain ⟨_,rfl,_⟩:=hby; simp
        ·split at hby
         ·split at hby
          ·rename_i hb _
           simp only [Option.some.injEq,Prod.mk.injEq] at hby
           obtain ⟨_,rfl,_⟩:=hby
           exact Nat.eq_of_beq_eq_true hb
          ·cases hby
         ·cases hby
        ·cases hby
       refine ⟨shpEqs_eq hsub,?_,by rw [List.length_map,List.length_map]; exact h1,by rw [List.length_map,List.length_map]; exact h2,_,?_,h3⟩
       ·intro r hr
        obtain ⟨z',_,rfl⟩:=List.mem_map.1 hr
        exact ⟨by rw [encU_length,hlen],enc_sure z'⟩
       ·rw [<- fresh_toS b2]
        have er:(⟨false,[.ow sub u (l++ys)],none⟩:Rt).toR=⟨false,[.ow sub (l.map (encU u)++ys.map (encU u))]⟩:=by
         rw [<- List.map_append]; rfl
        rw [<- er]
        exact put_SEq ((s2.fresh (.gh d)).root (.gh d) ⟨false,[.ow sub u (l++ys)],none⟩) (some d) (.one (.c (.rf ⟨.gh d,0,[]⟩)))
      ·exact h.elim
     ·exact h.elim
    ·exact h.elim
   ·exact h.elim
  ·exact h.elim
 ·exact h.elim
end
end Go.Am
end

section
namespace Go.Am
open Go.MapKept
def keyEq:D->D->Bool
 | .int k a,.int k' b=>decide (k=k')&&decide (a=b)
 | .bool a,.bool b=>a==b
 | .str a,.str b=>decide (a=b)
 | _,_=>false
def isKD:TK->D->Bool
 | .int k,.int k' _=>decide (k'=k)
 | .bool,.bool _=>true
 | .str,.str _=>true
 | _,_=>false
def lookD:List (D×D)->D->Option D
 | [],_=>none
 | x::l,k=>match keyEq x.1 k with
  | true=>some x.2
  | false=>lookD l k
def insD:List (D×D)->D->D->List (D×D)
 | [],k,v=>[(k,v)]
 | x::l,k,v=>match keyEq x.1 k with
  | true=>(k,v)::l
  | false=>x::insD l k v
theorem isKD_key {P:Program} {d:TypeDesc} {k k':D} {v v':Value} {H:FH} (hk:isKD (tkOf P d) k=true) (hk':isKD (tkOf P d) k'=true) (h:FDx H k v) (h':FDx H k' v'):IsKey d v/\(keyEq k k'=true ↔ v=v'):=by
 cases d <;> simp only [tkOf] at hk hk' <;> cases k <;> simp only [isKD] at hk <;> (first | (cases hk; done) | skip) <;> cases k' <;> simp only [isKD] at hk' <;> (first | (cases hk'; done) | skip)
 ·obtain rfl:=FDx_bool h; obtain rfl:=FDx_bool h'; exact ⟨trivial,by simp [keyEq]⟩
 ·obtain ⟨rfl,_⟩:=FDx_int h; obtain ⟨rfl,_⟩:=FDx_int h'
  simp only [decide_eq_true_eq] at hk hk'
  subst hk; subst hk'
  exact ⟨rfl,by simp [keyEq]⟩
 ·obtain ⟨rfl,_⟩:=FDx_str h; obtain ⟨rfl,_⟩:=FDx_str h'; exact ⟨trivial,by simp [keyEq]⟩
theorem isKD_isKey {κ:TK} {k:D} (h:isKD κ k=true):k.isKey=true:=by
 cases κ <;> cases k <;> first | rfl | cases h
theorem find_mp {P:Program} {d:TypeDesc} {H:FH} {k:D} {kv:Value} (hk:isKD (tkOf P d) k=true) (hkv:FDx H k kv):∀ (l:List (D×D)) (es:List MapEntry) (i:Nat),MpR H l es->(l.all fun x=>isKD (tkOf P d) x.1)=true ->
  (lookD l k=none/\Instr.findNow d kv es i=some none/\(∀ e∈es,e.key≠kv)/\∀ v vv b,FDx H v vv->MpR H (insD l k v) (es++[⟨kv,vv,b⟩])) \/
  ∃ j x e,lookD l k=some x/\Instr.findNow d kv es i=some (some (i+j,e.val))/\FDx H x e.val/\es[j]? = some e/\e.key=kv /\
   ∀ v vv,FDx H v vv->MpR H (insD l k v) (es.set j { e with key:=kv,val:=vv })
 | [],[],i,_,_=>.inl ⟨rfl,rfl,by simp,fun v vv b h=>⟨⟨isKD_isKey hk,hkv,h⟩,trivial⟩⟩
 | x::l,e::es,i,h,ha=>by
  simp only [List.all_cons,Bool.and_eq_true] at ha
  obtain ⟨⟨h1,h2,h3⟩,hr⟩:=h
  obtain ⟨q1,q2⟩:=isKD_key (P:=P) ha.1 hk h2 hkv
  obtain ⟨p1,_⟩:=isKD_key (P:=P) hk hk hkv hkv
  obtain ⟨r,e1,e2⟩:=sameNow_of_keys p1 q1
  cases r with
  | true=>
   have hke:=e2.1 rfl
   have hq:=q2.2 hke.symm
   refine .inr ⟨0,x.2,e,by simp only [lookD,hq],by simp [Instr.findNow,e1],h3,rfl,hke.symm,fun v vv hv=>?_⟩
   simp only [insD,hq,List.set_cons_zero]
   exact ⟨⟨isKD_isKey hk,hkv,hv⟩,hr⟩
  | false=>
   have hne:kv≠e.key:=fun q=>by have:=e2.2 q; cases this
   have hq:keyEq x.1 k=false:=by
    cases hb:keyEq x.1 k with
    | false=>rfl
    | true=>exact absurd (q2.1 hb).symm hne
   rcases find_mp hk hkv l es (i+1) hr ha.2 with ⟨g1,g2,g3,g4⟩ | ⟨j,x',e',g1,g2,g3,g4,g5,g6⟩
   ·refine .inl ⟨by simp only [lookD,hq,g1],by simp [Instr.findNow,e1,g2],fun y hy=>?_,fun v vv b hv=>?_⟩
    ·rcases List.mem_cons.1 hy with rfl | hy
     ·exact fun q=>hne q.symm
     ·exact g3 y hy
    ·simp only [insD,hq]
     exact ⟨⟨h1,h2,h3⟩,g4 v vv b hv⟩
   ·refine .inr ⟨j+1,x',e',by simp only [lookD,hq,g1],by simp [Instr.findNow,e1,g2]; omega,g3,by simpa using g4,g5,fun v vv hv=>?_⟩
    simp only [insD,hq,List.set_cons_succ]
    exact ⟨⟨h1,h2,h3⟩,g6 v vv hv⟩
 | [],_::_,_,h,_=>h.elim
 | _::_,[],_,h,_=>h.elim
section
variable {P:Program} {w:World} {H:FH}
theorem modify_set {es:Array MapEntry} {j:Nat} {e:MapEntry} (h:es[j]? = some e) (f:MapEntry->MapEntry):(es.modify j f).toList=es.toList.set j (f e):=by
 apply List.ext_getElem?
 intro i
 rw [Array.getElem?_toList,Array.getElem?_modify,List.getElem?_set]
 by_cases hi:j=i
 ·subst hi
  have hl:j<es.toList.length:=by simpa using (Array.getElem?_eq_some_iff.1 h).1
  rw [if_pos rfl,if_pos rfl,if_pos hl,h]; rfl
 ·rw [if_neg hi,if_neg hi]; simp
theorem run_mapset {mt kt et:TypeId} {d:TypeDesc} {b ck:Nat} {es:Array MapEntry} {l:List (D×D)} {k v:D} {kv vv:Value} (hm:P.underlying mt=some (.map kt et)) (hd:P.underlying kt=some d) (hb:w.heap[b]? = some (.map es ck)) (hs:Stamped es ck)
  (hl:MpR H l es.toList) (ha:(l.all fun x=>isKD (tkOf P d) x.1)=true) (hk:isKD (tkOf P d) k=true) (hkv:FDx H k kv) (hv:FDx H v vv) :
  ∃ es' ck',(Instr.mapUpdate mt (.map (some b)) kv vv).run P w=.ok () { w with heap:=w.heap.setIfInBounds b (.map es' ck') }/\Stamped es' ck'/\MpR H (insD l k v) es'.toList:=by
 have hkey:IsKey d kv:=(isKD_key (P:=P) hk hk hkv hkv).1
 rcases find_mp hk hkv l es.toList 0 hl ha with ⟨_,g2,g3,g4⟩ | ⟨j,x,e,_,g2,_,g4,g5,g6⟩
 ·refine ⟨es.push ⟨kv,vv,ck⟩,ck+1,?_,stamped_push hs g3,?_⟩
  ·simp [Instr.mapUpdate,run_underlying hm,MapKept.run_getObj_map hb,run_checkKey hd hkey,run_findKey hd g2,run_setObj_map _ hb,Result.andThen]
  ·rw [Array.toList_push]; exact g4 v vv ck hv
 ·have hj:es[j]? = some e:=by simpa using g4
  rw [Nat.zero_add] at g2
  refine ⟨es.modify j fun e=>{ e with key:=kv,val:=vv },ck,?_,stamped_modify hs _ _ (fun _ _=>rfl) (fun e' _ he'=>by rw [hj] at he'; obtain rfl:=Option.some.inj he'; exact g5.symm),?_⟩
  ·simp [Instr.mapUpdate,run_underlying hm,MapKept.run_getObj_map hb,run_checkKey hd hkey,run_findKey hd g2,hj,g5,run_keyThatStays hkey,run_setObj_map _ hb,Result.andThen]
  ·rw [modify_set hj]; exact g6 v vv hv
theorem run_mapget {mt kt et:TypeId} {d:TypeDesc} {b ck:Nat} {es:Array MapEntry} {l:List (D×D)} {k:D} {kv z:Value} (hm:P.underlying mt=some (.map kt et)) (hd:P.underlying kt=some d) (hb:w.heap[b]? = some (.map es ck))
  (hl:MpR H l es.toList) (ha:(l.all fun x=>isKD (tkOf P d) x.1)=true) (hk:isKD (tkOf P d) k=true) (hkv:FDx H k kv) (hz:(zeroValue et).run P w=.ok z w) (ok:Bool) :
  ∃ v,(Instr.lookup mt (.map (some b)) kv ok).run P w=.ok (if ok then .tuple #[v,.bool (lookD l k).isSome] else v) w/\(match lookD l k with | some x=>FDx H x v | none=>v=z):=by
 have hkey:IsKey d kv:=(isKD_key (P:=P) hk hk hkv hkv).1
 rcases find_mp hk hkv l es.toList 0 hl ha with ⟨g1,g2,_,_⟩ | ⟨j,x,e,g1,g2,g3,_,_,_⟩
 ·refine ⟨z,?_,by rw [g1]⟩
  rw [g1]
  simp [Instr.lookup,run_underlying hm,MapKept.run_getObj_map hb,run_checkKey hd hkey,run_findKey hd g2,hz,Result.andThen]
 ·refine ⟨e.val,?_,by rw [g1]; exact g3⟩
  rw [g1]
  simp [Instr.lookup,run_underlying hm,MapKept.run_getObj_map hb,run_checkKey hd hkey,run_findKey hd g2,Result.andThen]
end
theorem cell_map {w:World} {b:Nat} {es es':Array MapEntry} {ck ck':Nat} (hb:w.heap[b]? = some (.map es ck)) (a:Addr):({ w with heap:=w.heap.setIfInBounds b (.map es' ck') }:World).cell? a=w.cell? a:=by
 unfold World.cell?
 by_cases h:a.block=b
 ·rw [h,(heap_set hb).1,hb]
 ·rw [(heap_set hb).2 _ h]
theorem walkV_cell {w w':World} (h:∀ a,w'.cell? a=w.cell? a):∀ (p:List Step) (y:Value),walkV w' y p=walkV w y p
 | [],y=>by
  cases y with
  | slice a _ _=>cases a with
   | none=>rfl
   | some a=>obtain ⟨b,o,sp⟩:=a; cases sp <;> rfl
  | _=>rfl
 | [st],y=>by
  cases y with
  | slice a _ _=>cases a with
   | none=>rfl
   | some a=>obtain ⟨b,o,sp⟩:=a; cases sp <;> rfl
  | _=>rfl
 | st::st'::r,y=>by
  cases y with
  | slice a n c=>cases a with
   | none=>rfl
   | some a=>
    obtain ⟨b,o,sp⟩:=a
    cases sp with
    | none=>
     simp only [walkV,h]
     split
     ·exact walkV_cell h (st'::r) _
     ·rfl
    | some _=>rfl
  | _=>rfl
theorem pl_cell {w w':World} (h:∀ a,w'.cell? a=w.cell? a) (γ:Gam) (q:Pl):plA w' γ q=plA w γ q/\plV w' γ q=plV w γ q:=by
 have hr:∀ rc k,rootCell w' rc k=rootCell w rc k:=fun rc k=>by cases rc with
  | blk b=>exact h _
  | gh v=>rfl
 have hA:plA w' γ q=plA w γ q:=by
  unfold plA
  cases q.path with
  | nil=>rfl
  | cons st r=>simp only [hr,walkV_cell h]
 refine ⟨hA,?_⟩
 unfold plV
 cases hp:q.path with
 | nil=>exact hr _ _
 | cons st r=>simp only [hr,walkV_cell h,h]; congr 1; funext a; exact h a
section
variable {P:Program} {g:G} {s:S} {a:Act} {w:World} {H:FH} {γ:Gam} {F:Nm->Fp}
theorem map_at (h:Mem w H γ s.m F) {n:Nm} {off:Nat} {r:Root} {l:List (D×D)} (hr:getR s.m n=some r) (hc:r.cells[off]? = some (.mp l)) :
  ∃ b es ck,rootCell w (γ n) off=some (.map (some b))/\w.heap[b]? = some (.map es ck)/\Stamped es ck/\MpR H l es.toList/\F n b=1:=by
 obtain ⟨v,g',c1,⟨b,es,ck,rfl,c3,c4,c5,c6⟩,c7⟩:=RootR_cell (h.roots _ (getR_mem hr)) hc
 refine ⟨b,es,ck,c1,c3,c4,c5,?_⟩
 have h1:=c7 b
 have h2:=c6 b
 rw [if_pos rfl] at h2
 have h3:=h.le1 b
 have h4:=tot_ge (F:=F) (getR_mem hr) b
 dsimp only at h1 h4
 omega
theorem RX_mapset (h:RX g s a w H γ F) {n:Nm} {off b:Nat} {r:Root} {l l':List (D×D)} {es es':Array MapEntry} {ck ck':Nat} (hr:getR s.m n=some r) (hc:r.cells[off]? = some (.mp l)) (hv:rootCell w (γ n) off=some (.map (some b))) (hb:w.heap[b]? = some (.map es ck))
  (hF:F n b=1) (hs':Stamped es' ck') (hl':MpR H l' es'.toList) :
  RX g ⟨s.t,setR s.m n { r with cells:=r.cells.set off (.mp l') }⟩ a { w with heap:=w.heap.setIfInBounds b (.map es' ck') } H γ F:=by
 have hcell:=fun a=>cell_map (es':=es') (ck':=ck') hb a
 have hset:=heap_set (o':=.map es' ck') hb
 have hget:∀ i,i≠off->(r.cells.set off (.mp l'))[i]? = r.cells[i]? := fun i e=>List.getElem?_set_ne (fun q=>e q.symm)
 have hgo:(r.cells.set off (.mp l'))[off]? = some (.mp l'):=List.getElem?_set_self (lt_of_get hc)
 have hK:Keeps w γ s.m { w with heap:=w.heap.setIfInBounds b (.map es' ck') } γ (setR s.m n { r with cells:=r.cells.set off (.mp l') }):=by
  refine ⟨fun q hq=>⟨?_,(pl_cell hcell γ q).1⟩,fun q hq=>⟨?_,(pl_cell hcell γ q).2⟩⟩
  ·rw [okPl_iff] at hq ⊢
   obtain ⟨r',h1,h2⟩:=hq
   rw [getR_setR hr]
   by_cases e:n=q.root
   ·subst e
    rw [if_pos rfl]
    rw [hr] at h1
    obtain rfl:=Option.some.inj h1
    refine ⟨_,rfl,?_⟩
    unfold okCells at h2 ⊢
    dsimp only
    cases hp:q.path with
    | nil=>rw [hp] at h2; simpa using h2
    | cons st u=>
     rw [hp] at h2
     dsimp only at h2 ⊢
     by_cases eo:q.off=off
     ·rw [eo,hc] at h2; exact h2.elim
     ·rw [hget _ eo]; exact h2
   ·rw [if_neg e]; exact ⟨r',h1,h2⟩
  ·rw [okRf_iff] at hq ⊢
   obtain ⟨r',h1,h2⟩:=hq
   rw [getR_setR hr]
   by_cases e:n=q.root
   ·subst e
    rw [if_pos rfl]
    rw [hr] at h1
    obtain rfl:=Option.some.inj h1
    refine ⟨_,rfl,?_⟩
    unfold okRfCells at h2 ⊢
    dsimp only
    by_cases eo:q.off=off
    ·rw [eo,hgo]; rw [eo,hc] at h2; cases hp:q.path with
     | nil=>trivial
     | cons st u=>rw [hp] at h2; exact h2
    ·rw [hget _ eo]; exact h2
   ·rw [if_neg e]; exact ⟨r',h1,h2⟩
 have hother:∀ x∈s.m,x.1≠n->F x.1 b=0:=fun x hx e=>by
  have:=tot_two (F:=F) (getR_mem hr) hx (fun q=>e q.symm) b
  have:=h.mem.le1 b
  dsimp only at *; omega
 have htot:∀ c,tot F (setR s.m n { r with cells:=r.cells.set off (.mp l') }) c=tot F s.m c:=fun c=>tot_setR
 have htb:tot F s.m b≠0:=by have:=tot_ge (F:=F) (getR_mem hr) b; dsimp only at this; omega
 have hno:∀ o,H b o=none:=h.mem.nofz b htb
 refine RX_step h ⟨fun b' o y hy=>(hcell _).trans (h.mem.agree b' o y hy),fun x hx=>?_,by rw [keys_setR]; exact h.mem.keys,fun c=>by rw [htot]; exact h.mem.le1 c,fun c hc=>?_,fun c hc=>by rw [htot] at hc; exact h.mem.nofz c hc⟩ ?_ (fun i=>AR_keeps hK (fun _ _ _ h=>h) (h.t i)) (fun _=>rfl)
 ·rcases mem_setR h.mem.keys hx with ⟨hn,hx⟩ | rfl
  ·exact RootR_keeps hK (fun _ _ _ h=>h) rfl (fun c hc=>hset.2 c (fun e=>by rw [e] at hc; exact hc (hother x hx hn))) (h.mem.roots x hx)
  ·have hroot:=h.mem.roots _ (getR_mem hr)
   dsimp only at hroot ⊢
   have hle0:∀ c,F n c<=1:=fun c=>by have:=h.mem.le1 c; have:=tot_ge (F:=F) (getR_mem hr) c; dsimp only at this; omega
   have one:∀ (t':T) (gg:Fp) (v:Value),gg b=0->TR w H γ s.m t' gg v->TR _ H γ _ t' gg v:=fun t' gg v h0 ht=>TR_keeps hK (fun _ _ _ h=>h) (fun c hc=>hset.2 c (fun e=>by rw [e] at hc; exact hc h0)) ht
   unfold RootR at hroot ⊢
   dsimp only
   split at hroot
   ·rename_i hbk
    rw [if_pos hbk]
    obtain ⟨b0,cs,ty,fz,gg,q1,q2,q3,q4,q5,q6⟩:=hroot
    rw [q1] at hv
    have hv':cs[off]? = some (.map (some b)):=by simpa [rootCell,World.cell?,q2] using hv
    have hbb:b0≠b:=by rintro rfl; rw [hb] at q2; cases q2
    refine ⟨b0,cs,ty,fz,gg,q1,by rw [hset.2 _ hbb]; exact q2,q3,by rw [List.length_set]; exact q4,?_,q6⟩
    unfold Ts at q5 ⊢
    rw [List.length_set]
    have hgb:gg b=1:=by have:=q6 b; rw [if_neg (fun e=>hbb e.symm)] at this; omega
    have key:∀ (ss:List Unit) (xs:List T) (f:Fp) (vs:List Value) (k:Nat),xs[k]? = some (.mp l)->vs[k]? = some (.map (some b))->f b<=1->Cs (fun _ t=>TR w H γ s.m t) ss xs f vs->Cs (fun _ t=>TR { w with heap:=w.heap.setIfInBounds b (.map es' ck') } H γ (setR s.m n { r with cells:=r.cells.set off (.mp l') }) t) ss (xs.set k (.mp l')) f vs:=by
     intro ss xs
     induction xs generalizing ss with
     | nil=>intro f vs k hk; simp at hk
     | cons x xs ih=>
      intro f vs k hk hvk hf hcs
      cases ss with
      | nil=>exact hcs.elim
      | cons u ss=>
       obtain ⟨v,rr,f1,f2,e1,e2,e3,e4⟩:=hcs
       subst e1
       cases k with
       | zero=>
        obtain rfl:x=.mp l:=by simpa using hk
        obtain rfl:v=.map (some b):=by simpa using hvk
        obtain ⟨b1,_,_,p1,p2,p3,p4,p5⟩:=e3
        obtain rfl:b=b1:=by simpa using p1
        have hb1:f1 b=1:=by rw [p5]; simp
        refine ⟨_,rr,f1,f2,rfl,e2,⟨b,es',ck',rfl,hset.1,hs',hl',p5⟩,Cs_mono _ _ _ _ (fun _ t' gg v hg ht=>one t' gg v (by have:=hg b; have:=e2 b; omega) ht) e4⟩
       | succ k=>
        have hk':xs[k]? = some (.mp l):=by simpa using hk
        have hvk':rr[k]? = some (.map (some b)):=by simpa using hvk
        obtain ⟨_,v',g',_,a2,a3,a4⟩:=Cs_get e4 hk'
        rw [hvk'] at a2
        obtain rfl:=Option.some.inj a2
        obtain ⟨b1,_,_,p1,_,_,_,p5⟩:=a3
        obtain rfl:b=b1:=by simpa using p1
        have h5:=p5 b
        rw [if_pos rfl] at h5
        have h6:=a4 b
        have h7:=e2 b
        exact ⟨_,rr,f1,f2,rfl,e2,one x f1 v (by omega) e3,ih ss f2 rr k hk' hvk' (by omega) e4⟩
    exact key _ _ _ _ _ hc (by simpa using hv') (by omega) q5
   ·rename_i hbk
    rw [if_neg hbk]
    obtain ⟨v,t,q1,q2,q3⟩:=hroot
    rw [q2] at hc ⊢
    cases off with
    | succ k=>simp at hc
    | zero=>
     obtain rfl:t=.mp l:=by simpa using hc
     rw [q1] at hv
     obtain rfl:v=.map (some b):=by simpa [rootCell] using hv
     obtain ⟨b1,_,_,p1,_,_,_,p5⟩:=q3
     obtain rfl:b=b1:=by simpa using p1
     exact ⟨_,.mp l',q1,rfl,b,es',ck',rfl,hset.1,hs',hl',p5⟩
 ·rw [htot] at hc
  have:=h.mem.lt c hc
  simpa using this
 ·refine ⟨by simp,rfl,rfl,rfl,fun c hc h0=>hset.2 c (fun e=>by rw [e] at h0; exact htb h0),fun _ _ _ h=>h,fun c o h1 h2=>absurd h2 h1,fun c hc=>.inl (by rw [htot] at hc; exact hc),fun c h0=>h0.of_block (hset.2 c (fun e=>?_)),fun c o x y z h1 h2=>by rw [h2] at h1; cases h1⟩
  obtain ⟨cs,ty,e2⟩:=h0
  rw [e,hb] at e2; cases e2
theorem RX_mapnew (h:RX g s a w H γ F) {n:Nm} (hno:n.isOut=false) (hn:getR s.m n=none) :
  ∃ γ' F',RX g ⟨s.t,(n,⟨false,[.mp []]⟩)::s.m⟩ a (w.alloc (.map #[] 0)) H γ' F'/\γ' n=.gh (.map (some w.heap.size)):=by
 have hold:∀ k,k<w.heap.size->(w.alloc (.map #[] 0)).heap[k]? = w.heap[k]? := fun k hk=>heap_alloc_old' hk
 have h1:=RX_frame h (w':=w.alloc (.map #[] 0)) (by simp) rfl rfl rfl (fun b hb=>.inl (hold b hb))
 have hz:tot F s.m w.heap.size=0:=by
  rcases Nat.eq_zero_or_pos (tot F s.m w.heap.size) with h' | h'
  ·exact h'
  ·have:=h.mem.lt w.heap.size (by omega); omega
 refine RX_ghost h1 hno hn (v:=.map (some w.heap.size)) (t:=.mp []) (f:=fun b=>if b=w.heap.size then 1 else 0) ⟨w.heap.size,#[],0,rfl,heap_alloc_new',stamped_empty 0,trivial,fun _=>rfl⟩ (fun b=>?_) (fun b hb=>?_) (fun b hb=>?_)
 ·by_cases e:b=w.heap.size
  ·subst e; rw [hz]; simp
  ·rw [if_neg e]; have:=h.mem.le1 b; omega
 ·have e:b=w.heap.size:=by
   by_cases e:b=w.heap.size
   ·exact e
   ·rw [if_neg e] at hb; exact absurd rfl hb
  subst e
  refine ⟨by simp,fun o=>?_⟩
  cases hc:H w.heap.size o with
  | none=>rfl
  | some y=>have:=World.block_lt_of_cell? _ _ (h.mem.agree _ _ _ hc); simp at this
 ·right
  have e:b=w.heap.size:=by
   by_cases e:b=w.heap.size
   ·exact e
   ·rw [if_neg e] at hb; exact absurd rfl hb
  have:=h.fr.size
  omega
theorem AR_map_rf {m:Mm} {n:Nm} {off:Nat} {r:Root} {l:List (D×D)} {v:Value} (hn:getR m n=some r) (hc:r.cells[off]? = some (.mp l)) (hg:rootCell w (γ n) off=some v):AR w H γ m (.one (.c (.rf ⟨n,off,[]⟩))) v:=by
 refine ⟨fun _=>rfl,?_,hg⟩
 rw [okRf_iff]
 refine ⟨_,hn,?_⟩
 unfold okRfCells
 simp only [hc]
end
end Go.Am
end
