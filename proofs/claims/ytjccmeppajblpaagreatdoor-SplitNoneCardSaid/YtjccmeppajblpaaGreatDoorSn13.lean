/-
  Part 13: AmTy · AmE3 · AmE3b · AmE3c · AmE3d · AmE20 · AmAppTwo · AmBuildTwo · AmE3e.
-/
import Derived.Test.YtjccmeppajblpaaGreatDoorSn12
import Derived.Test.YtjccmeppajblpaaGreatDoorChecked
set_option linter.unusedSimpArgs false
set_option linter.unusedVariables false
set_option linter.unusedSectionVars false
set_option linter.unnecessarySimpa false
section
namespace Go.Am
open Go.Proofs
theorem ty2:ty Tryz.prog 2=⟨true,false,1,8,.int .i64⟩:=by kernel_rfl
theorem ty5:ty Tryz.prog 5=⟨true,false,1,1,.int .u8⟩:=by kernel_rfl
theorem ty9:ty Tryz.prog 9=⟨true,false,1,16,.str⟩:=by kernel_rfl
theorem Si:ty Tryz.prog 58=⟨true,false,1,24,.sl 5⟩:=by kernel_rfl
theorem RQ:ty Tryz.prog 152=⟨true,true,20,20,.ar 20 5⟩:=by kernel_rfl
theorem R6:zcells Tryz.prog 152=some [.int .u8 0,.int .u8 0,.int .u8 0,.int .u8 0,.int .u8 0,.int .u8 0,.int .u8 0,.int .u8 0,.int .u8 0,.int .u8 0,.int .u8 0,.int .u8 0,.int .u8 0,.int .u8 0,.int .u8 0,.int .u8 0,.int .u8 0,.int .u8 0,.int .u8 0,.int .u8 0]:=by kernel_rfl
attribute [push_cast] ty2 ty5 ty9 Si RQ R6
end Go.Am
end

section
namespace Go.Am
theorem Gg (c:C):(sct c).toV=sc c.toD:=rfl
theorem vS {n:Int} (h:0<=n/\n < 256):(((UInt8.ofNat n.toNat).toNat:Nat):Int)=n:=by
 have:n.toNat < 256:=by omega
 simp only [UInt8.toNat_ofNat',Nat.reducePow];omega
theorem O0 (x:UInt8):0<=((x.toNat:Nat):Int)/\((x.toNat:Nat):Int) < 256:=by
 have:=x.toNat_lt
 omega
theorem ze {k:IntKind} {n:Int} (h:k=.u8->0<=n/\n < 256):(mkC k n).toD=.int k n:=by
 cases k with
 | u8=>show D.int .u8 _=_; rw [vS (h rfl)]
 | _=>rfl
theorem Rj (n:Int):0<=IntKind.u8.wrap n/\IntKind.u8.wrap n < 256:=by
 have:=wf_wrap (k:=.u8) n
 simp only [Lit.wf,SL,decide_eq_true_eq] at this;have h1:IntKind.u8.min=0:=by decide
 have h2:IntKind.u8.max=255:=by decide
 rw [h1,h2] at this;omega
theorem dg {k:IntKind} {n:Int}:(mkC k (k.wrap n)).toD=.int k (k.wrap n):=ze fun h=>by subst h; exact Rj n
theorem gb {c:C} {k:IntKind} {n:Int} (h:jB c=some (k,n)):c.toD=.int k n/\(k=.u8->0<=n/\n < 256):=by
 unfold jB at h;split at h
 ·rename_i k' n';cases k' <;> simp only [SJ,Prod.mk.injEq,reduceCtorEq] at h <;> (obtain ⟨rfl,rfl⟩:=h; exact ⟨rfl,fun h=>by cases h⟩)
 ·rename_i x;simp only [SJ,Prod.mk.injEq] at h;obtain ⟨rfl,rfl⟩:=h;exact ⟨rfl,fun _=>O0 x⟩
 ·cases h
theorem Ko {k:Nat} {row:List D} (h:ng k=some row):row=gw.map D.str:=by
 unfold ng at h;split at h
 ·first | (cases h; done) | (simp only [SJ] at h; exact h.symm)
 ·cases h
theorem q8 {v:Value} (h:okT v=true):(lD v).toT=mW v:=by
 cases v with
 | int k n=>
  simp only [lD,mW];cases k with
  | u8=>
   simp only [okT,Lit.wf,SL,decide_eq_true_eq] at h;have h1:IntKind.u8.min=0:=by decide
   have h2:IntKind.u8.max=255:=by decide
   rw [h1,h2] at h;have h':0<=n/\n < 256:=by omega
   simp only [h',and_self,if_true,Tt.toT,C.toD,vS h']
  | _=>rfl
 | slice a l c=>cases a with
  | none=>match l,c with
   | 0,0=>rfl
   | 0,_+1=>rfl
   | _+1,_=>rfl
  | some _=>rfl
 | pointer p=>cases p <;> rfl
 | map p=>cases p <;> rfl
 | _=>rfl
theorem af {s:St} {x:Operand} (h:ay x=true):ev s.toS x=(evA s x).toV:=by
 cases x with
 | tmp t=>exact cm t s.t
 | const v=>
  simp only [ay] at h;cases v with
  | agg cs=>
   simp only [ev,evA,cst,P0,At.toV,A1.toV]
   congr 2
   rw [SX];refine S1 fun x hx=>?_
   simp only [okC] at h;exact (q8 (Array.all_eq_true_iff_forall_mem.1 h x (by simpa using hx))).symm
  | _=>
   simp only [ev,evA,cst,P0,At.toV,A1.toV];rw [q8 (by simpa [okC] using h)]
 | func f=>rfl
 | global g=>
  simp only [ay] at h;simp only [ev,evA,Pm];cases hg:ng g with
  | none=>rw [hg] at h; cases h
  | some row=>
   simp only [At.toV,A1.toV,Tt.toT,Ko hg];rfl
section
variable {k:At->Prop}
abbrev up (k:At->Prop):AV->Prop:=fun v=>∃ v',v=v'.toV/\k v'
theorem E6 {c:C} {d:D} (h:k (sct c)) (e:c.toD=d):up k (sc d):=⟨sct c,by rw [Gg,e],h⟩
theorem Mp {c x y:At} (h:rk c x y k):BG c.toV x.toV y.toV (up k):=by
 unfold rk at h;split at h
 ·rename_i b;cases b
  ·rw [if_neg (by simp)] at h; exact ⟨y,rfl,h⟩
  ·rw [if_pos rfl] at h; exact ⟨x,rfl,h⟩
 ·exact h.elim
theorem Rf {a b:Int} (ha:0<=a/\a < 256):0<=a.tmod b/\a.tmod b < 256:=by
 refine ⟨Int.tmod_nonneg _ ha.1,?_⟩;rcases Int.lt_or_le b 0 with h | h
 ·rw [<- Int.tmod_neg];rcases Int.lt_or_le a (-b) with h' | h'
  ·rw [Int.tmod_eq_of_lt ha.1 h']; exact ha.2
  ·have:=Int.tmod_lt_of_pos a (show 0 < -b by omega); omega
 ·rcases Int.lt_or_le a b with h' | h'
  ·rw [Int.tmod_eq_of_lt ha.1 h']; exact ha.2
  ·rcases Int.lt_or_eq_of_le h with h'' | h''
   ·have:=Int.tmod_lt_of_pos a h''; omega
   ·subst h''; rw [Int.tmod_zero]; exact ha.2
theorem RM {a:Int} {m:Nat} (ha:0<=a/\a < 256):0<=a.fdiv (2 ^ m)/\a.fdiv (2 ^ m) < 256:=by
 have hp:(0:Int) < 2 ^ m:=Int.pow_pos (by decide)
 rw [Int.fdiv_eq_ediv_of_nonneg _ (by omega)];refine ⟨Int.ediv_nonneg ha.1 (by omega),?_⟩;have:=Int.ediv_le_self (2 ^ m) ha.1
 omega
theorem Nn {op:BinOp} {x y:C} {K:C->Prop} (h:Dg op x y K):qD op x.toD y.toD (fun d=>∃ c:C,c.toD=d/\K c):=by
 unfold Dg at h;split at h
 ·rename_i a b;cases op <;> first | exact h.elim | exact ⟨_,rfl,h⟩ | exact ⟨h.1,_,rfl,h.2⟩
 ·split at h
  ·rename_i k a k' b hx hy;obtain ⟨ex,rx⟩:=gb hx;obtain ⟨ey,ry⟩:=gb hy;rw [ex,ey];split at h
   ·rename_i hk;unfold Ep at h;cases op <;> simp only [P9,SV,false_or,true_or] at hk <;> simp only [qD]
    case add=>exact ⟨hk,_,dg,h⟩
    case sub=>exact ⟨hk,_,dg,h⟩
    case mul=>exact ⟨hk,_,dg,h⟩
    case quo=>exact ⟨hk,h.1,_,dg,h.2⟩
    case rem=>exact ⟨hk,h.1,_,ze fun e=>Rf (rx e),h.2⟩
    case and=>exact ⟨hk,_,dg,h⟩
    case or=>exact ⟨hk,_,dg,h⟩
    case xor=>exact ⟨hk,_,dg,h⟩
    case andNot=>exact ⟨hk,_,dg,h⟩
    case shl=>exact ⟨h.1,_,dg,h.2⟩
    case shr=>exact ⟨h.1,_,ze fun e=>RM (rx e),h.2⟩
    case eql=>exact ⟨hk,_,rfl,h⟩
    case neq=>exact ⟨hk,_,rfl,h⟩
    case lss=>exact ⟨hk,_,rfl,h⟩
    case leq=>exact ⟨hk,_,rfl,h⟩
    case gtr=>exact ⟨hk,_,rfl,h⟩
    case geq=>exact ⟨hk,_,rfl,h⟩
   ·exact h.elim
  ·exact h.elim
theorem Ej {op:BinOp} {x y:D} {K K':D->Prop} (hk:∀ d,K d->K' d) (h:qD op x y K):qD op x y K':=by
 cases x <;> cases y <;> try exact h.elim
 ·cases op <;> simp only [qD] at h ⊢ <;> first | exact ⟨h.1,h.2.1,hk _ h.2.2⟩ | exact ⟨h.1,hk _ h.2⟩
 ·cases op <;> simp only [qD] at h ⊢ <;> first | exact ⟨h.1,hk _ h.2⟩ | exact hk _ h | exact h.elim
theorem QX {ck:CK} {x y:C} {b:Bool} (h:eqC ck x y=some b):eqD ck x.toD y.toD=some b:=by
 unfold eqC at h;cases ck with
 | i=>
  dsimp only at h;split at h
  ·rename_i k a k' b' hx hy;rw [(gb hx).1,(gb hy).1]; exact h
  ·cases h
 | s=>
  dsimp only at h;split at h
  ·exact h
  ·cases h
 | b=>
  dsimp only at h;split at h
  ·exact h
  ·cases h
theorem zi:∀ {l:List (Nat×CK)} {xs ys:List C} {b:Bool},Iq l xs ys=some b->gy l (xs.map C.toD) (ys.map C.toD)=some b
 | [],_,_,_,h=>h
 | (o,ck)::l,xs,ys,b,h=>by
  unfold Iq at h;unfold gy;rw [SM,SM];cases hx:xs[o]? with
  | none=>rw [hx] at h; cases h
  | some x=>
   cases hy:ys[o]? with
   | none=>rw [hx,hy] at h; cases h
   | some y=>
    rw [hx,hy] at h;dsimp only [Option.map_some] at h ⊢;cases he:eqC ck x y with
    | none=>rw [he] at h; cases h
    | some c=>
     rw [he] at h;rw [QX he];cases l with
     | nil=>exact h
     | cons z l=>
      dsimp only at h ⊢;cases hr:Iq (z::l) xs ys with
      | none=>rw [hr] at h; cases h
      | some r=>rw [hr] at h; rw [zi hr]; exact h
theorem M3 (t:Tt) (h:TD t.toT≠.any\/True):(TC t).toD=TD t.toT:=by
 cases t <;> rfl
theorem O8 {P:Program} {op:BinOp} {t:TypeId} {x y:At} (h:C7 P op t x y k):DK P op t x.toV y.toV (up k):=by
 unfold C7 at h;split at h
 ·rename_i a b;split at h
  ·rename_i ht;refine ⟨ht,?_⟩;cases op <;> first | exact h.elim | exact ⟨_,rfl,h⟩
  ·exact h.elim
 ·rename_i a b hne;have h':=Nn h
  have key:qD op a.toD b.toD (fun d=>up k (sc d)):=by
   refine Ej ?_ h';rintro d ⟨c,rfl,hc⟩
   exact ⟨sct c,rfl,hc⟩
  cases a with
  | bo a=>cases b with
   | bo b=>exact (hne a b rfl rfl).elim
   | _=>exact key
  | _=>exact key
 ·rename_i xs ys;split at h
  ·rename_i l hl;have e1:(xs.map Tt.toT).map TD=(xs.map TC).map C.toD:=by
    rw [SX,SX]; exact S1 fun t _=>(M3 t (.inr trivial)).symm
   have e2:(ys.map Tt.toT).map TD=(ys.map TC).map C.toD:=by
    rw [SX,SX]; exact S1 fun t _=>(M3 t (.inr trivial)).symm
   simp only [At.toV,A1.toV,DK];rw [hl,e1,e2];dsimp only;split at h
   ·rename_i b hb;rw [zi hb]; exact ⟨_,rfl,h⟩
   ·rename_i b hb;rw [zi hb]; exact ⟨_,rfl,h⟩
   ·exact h.elim
  ·exact h.elim
 ·exact h.elim
theorem QB {op:UnOp} {x:At} (h:unT op x k):unK op x.toV (up k):=by
 unfold unT at h;split at h
 ·exact ⟨_,rfl,h⟩
 ·rename_i c;split at h
  ·rename_i κ n hc;simp only [At.toV,A1.toV,Tt.toT,(gb hc).1];exact E6 h dg
  ·exact h.elim
 ·rename_i c;split at h
  ·rename_i κ n hc;simp only [At.toV,A1.toV,Tt.toT,(gb hc).1];exact E6 h dg
  ·exact h.elim
 ·exact h.elim
theorem Bb {x:At} {i:Nat} (h:gN x i k):iF x.toV i (up k):=by
 unfold gN at h;split at h
 ·rename_i vs;split at h
  ·rename_i v hv;simp only [At.toV,iF,SM,hv,Option.map_some];exact ⟨.one v,rfl,h⟩
  ·exact h.elim
 ·exact h.elim
theorem II {x i:At} (h:lN x i k):rh x.toV i.toV (up k):=by
 unfold lN at h;split at h
 ·rename_i l κ n;obtain ⟨⟨h1,h2⟩,h3⟩:=h;simp only [At.toV,A1.toV,Tt.toT,C.toD,rh];refine ⟨h1,?_⟩;rw [SK h2];dsimp only;refine ⟨_,?_,h3⟩;rw [Gg];simp only [C.toD];rw [List.getD,SK h2]; rfl
 ·exact h.elim
theorem zU {x:At} (h:fg x k):j8 x.toV (up k):=by
 unfold fg at h;split at h
 ·exact ⟨_,rfl,h⟩
 ·exact ⟨_,rfl,h⟩
 ·exact ⟨_,rfl,h⟩
 ·exact h.elim
theorem IH {P:Program} {t:TypeId} {x:At} {i:Nat} (h:lV P t x i k):qL P t x.toV i (up k):=by
 unfold lV at h;split at h
 ·rename_i fs ts hk;simp only [At.toV,A1.toV,qL];rw [hk];dsimp only;cases hf:fs[i]? with
  | none=>rw [hf] at h; exact h.elim
  | some f=>
   obtain ⟨off,size,ag⟩:=f;rw [hf] at h
   match ag,h with
   | some false,h=>
    dsimp only at h ⊢;rw [SM];cases ht:ts[off]? with
    | none=>rw [ht] at h; exact h.elim
    | some t'=>rw [ht] at h; exact ⟨_,rfl,h⟩
   | some true,h=>
    dsimp only at h ⊢;split at h
    ·rename_i hb;refine ⟨by rw [List.length_map]; exact SP hb,.one (.agg ((ts.drop off).take size)),?_,h⟩;simp only [At.toV,A1.toV,Ug,Uo]
    ·exact h.elim
   | none,h=>exact h.elim
 ·exact h.elim
theorem Lh {P:Program} {su du:TypeId} {x:At} (h:ro P su du x k):pz P su du x.toV (up k):=by
 unfold ro at h;split at h
 ·rename_i κ0 κ h1 h2;split at h
  ·rename_i c;split at h
   ·rename_i κ1 n hc;simp only [At.toV,A1.toV,Tt.toT,(gb hc).1,pz,h1,h2];exact E6 h dg
   ·exact h.elim
  ·exact h.elim
 ·rename_i e h1 h2;split at h
  ·rename_i h3;split at h
   ·rename_i l;simp only [At.toV,A1.toV,Tt.toT,C.toD,pz,h1,h2];refine ⟨h3,?_⟩;have:∀ l:List UInt8,ji (l.map (ai .b8))=some l:=by
     intro l;induction l with
     | nil=>rfl
     | cons a l ih=>
      simp only [List.map_cons,ai,ji];have ih':ji (l.map (ai .b8))=some l:=ih
      simp only [ai] at ih'
      first
       | rw [ih']
       | (show (ji (l.map (ai .b8))).map _=_; rw [ih])
      simp
    rw [this l];exact ⟨_,rfl,h⟩
   ·simp only [At.toV,A1.toV,Tt.toT,pz,h1,h2];exact ⟨h3,_,rfl,h⟩
   ·exact h.elim
  ·exact h.elim
 ·exact h.elim
end
end Go.Am
end

section
namespace Go.Am
theorem BZ (t:Tt):t.toT.sure=t.sure:=by
 cases t with
 | d c=>cases c <;> rfl
 | _=>rfl
def RH (t:Tt) (t':T):Prop:=t'=t.toT\/∃ sh u l,∃ l':List (List D),t=.ow sh u l/\t'=.ow sh l'/\l'.length=l.length
structure HL (ts:List Tt) (ts':List T):Prop where
 len:ts'.length=ts.length
 nth:∀ (i:Nat) (t:Tt) (t':T),ts[i]? = some t->ts'[i]? = some t'->RH t t'
theorem qF (ts:List Tt):HL ts (ts.map Tt.toT):=by
 refine ⟨by simp,fun i t t' h h'=>?_⟩;rw [SM,h] at h';exact .inl (Option.some.inj h').symm
theorem HL.drop {ts:List Tt} {ts':List T} (h:HL ts ts') (n:Nat):HL (ts.drop n) (ts'.drop n):=
 ⟨by simp [h.len],fun i t t' h1 h2=>by rw [Td] at h1 h2; exact h.nth _ t t' h1 h2⟩
theorem HL.take {ts:List Tt} {ts':List T} (h:HL ts ts') (n:Nat):HL (ts.take n) (ts'.take n):=
 ⟨by simp [h.len],fun i t t' h1 h2=>by
  rw [List.getElem?_take] at h1 h2;split at h1
  ·rename_i hi; rw [if_pos hi] at h2; exact h.nth _ t t' h1 h2
  ·cases h1⟩
theorem jz:∀ (q:List Step) (sub:List Sh) (l:List (List D)) (x:D),(bz sub l x q).length=l.length
 | [],_,_,_=>rfl
 | [st],_,_,_=>by simp [bz]
 | st::st'::r,sub,l,x=>by
  simp only [bz];split
  ·simp
  ·rfl
theorem vK (cells:List Tt) (hole:Option (Nat×Step×List Step)):HL cells (holed (cells.map Tt.toT) hole):=by
 cases hole with
 | none=>exact qF cells
 | some h=>
  obtain ⟨off,st,q⟩:=h;simp only [holed];split
  ·rename_i sub l hc;refine ⟨by simp,fun i t t' h1 h2=>?_⟩;by_cases hi:off=i
   ·subst hi;rw [SM,h1] at hc;have hc':=Option.some.inj hc
    have hlt:off < (cells.map Tt.toT).length:=by
     have:=(Tl.1 h1).1
     simpa using this
    rw [S8 hlt] at h2;have h2':=Option.some.inj h2
    cases t with
    | ow sh u l0=>
     simp only [Tt.toT,T.ow.injEq] at hc';obtain ⟨rfl,rfl⟩:=hc';exact .inr ⟨_,_,_,_,rfl,h2'.symm,by rw [jz]; simp⟩
    | _=>simp [Tt.toT] at hc'
   ·rw [SW hi] at h2;exact (qF cells).nth i t t' h1 h2
  ·exact qF cells
theorem My {t:Tt} {t':T} (h:RH t t') (q:Pl):wb q t'=(Ic q t).toT:=by
 rcases h with rfl | ⟨sh,u,l,l',rfl,rfl,_⟩
 ·cases t <;> rfl
 ·rfl
theorem Nx {ts:List Tt} {ts':List T} (h:HL ts ts') (p:Pl):pK p ts'=(rg p ts).map Tt.toT:=by
 refine Tw fun i=>?_
 simp only [pK,rg,SM,List.getElem?_zipIdx,TJ,Option.map_map];cases h1:ts[i]? with
 | none=>
  have:ts'[i]? = none:=by rw [List.getElem?_eq_none_iff] at h1 ⊢; rw [h.len]; exact h1
  rw [this]; rfl
 | some t=>
  have hlt:i<ts'.length:=by rw [h.len]; exact (Tl.1 h1).1
  rw [SK hlt];simp only [Option.map_some,Function.comp,SJ];exact My (h.nth i t _ h1 (SK hlt)) _
theorem gp {u:U} (l:List (El u)) {i:Nat} (h:i<l.length):(l.map (ai u)).getD i []=ai u (l.getD i (dflt u)):=by
 rw [List.getD,List.getD,SM,SK h]; rfl
theorem ib {u:U} (l:List (El u)) {i:Nat} (h:i<l.length):(l.map (ai u))[i]? = some (ai u (l.getD i (dflt u))):=by
 rw [List.getD,SM,SK h]; rfl
def KI (s:Sh) (c:C):Tt:=match s,c with
 | Sh.fr,x=>Tt.d x
 | Sh.ow s,C.li u' l'=>Tt.ow s u' l'
 | _,_=>Tt.any
theorem KA (s:Sh) (c:C):mkT s c.toD=(KI s c).toT:=by
 cases s with
 | fr=>rfl
 | ow s=>cases c <;> rfl
theorem sF:∀ (s:List Sh) (c:List C),List.zipWith mkT s (c.map C.toD)=(List.zipWith KI s c).map Tt.toT
 | [],_=>by simp
 | _::_,[]=>by simp
 | s::ss,c::cs=>by simp only [List.map_cons,List.zipWith_cons_cons,KA,sF ss cs]
theorem E4:∀ {path:List Step} {sub:List Sh} {u:U} {l:List (El u)} {n:Nat} {ts:List Tt} {K:List T->Prop},okO sub (l.map (ai u)) path->inT sub u l n path=some ts->K (ts.map Tt.toT)->inK sub (l.map (ai u)) n path K
 | [],_,_,_,_,_,_,h,_,_=>h.elim
 | [st],sub,u,l,n,ts,K,h,ht,hK=>by
  obtain ⟨h1,h2,h3⟩:=h;rw [List.length_map] at h1;simp only [inT] at ht;split at ht
  ·rename_i hb;simp only [SJ] at ht;refine ⟨SP hb,?_⟩;rw [ib l h1];dsimp only;rw [<- bp,<- Uo,<- Ug,sF];subst ht;exact hK
  ·cases ht
 | st::st'::r,sub,u,l,n,ts,K,h,ht,hK=>by
  obtain ⟨⟨h1,h2,h3⟩,h4⟩:=h;rw [List.length_map] at h1;simp only [inT] at ht;split at ht
  ·rename_i s u' l' e1 e2;simp only [inK];rw [ib l h1];dsimp only;have e3:(ai u (l.getD st.idx (dflt u)))[st.off]? = some (.li (l'.map (ai u'))):=by
    rw [<- bp,SM,e2]; rfl
   rw [e1,e3];dsimp only;rw [e1,gp l h1,List.getD,e3] at h4;exact E4 h4 ht hK
  ·cases ht
def okP (m:Mm) (p:Pl):Prop:=match p.path with
 | []=>True
 | st::q=>∃ r sub l,aa m p.root=some r/\r.cells[p.off]? = some (.ow sub l)/\okO sub l (st::q)
theorem Mg {m:Mm} {p:Pl} (h:bw m p):okP m p:=by
 unfold okP;split
 ·trivial
 ·rename_i st q hp;unfold bw at h;split at h
  ·exact h.elim
  ·rename_i r hr;rw [hp] at h;dsimp only at h;split at h
   ·rename_i sub l hc; exact ⟨r,sub,l,hr,hc,h⟩
   ·exact h.elim
theorem kD {m:Mm} {p:Pl} (h:fx m p):okP m p:=by
 unfold okP;split
 ·trivial
 ·rename_i st q hp;unfold fx at h;split at h
  ·exact h.elim
  ·rename_i r hr;rw [hp] at h;split at h
   ·simp_all
   ·simp_all
   ·rename_i sub l st' q' hc he;simp only [List.cons.injEq] at he;obtain ⟨rfl,rfl⟩:=he;exact ⟨r,sub,l,hr,hc,h.1⟩
   ·exact h.elim
theorem aT {m:List (Nm×Nat×Rt)} {n:Nm} {r:Rt} (h:bi m n=some r):aa (toM m) n=some r.toR:=by rw [oX,h]; rfl
theorem Gl {ss:List Sh} {xs:List D} {i:Nat} {t:T} (h:(List.zipWith mkT ss xs)[i]? = some t):∃ s x,ss[i]? = some s/\xs[i]? = some x/\t=mkT s x:=by
 rw [List.getElem?_zipWith] at h;cases h1:ss[i]? with
 | none=>rw [h1] at h; simp at h
 | some s=>cases h2:xs[i]? with
  | none=>rw [h1,h2] at h; simp at h
  | some x=>rw [h1,h2] at h; exact ⟨s,x,rfl,rfl,(Option.some.inj h).symm⟩
theorem Lj:∀ {path hp:List Step} {sub:List Sh} {u:U} {l:List (El u)} {n:Nat} {ts:List Tt} {K:List T->Prop},path.length<hp.length->okO sub (bz sub (l.map (ai u)) .any hp) path->inT sub u l n path=some ts->(∀ ts',HL ts ts'->K ts')->inK sub (bz sub (l.map (ai u)) .any hp) n path K
 | [],_,_,_,_,_,_,_,_,h,_,_=>h.elim
 | _::_,[],_,_,_,_,_,_,hlt,_,_,_=>by simp at hlt
 | [_],[_],_,_,_,_,_,_,hlt,_,_,_=>by simp at hlt
 | _::_::_,[_],_,_,_,_,_,_,hlt,_,_,_=>by simp at hlt
 | [st],h::h'::hr,sub,u,l,n,ts,K,hlt,hok,ht,hK=>by
  have hlen:(bz sub (l.map (ai u)) .any (h::h'::hr)).length=l.length:=by rw [jz,List.length_map]
  have hok1:=hok.1
  rw [hlen] at hok1;simp only [inT] at ht;split at ht
  ·rename_i hb;simp only [SJ] at ht;refine ⟨SP hb,?_⟩;have base:((l.map (ai u))[st.idx]?)=some (ai u (l.getD st.idx (dflt u))):=ib l hok1
   have key:∀ x,(bz sub (l.map (ai u)) .any (h::h'::hr))[st.idx]? = some x->(x=ai u (l.getD st.idx (dflt u))\/∃ s l1,sub[h.off]? = some (.ow s)/\(ai u (l.getD st.idx (dflt u)))[h.off]? = some (.li l1)/\x=(ai u (l.getD st.idx (dflt u))).set h.off (.li (bz s l1 .any (h'::hr)))):=by
    intro x hx;simp only [bz] at hx;split at hx
    ·rename_i s l1 e1 e2;rw [Tp] at hx;split at hx
     ·rename_i ei;split at hx
      ·have hx':=Option.some.inj hx
       rw [ei,gp l hok1] at e2 hx';refine .inr ⟨s,l1,e1,?_,hx'.symm⟩;rw [List.getD] at e2;cases h3:(ai u (l.getD st.idx (dflt u)))[h.off]? with
       | none=>rw [h3] at e2; cases e2
       | some d=>rw [h3] at e2; simp only [Option.getD_some] at e2; rw [e2]
      ·cases hx
     ·rw [base] at hx; exact .inl (Option.some.inj hx).symm
    ·rw [base] at hx; exact .inl (Option.some.inj hx).symm
   have hlt2:st.idx < (bz sub (l.map (ai u)) .any (h::h'::hr)).length:=by rw [hlen]; exact hok1
   rw [SK hlt2];dsimp only;rcases key _ (SK hlt2) with e | ⟨s,l1,e1,e2,e⟩
   ·rw [e,<- bp,<- Uo,<- Ug,sF];subst ht;exact hK _ (qF _)
   ·rw [e];refine hK _ ?_;subst ht;have hbase:List.zipWith mkT ((sub.drop st.off).take n) (((ai u (l.getD st.idx (dflt u))).drop st.off).take n)=(List.zipWith KI ((sub.drop st.off).take n) (((flat u (l.getD st.idx (dflt u))).drop st.off).take n)).map Tt.toT:=by
     rw [<- bp,<- Uo,<- Ug,sF]
    refine ⟨?_,fun i t t' a1 a2=>?_⟩
    ·have hl:=congrArg List.length hbase
     simp only [List.length_map] at hl;have hx:∀ ys:List D,(List.zipWith mkT ((sub.drop st.off).take n) ((ys.drop st.off).take n)).length=min (min n (sub.length-st.off)) (min n (ys.length-st.off)):=by
      intro ys; simp
     refine Eq.trans ?_ hl;rw [hx,hx,S3]
    ·obtain ⟨s0,x0,b1,b2,b3⟩:=Gl a2;have a1':((List.zipWith KI ((sub.drop st.off).take n) (((flat u (l.getD st.idx (dflt u))).drop st.off).take n)).map Tt.toT)[i]? = some t.toT:=by
      rw [SM];have:(List.zipWith KI ((sub.drop st.off).take n) (((flat u (l.getD st.idx (dflt u))).drop st.off).take n))[i]? = some t:=a1
      rw [this]; rfl
     rw [<- hbase] at a1';obtain ⟨s1,x1,c1,c2,c3⟩:=Gl a1';rw [b1] at c1;obtain rfl:=Option.some.inj c1;rw [List.getElem?_take] at b1 b2 c2;split at b2
     ·rename_i hin;rw [if_pos hin] at b1 c2;rw [Td] at b1 b2 c2;rw [Tp] at b2;split at b2
      ·rename_i eo;rw [<- eo] at b1 c2;rw [e1] at b1;obtain rfl:=Option.some.inj b1;rw [e2] at c2;obtain rfl:=Option.some.inj c2;split at b2
       ·obtain rfl:=Option.some.inj b2;rw [b3];cases t with
        | ow sh2 u2 l2=>
         simp only [mkT,Tt.toT,T.ow.injEq] at c3;obtain ⟨rfl,e5⟩:=c3;refine .inr ⟨_,_,_,_,rfl,rfl,?_⟩;rw [jz,<- e5,List.length_map]
        | _=>simp [mkT,Tt.toT] at c3
       ·cases b2
      ·rw [b2] at c2;obtain rfl:=Option.some.inj c2;rw [b3,<- c3]; exact .inl rfl
     ·cases b2
  ·cases ht
 | st::st'::r,h::h'::hr,sub,u,l,n,ts,K,hlt,hok,ht,hK=>by
  have hlen:(bz sub (l.map (ai u)) .any (h::h'::hr)).length=l.length:=by rw [jz,List.length_map]
  obtain ⟨⟨hi,hz,ho⟩,hok2⟩:=hok;rw [hlen] at hi;simp only [inT] at ht;split at ht
  ·rename_i s u' l' e1 e2;have base:((l.map (ai u))[st.idx]?)=some (ai u (l.getD st.idx (dflt u))):=ib l hi
   have e3:(ai u (l.getD st.idx (dflt u)))[st.off]? = some (.li (l'.map (ai u'))):=by
    rw [<- bp,SM,e2]; rfl
   have key:∃ x,(bz sub (l.map (ai u)) .any (h::h'::hr))[st.idx]? = some x/\(x[st.off]? = some (.li (l'.map (ai u')))\/x[st.off]? = some (.li (bz s (l'.map (ai u')) .any (h'::hr)))):=by
    simp only [bz];split
    ·rename_i s1 l1 f1 f2;rw [Tp];split
     ·rename_i ei;rw [if_pos (by rw [List.length_map,ei]; exact hi)];refine ⟨_,rfl,?_⟩;rw [ei,gp l hi] at f2 ⊢;rw [Tp];split
      ·rename_i eo;rw [eo] at f1 f2;rw [e1] at f1;simp only [SJ,Sh.ow.injEq] at f1;subst f1;rw [List.getD,e3,Option.getD_some] at f2;simp only [D.li.injEq] at f2;subst f2;rw [if_pos (by rw [eo]; exact ae e3)];exact .inr rfl
      ·exact .inl e3
     ·exact ⟨_,base,.inl e3⟩
    ·exact ⟨_,base,.inl e3⟩
   obtain ⟨x,hx,hx2⟩:=key;have hg:(bz sub (l.map (ai u)) .any (h::h'::hr)).getD st.idx []=x:=by rw [List.getD,hx]; rfl
   rw [e1,hg] at hok2;simp only [inK];rw [hx];dsimp only;rw [e1];rcases hx2 with hx2 | hx2
   ·rw [List.getD,hx2] at hok2;rw [hx2];dsimp only at hok2 ⊢;exact E4 hok2 ht (hK _ (qF _))
   ·rw [List.getD,hx2] at hok2;rw [hx2];dsimp only at hok2 ⊢;exact Lj (by simpa using hlt) hok2 ht hK
  ·cases ht
theorem D7 {m:List (Nm×Nat×Rt)} {p:Pl} {n:Nat} {ts:List Tt} {K:List T->Prop} (hp:okP (toM m) p) (h:atT m p n=some ts) (hK:∀ ts',HL ts ts'->K ts'):atK (toM m) p n K:=by
 unfold atT at h;split at h
 ·cases h
 ·rename_i r hr;unfold atK;rw [aT hr];dsimp only;unfold okP at hp;split at h
  ·rename_i hpath;rw [hpath];split at h
   ·rename_i hb;simp only [SJ] at h;have hH:=vK r.cells r.hole
    refine ⟨?_,hK _ ?_⟩
    ·show p.off+n<=(holed (r.cells.map Tt.toT) r.hole).length
     rw [hH.len]; exact SP hb
    ·subst h; exact (hH.drop _).take _
   ·cases h
  ·rename_i st q hpath;rw [hpath] at hp ⊢;split at h
   ·rename_i sub u l hhole hc;obtain ⟨r',sub',l',e1,e2,e3⟩:=hp;rw [aT hr] at e1;obtain rfl:=Option.some.inj e1;have plain:r.toR.cells[p.off]? = some (.ow sub (l.map (ai u)))->(match st::q,r.toR.cells[p.off]? with
      | [],_=>p.off+n<=r.toR.cells.length/\K ((r.toR.cells.drop p.off).take n)
      | st::q,some (.ow sub l)=>inK sub l n (st::q) K
      | _,_=>False):=by
     intro ec;rw [ec] at e2 ⊢;have e2':=Option.some.inj e2
     simp only [T.ow.injEq] at e2';obtain ⟨rfl,rfl⟩:=e2';exact E4 e3 h (hK _ (qF ts))
    cases hho:r.hole with
    | none=>
     refine plain ?_;show (holed (r.cells.map Tt.toT) r.hole)[p.off]? = _
     rw [hho];show (r.cells.map Tt.toT)[p.off]? = _
     rw [SM,hc]; rfl
    | some hh=>
     obtain ⟨off,st',q'⟩:=hh;rw [hho] at hhole;have hlt:(st::q).length < (st'::q').length:=SP hhole
     by_cases hoff:off=p.off
     ·subst hoff;have hlt2:p.off < (r.cells.map Tt.toT).length:=by rw [List.length_map]; exact (Tl.1 hc).1
      have ec:r.toR.cells[p.off]? = some (.ow sub (bz sub (l.map (ai u)) .any (st'::q'))):=by
       show (holed (r.cells.map Tt.toT) r.hole)[p.off]? = _
       rw [hho];simp only [holed];rw [SM,hc];simp only [Option.map_some,Tt.toT];rw [S8 hlt2]
      rw [ec] at e2 ⊢;have e2':=Option.some.inj e2
      simp only [T.ow.injEq] at e2';obtain ⟨rfl,rfl⟩:=e2';exact Lj hlt e3 h hK
     ·refine plain ?_;show (holed (r.cells.map Tt.toT) r.hole)[p.off]? = _
      rw [hho];simp only [holed];split
      ·rw [SW hoff,SM,hc]; rfl
      ·rw [SM,hc]; rfl
   ·cases h
theorem s6 {m:List (Nm×Nat×Rt)} {p:Pl} {sh:List Sh} {u:U} {l:List (El u)} {K:List T->Prop} (hp:okP (toM m) p) (h:sliceAt m p=some ⟨sh,u,l⟩) (hK:∀ l':List (List D),l'.length=l.length->K [.ow sh l']):atK (toM m) p 1 K:=by
 unfold sliceAt at h;split at h
 ·rename_i sh' u' l' ht;cases h;refine D7 hp ht (fun ts' hH=>?_);have hl:=hH.len
  match ts',hl with
  | [t'],_=>
   rcases hH.nth 0 _ _ rfl rfl with e | ⟨sh2,u2,l2,l3,e1,e2,e3⟩
   ·rw [e]; exact hK _ (by simp)
   ·simp only [Tt.ow.injEq] at e1;obtain ⟨rfl,rfl,e5⟩:=e1;have e5':=eq_of_heq e5
    subst e5';rw [e2]; exact hK _ e3
 ·cases h
section
variable {k:At->Prop} {m:List (Nm×Nat×Rt)}
theorem zd {gd:Option (Nat×Bool)} {n:Nat} {q:Prop} (h:gift gd n q):n<=4611686018427387904->q:=by
 cases gd with
 | none=>exact h
 | some _=>exact fun _=>h
theorem NN {gd:Option (Nat×Bool)} {x:At} {k:Nat->Prop} (hp:∀ p,x=.one (.c (.rf p))->okP (toM m) p) (h:C5 gd m x k):Cv (toM m) x.toV k:=by
 unfold C5 at h;split at h
 ·exact zd h
 ·simp only [At.toV,A1.toV,Tt.toT,C.toD,Cv,List.length_map]; exact zd h
 ·exact h
 ·rename_i p;split at h
  ·rename_i sh u l hs;simp only [At.toV,A1.toV,Tt.toT,Cv];refine s6 (hp p rfl) hs (fun l' hl=>?_);dsimp only;rw [hl]; exact zd h
  ·exact h.elim
 ·exact h.elim
theorem im {x:Option At} {d:Nat} {k:Nat->Prop} (h:dZ x d k):fA (x.map At.toV) d k:=by
 unfold dZ at h;split at h
 ·exact h
 ·exact h
 ·exact h.elim
theorem IM {P:Program} {t:TypeId} {x:At} {lo hi:Option At} (h:lQ P t x lo hi k):jR P t x.toV (lo.map At.toV) (hi.map At.toV) (up k):=by
 have bmono:∀ {y:Option At} {d:Nat} {k1 k2:Nat->Prop},(∀ n,k1 n->k2 n)->dZ y d k1->dZ y d k2:=by
  intro y d k1 k2 hk hb;unfold dZ at hb ⊢;split at hb
  ·exact hk _ hb
  ·exact ⟨hb.1,hk _ hb.2⟩
  ·exact hb.elim
 unfold lQ at h;split at h
 ·rename_i l;split at h
  ·rename_i ht;refine ⟨ht,im (bmono (fun a ha=>im (bmono (fun b hb=>?_) ha)) h)⟩;exact ⟨hb.1,_,rfl,hb.2⟩
  ·exact h.elim
 ·rename_i u l;split at h
  ·rename_i e ht;split at h
   ·rename_i hc;simp only [SL] at hc;simp only [At.toV,A1.toV,Tt.toT,C.toD,jR,ht];refine ⟨hc.1,fun y hy=>?_,im (bmono (fun a ha=>?_) h)⟩
    ·obtain ⟨z,_,rfl⟩:=S9.1 hy;rw [gJ]; exact SO hc.2
    ·rw [List.length_map];refine im (bmono (fun b hb=>?_) ha);exact ⟨hb.1,_,by simp only [At.toV,A1.toV,Tt.toT,C.toD,Ug,Uo],hb.2⟩
   ·exact h.elim
  ·exact h.elim
 ·split at h
  ·rename_i e ht;split at h
   ·rename_i hc;simp only [At.toV,A1.toV,Tt.toT,jR,ht];refine ⟨hc,im (bmono (fun a ha=>im (bmono (fun b hb=>?_) ha)) h)⟩;exact ⟨hb.1,hb.2.1,_,rfl,hb.2.2⟩
   ·exact h.elim
  ·exact h.elim
 ·exact h.elim
theorem mn {p:Pl} {n:Nat} (h:gE m p n=true):gn (toM m) p n:=by
 unfold gE at h;split at h
 ·cases h
 ·rename_i r hr;unfold gn room;rw [aT hr];dsimp only;have hH:=vK r.cells r.hole
  split at h
  ·rename_i hpath;rw [hpath];show n < (holed (r.cells.map Tt.toT) r.hole).length-p.off
   rw [hH.len];exact SP h
  ·rename_i st q sub u l hpath hc;rw [hpath];split at h
   ·rename_i k hk;have hlt:=(Tl.1 hc).1
    have hlt':p.off < (holed (r.cells.map Tt.toT) r.hole).length:=by rw [hH.len]; exact hlt
    have:=hH.nth p.off _ _ hc (SK hlt')
    have e:∃ l',r.toR.cells[p.off]? = some (.ow sub l'):=by
     rcases this with e | ⟨sh,u2,l2,l3,e1,e2,_⟩
     ·exact ⟨_,by show (holed _ _)[p.off]? = _; rw [SK hlt',e]; rfl⟩
     ·simp only [Tt.ow.injEq] at e1;obtain ⟨rfl,_,_⟩:=e1;exact ⟨l3,by show (holed _ _)[p.off]? = _; rw [SK hlt',e2]⟩
    obtain ⟨l',e⟩:=e;rw [e];dsimp only;rw [hk];exact SP h
   ·cases h
  ·cases h
theorem wv {P:Program} {t:TypeId} {x:At} {i:Nat} (h:dL P m t x i k):eL P (toM m) t x.toV i (up k):=by
 unfold dL at h;split at h
 ·rename_i fs ht;unfold eL;rw [ht];dsimp only;cases hf:fs[i]? with
  | none=>rw [hf] at h; exact h.elim
  | some f=>
   obtain ⟨off,size,ag⟩:=f;rw [hf] at h;cases size with
   | zero=>exact h.elim
   | succ size=>
    dsimp only at h ⊢;refine ⟨by omega,?_⟩;split at h
    ·split at h
     ·rename_i hr; exact ⟨mn hr,_,rfl,h⟩
     ·exact h.elim
    ·exact ⟨_,rfl,h⟩
    ·exact h.elim
 ·exact h.elim
theorem wn {P:Program} {t:TypeId} {x i:At} (hp:∀ p,x=.one (.c (.rf p))->okP (toM m) p) (h:dH P m t x i k):eX P (toM m) t x.toV i.toV (up k):=by
 unfold dH at h;split at h
 ·rename_i κ n;simp only [At.toV,A1.toV,Tt.toT,C.toD,eX];split at h
  ·rename_i e ht;rw [ht];split at h
   ·rename_i u l;split at h
    ·rename_i hc;simp only [SL] at hc;obtain ⟨⟨h1,h2⟩,h3⟩:=h;simp only [At.toV,A1.toV,Tt.toT,C.toD];refine ⟨hc.1,h1,?_⟩;rw [ib l h2];dsimp only;refine ⟨by rw [gJ]; exact SO hc.2,_,?_,h3⟩;simp only [At.toV,A1.toV,Tt.toT,bp]
    ·exact h.elim
   ·rename_i p;split at h
    ·rename_i hc;simp only [SL] at hc;split at h
     ·rename_i sh u l hs;split at h
      ·rename_i hb;obtain ⟨h1,h2⟩:=h;simp only [At.toV,A1.toV,Tt.toT];refine ⟨hc.1,by have:=SP hc.2; omega,s6 (hp p rfl) hs (fun l' hl=>?_)⟩;dsimp only;exact ⟨⟨h1.1,by rw [hl]; exact h1.2⟩,SO hb,_,rfl,h2⟩
      ·exact h.elim
     ·exact h.elim
    ·exact h.elim
   ·exact h.elim
  ·rename_i N e ht;rw [ht];split at h
   ·rename_i u l i;split at h
    ·rename_i hc;simp only [SL] at hc;obtain ⟨h1,h2⟩:=h;simp only [At.toV,A1.toV,Tt.toT];refine ⟨hc.1.1,h1,_,?_,h2⟩;simp only [At.toV,A1.toV,Tt.toT];rw [SO hc.1.2,Nat.mul_one,Nat.add_comm];rfl
    ·exact h.elim
   ·rename_i p;split at h
    ·rename_i hc;simp only [SL] at hc;obtain ⟨h1,h2⟩:=h;simp only [At.toV,A1.toV,Tt.toT];exact ⟨hc.1,h1,mn hc.2,_,rfl,h2⟩
    ·exact h.elim
   ·exact h.elim
  ·exact h.elim
 ·exact h.elim
theorem tX {P:Program} {t:TypeId} {x:At} (hp:∀ p,x=.one (.c (.pl p))->okP (toM m) p) (h:jH P m t x k):og P (toM m) t x.toV (up k):=by
 unfold jH at h;split at h
 ·rename_i hok;refine ⟨hok,?_⟩;split at h
  ·rename_i row o;simp only [At.toV,A1.toV,Tt.toT];split at h
   ·rename_i ha;rw [if_pos ha];split at h
    ·rename_i hb;refine ⟨by rw [List.length_map]; exact SP hb,fun _=>⟨_,?_,h⟩⟩;simp only [At.toV,A1.toV,AV.one.injEq,AV1.agg.injEq];rw [SX,<- Uo,<- Ug,SX];rfl
    ·exact h.elim
   ·rename_i ha;rw [if_neg (by rw [ha]; simp),SM];split at h
    ·rename_i c hc; rw [hc]; exact fun _=>⟨_,rfl,h⟩
    ·exact h.elim
  ·rename_i u l i;simp only [At.toV,A1.toV,Tt.toT];split at h
   ·rename_i ha hl;have e:l[i]? = some (l.getD i (dflt u)):=by rw [List.getD_eq_getElem?_getD,SK h.1]; rfl
    rw [if_neg (by rw [ha]; simp),SM,e];exact fun _=>⟨_,rfl,h.2⟩
   ·exact h.elim
  ·rename_i p;simp only [At.toV,A1.toV,Tt.toT];split at h
   ·rename_i ha;rw [if_pos ha];split at h
    ·rename_i ts hts;refine D7 (hp p rfl) hts (fun ts' hH=>fun _=>⟨_,?_,h⟩);simp only [At.toV,A1.toV,Nx hH]
    ·exact h.elim
   ·rename_i ha;rw [if_neg (by rw [ha]; simp)];split at h
    ·rename_i t' hts;refine D7 (hp p rfl) hts (fun ts' hH=>?_);have hl:=hH.len
     match ts',hl with
     | [t''],_=>
      dsimp only;refine fun _=>⟨_,?_,h⟩
      simp only [At.toV,A1.toV];rw [My (hH.nth 0 _ _ rfl rfl)]
    ·exact h.elim
  ·exact h.elim
 ·exact h.elim
theorem nH (x:At):dx x.toV=(jv x).map (·.map Tt.toT):=by
 cases x with
 | one x=>cases x <;> rfl
 | _=>rfl
theorem JF {α β:Type} (f:α->β) (ts cs:List α) (off:Nat):(overw ts off cs).map f=overw (ts.map f) off (cs.map f):=by
 simp only [overw,TP,Ug,Uo,List.length_map]
theorem mQ {pl:Nat->Option (Nat×Nat)}:∀ {parts:List (Nat×At)} {ts ts':List Tt},jW pl ts parts=some ts'->gX pl (ts.map Tt.toT) (parts.map fun x=>(x.1,x.2.toV))=some (ts'.map Tt.toT)
 | [],ts,ts',h=>by simp only [jW,SJ] at h; subst h; rfl
 | (i,x)::r,ts,ts',h=>by
  simp only [jW] at h;simp only [List.map_cons,gX];cases hpl:pl i with
  | none=>rw [hpl] at h; cases h
  | some q=>
   obtain ⟨off,size⟩:=q;cases hc:jv x with
   | none=>rw [hpl,hc] at h; cases h
   | some cs=>
    rw [hpl,hc] at h;dsimp only at h;split at h
    ·rename_i hb;simp only [SL] at hb;rw [nH,hc];dsimp only [Option.map_some];have hs:(cs.map Tt.toT).all T.sure=true:=by
      rw [UG];rw [<- hb.2]
      congr 1
      funext t; exact BZ t
     rw [if_pos ⟨by rw [List.length_map]; exact SO hb.1.1,by rw [List.length_map,List.length_map]; exact SP hb.1.2,hs⟩];rw [<- JF];exact mQ h
    ·cases h
theorem qI {s:St} {ps:Array (Nat×Operand)} (h:(ps.toList.all fun x=>ay x.2)=true):iP s.toS ps=(dA s ps).map fun x=>(x.1,x.2.toV):=by
 unfold iP dA;rw [SX];refine S1 fun x hx=>?_
 simp only [Function.comp];rw [af (SQ.1 h x hx)]
theorem FQ {zs:List Value} (h:zs.all okT=true):(zs.map lD).map Tt.toT=zs.map mW:=by
 rw [SX];exact S1 fun x hx=>q8 (SQ.1 h x hx)
theorem NR {P:Program} {t:TypeId} {zs:List Value} {pl:List (Nat×Nat)} (h:zst P t=some (zs,pl)):zs.all okT=true:=by
 unfold zst at h;split at h
 ·split at h
  ·split at h
   ·rename_i hall;simp only [SJ,Prod.mk.injEq] at h;obtain ⟨rfl,_⟩:=h;simpa using hall
   ·cases h
  ·cases h
 ·split at h
  ·split at h
   ·rename_i hall;simp only [SJ,Prod.mk.injEq] at h;obtain ⟨rfl,_⟩:=h;simpa using hall
   ·cases h
  ·cases h
 ·cases h
theorem JA {P:Program} {t:TypeId} {parts:List (Nat×At)} (h:mv P t parts k):nv P t (parts.map fun x=>(x.1,x.2.toV)) (up k):=by
 unfold mv at h;split at h
 ·rename_i zs places hz;split at h
  ·rename_i ts hf;unfold nv;rw [hz];dsimp only;have:=mQ hf
   rw [FQ (NR hz)] at this;rw [this];exact ⟨.one (.agg ts),rfl,h⟩
  ·exact h.elim
 ·exact h.elim
end
end Go.Am
end

section
namespace Go.Am
theorem gM (bad:Bool->Pl->Bool) (t:Tt):(t.kill bad).toT=t.toT.kill bad:=by
 cases t with
 | pl p=>
  show (if bad false p=true then Tt.any else Tt.pl p).toT=if bad false p=true then T.any else T.pl p
  by_cases h:bad false p=true <;> simp [h,Tt.toT]
 | rf p=>
  show (if bad true p=true then Tt.any else Tt.rf p).toT=if bad true p=true then T.any else T.rf p
  by_cases h:bad true p=true <;> simp [h,Tt.toT]
 | _=>rfl
theorem vi (bad:Bool->Pl->Bool) (ts:List Tt):(ts.map (·.kill bad)).map Tt.toT=(ts.map Tt.toT).map (·.kill bad):=by
 rw [SX,SX]; exact S1 fun t _=>gM bad t
theorem rW (bad:Bool->Pl->Bool) (x:A1):(x.kill bad).toV=x.toV.kill bad:=by
 cases x with
 | c t=>simp only [A1.kill,A1.toV,AV1.kill,gM]
 | agg ts=>simp only [A1.kill,A1.toV,AV1.kill,vi]
theorem Br (bad:Bool->Pl->Bool) (x:At):(x.kill bad).toV=x.toV.kill bad:=by
 cases x with
 | one x=>simp only [At.kill,At.toV,AV.kill,rW]
 | tup xs=>
  simp only [At.kill,At.toV,AV.kill]
  congr 1
  rw [SX,SX]; exact S1 fun t _=>rW bad t
 | any=>rfl
theorem iC {bad:Bool->Pl->Bool} {t:Tt} (h:t.hit bad=false):t.kill bad=t:=by
 cases t with
 | pl p=>simp only [Tt.hit] at h; simp [Tt.kill,h]
 | rf p=>simp only [Tt.hit] at h; simp [Tt.kill,h]
 | _=>rfl
theorem mq {bad:Bool->Pl->Bool}:∀ {ts:List Tt},ts.any (·.hit bad)=false->ts.map (·.kill bad)=ts
 | [],_=>rfl
 | t::ts,h=>by
  simp only [UP,Uk] at h;rw [List.map_cons,iC h.1,mq h.2]
theorem tx {bad:Bool->Pl->Bool} {x:A1} (h:x.hit bad=false):x.kill bad=x:=by
 cases x with
 | c t=>simp only [A1.kill,iC (show t.hit bad=false from h)]
 | agg ts=>simp only [A1.kill,mq (show ts.any _=false from h)]
theorem Dp {bad:Bool->Pl->Bool} {x:At} (h:x.hit bad=false):x.kill bad=x:=by
 cases x with
 | one x=>simp only [At.kill,tx (show x.hit bad=false from h)]
 | tup xs=>
  simp only [At.hit] at h;simp only [At.kill]
  congr 1
  induction xs with
  | nil=>rfl
  | cons x xs ih=>
   simp only [UP,Uk] at h;rw [List.map_cons,tx h.1,ih h.2]
 | any=>rfl
theorem D9 (bad:Bool->Pl->Bool) (cells:List Tt) (hole:Option (Nat×Step×List Step)) :
  holed ((cells.map (·.kill bad)).map Tt.toT) hole=(holed (cells.map Tt.toT) hole).map (·.kill bad):=by
 rw [vi];cases hole with
 | none=>rfl
 | some h=>
  obtain ⟨off,st,q⟩:=h;simp only [holed];rw [SM (f:=fun t=>T.kill bad t)];cases hc:(cells.map Tt.toT)[off]? with
  | none=>rfl
  | some t=>
   simp only [Option.map_some];cases t with
   | ow sub l=>simp only [T.kill,Tv]
   | pl p=>by_cases h:bad false p=true <;> simp [T.kill,h]
   | rf p=>by_cases h:bad true p=true <;> simp [T.kill,h]
   | _=>rfl
theorem r9 (bad:Bool->Pl->Bool) (r:Rt):(r.kill bad).toR={ r.toR with cells:=r.toR.cells.map (·.kill bad) }:=by
 simp only [Rt.toR,Rt.kill,D9]
theorem ik (bad:Bool->Pl->Bool) (nx:Nat) (t:List (Nat×Nat×At)):(iT bad nx t).map (fun x=>(x.1,x.2.2.toV))=iZ bad (t.map fun x=>(x.1,x.2.2.toV)):=by
 simp only [iT,iZ,SX];exact S1 fun x _=>by simp only [Function.comp,Br]
theorem dF (bad:Bool->Pl->Bool) (nx:Nat) (m:List (Nm×Nat×Rt)):toM (bN bad nx m)=au bad (toM m):=by
 simp only [toM,bN,au,SX];exact S1 fun x _=>by simp only [Function.comp,r9]
theorem zL {bad:Bool->Pl->Bool} {nx:Nat} {m:List (Nm×Nat×Rt)}:ND (bN bad nx m) ↔ ND m:=by
 simp only [ND,bN,SX]; exact Iff.rfl
theorem vw {n k:Nm}:∀ {m:List (Nm×Nat×Rt)},k∈(d9 m n).map (·.1)->k∈m.map (·.1)/\k≠n
 | [],h=>by simp [d9] at h
 | (k',j,v)::m,h=>by
  simp only [d9] at h;split at h
  ·have:=vw h; exact ⟨S4 _ this.1,this.2⟩
  ·rename_i hk;simp only [List.map_cons,SS] at h;rcases h with rfl | h
   ·exact ⟨by simp,hk⟩
   ·have:=vw h; exact ⟨S4 _ this.1,this.2⟩
theorem EI {n:Nm}:∀ {m:List (Nm×Nat×Rt)},ND m->ND (d9 m n)
 | [],_=>by simp [ND,d9]
 | (k,j,v)::m,h=>by
  have h':k ∉ m.map (·.1)/\(m.map (·.1)).Nodup:=by simpa [ND] using h
  simp only [d9];split
  ·exact EI h'.2
  ·have:=EI (n:=n) h'.2
   simp only [ND,List.map_cons,Ti];exact ⟨fun hm=>h'.1 (vw hm).1,this⟩
theorem xI (n:Nm) (i:Nat) (r:Rt):∀ m:List (Nm×Nat×Rt),(cO m n i r).map (·.1)=m.map (·.1)
 | []=>rfl
 | (k,j,v)::m=>by
  simp only [cO];split
  ·rfl
  ·simp only [List.map_cons,xI n i r m]
theorem fd {g:G} {s:St} {a:Act} {w:World} {H:FH} {γ:Gam} {F:Nm->Fp} (h:RX g s.toS a w H γ F):ND s.m:=by
 have:=h.mem.keys
 have e:s.toS.m.map (·.1)=s.m.map (·.1):=by simp only [St.toS,SX]; rfl
 rw [e] at this; exact this
theorem aZ {s:St} {n:Nm} (h:ND s.m):(s.drop n).toS=s.toS.drop n:=by
 have h1:=ik (bv n) s.nx s.t
 have h2:=dF (bv n) s.nx (d9 s.m n)
 rw [l8 n s.m h] at h2;exact S_ext h1 h2
where
 S_ext {t t':List (Nat×AV)} {m m':Mm} (h1:t=t') (h2:m=m'):(⟨t,m⟩:S)=⟨t',m'⟩:=by rw [h1,h2]
theorem Il {s:St} {n:Nm} (h:ND s.m):ND (s.drop n).m:=zL.2 (EI h)
theorem bk {s:St} {n:Nm} (h:ND s.m):(s.fresh n).toS=s.toS.fresh n:=by
 unfold St.fresh S.fresh;have e:aa s.toS.m n=(bi s.m n).map Rt.toR:=oX n s.m
 rw [e];cases hm:bi s.m n with
 | none=>rfl
 | some r=>exact aZ h
def SEq (s s':S):Prop:=(∀ i,aE s.t i=aE s'.t i)/\s.m=s'.m
theorem bE {g:G} {s s':S} {a:Act} {w:World} {H:FH} {γ:Gam} {F:Nm->Fp} (e:SEq s s') (h:RX g s a w H γ F):RX g s' a w H γ F:=by
 obtain ⟨t,m⟩:=s;obtain ⟨t',m'⟩:=s';obtain ⟨e1,e2⟩:=e;dsimp only at e1 e2;subst e2;exact ⟨h.mem,h.fr,h.nt,h.df,fun i=>by rw [<- e1 i]; exact h.t i⟩
theorem ya {g:G} {s s':S} {a:Act} {w:World} (e:SEq s s') (h:R g s a w):R g s' a w:=by
 obtain ⟨H,γ,F,h⟩:=h; exact ⟨H,γ,F,bE e h⟩
theorem ba (s:St) (d:Option Tmp) (v:At):SEq (s.toS.put d v.toV) (s.put d v).toS:=by
 cases d with
 | none=>exact ⟨fun _=>rfl,rfl⟩
 | some d=>
  refine ⟨fun i=>?_,rfl⟩;show aE (lq _ d v.toV) i=aE ((d,v.toV)::_) i
  rw [fU]; rfl
theorem xD (f:Nat×Nat×At->Nat×At) (k:Nat):∀ t:List (Nat×Nat×At),bF (t.map fun x=>(x.1,f x)) k=(bF t k).map fun y=>f (k,y)
 | []=>rfl
 | (i,j,v)::t=>by
  simp only [List.map_cons,bF];cases hb:Nat.beq i k with
  | true=>have:=SO hb; subst this; rfl
  | false=>exact xD f k t
theorem qA (f:Nm×Nat×Rt->Nat×Rt) (k:Nm):∀ t:List (Nm×Nat×Rt),bV (t.map fun x=>(x.1,f x)) k=(bV t k).map fun y=>f (k,y)
 | []=>rfl
 | (i,j,v)::t=>by
  simp only [List.map_cons,bV];by_cases hb:i=k
  ·subst hb; rw [if_pos rfl,if_pos rfl]; rfl
  ·rw [if_neg hb,if_neg hb]; exact qA f k t
structure Ext (s0 s:St):Prop where
 nx:s0.nx<=s.nx
 t:∀ k j v,bF s.t k=some (j,v)->j<s0.nx->bF s0.t k=some (j,v)
 m:∀ n j r,bV s.m n=some (j,r)->j<s0.nx->bV s0.m n=some (j,r)
theorem Ext.refl (s:St):Ext s s:=⟨SN _,fun _ _ _ h _=>h,fun _ _ _ h _=>h⟩
theorem Ext.trans {a b c:St} (h1:Ext a b) (h2:Ext b c):Ext a c:=
 ⟨Th h1.nx h2.nx,fun k j v h hj=>h1.t k j v (h2.t k j v h (Nat.lt_of_lt_of_le hj h1.nx)) hj,fun k j v h hj=>h1.m k j v (h2.m k j v h (Nat.lt_of_lt_of_le hj h1.nx)) hj⟩
abbrev Fy (nx:Nat) (t t':List (Nat×Nat×At)):Prop:=∀ k j v,bF t' k=some (j,v)->j<nx->bF t k=some (j,v)
abbrev zG (nx:Nat) (m m':List (Nm×Nat×Rt)):Prop:=∀ n j r,bV m' n=some (j,r)->j<nx->bV m n=some (j,r)
theorem zG.trans {nx:Nat} {a b c:List (Nm×Nat×Rt)} (h1:zG nx a b) (h2:zG nx b c):zG nx a c:=fun n j r h hj=>h1 n j r (h2 n j r h hj) hj
theorem Fy.trans {nx:Nat} {a b c:List (Nat×Nat×At)} (h1:Fy nx a b) (h2:Fy nx b c):Fy nx a c:=fun n j r h hj=>h1 n j r (h2 n j r h hj) hj
theorem qG {nx:Nat} {t:List (Nat×Nat×At)} (d i:Nat) (v:At) (hi:nx<=i):Fy nx t ((d,i,v)::t):=by
 intro k j w h hj;simp only [bF] at h;split at h
 ·simp only [SJ,Prod.mk.injEq] at h; omega
 ·exact h
theorem il {nx:Nat} {t:List (Nm×Nat×Rt)} (d:Nm) (i:Nat) (v:Rt) (hi:nx<=i):zG nx t ((d,i,v)::t):=by
 intro k j w h hj;simp only [bV] at h;split at h
 ·simp only [SJ,Prod.mk.injEq] at h; omega
 ·exact h
theorem Ap {nx i:Nat} {t:List (Nat×Nat×At)} (chg:At->Bool) (f:At->At) (hf:∀ v,chg v=false->f v=v) (hi:nx<=i) :
  Fy nx t (t.map fun x=>(x.1,stp (chg x.2.2) i x.2.1,f x.2.2)):=by
 intro k j v h hj;rw [xD (fun x=>(stp (chg x.2.2) i x.2.1,f x.2.2))] at h;cases hl:bF t k with
 | none=>rw [hl] at h; cases h
 | some y=>
  obtain ⟨j',v'⟩:=y;rw [hl] at h;simp only [Option.map_some,SJ,Prod.mk.injEq] at h;cases hc:chg v' with
  | true=>rw [hc] at h; simp only [stp] at h; omega
  | false=>rw [hc,hf v' hc] at h; simp only [stp] at h; obtain ⟨rfl,rfl⟩:=h; rfl
theorem fq {nx i:Nat} {t:List (Nat×Nat×At)} {bad:Bool->Pl->Bool} (hi:nx<=i):Fy nx t (iT bad i t):=Ap (·.hit bad) (·.kill bad) (fun _ h=>Dp h) hi
theorem dS {nx i:Nat} {t:List (Nm×Nat×Rt)} {bad:Bool->Pl->Bool} (hi:nx<=i):zG nx t (bN bad i t):=by
 intro k j v h hj;unfold bN at h;rw [qA (fun x=>(stp (x.2.2.cells.any (·.hit bad)) i x.2.1,x.2.2.kill bad))] at h;cases hl:bV t k with
 | none=>rw [hl] at h; cases h
 | some y=>
  obtain ⟨j',r⟩:=y;rw [hl] at h;simp only [Option.map_some,SJ,Prod.mk.injEq] at h;cases hc:r.cells.any (·.hit bad) with
  | true=>rw [hc] at h; simp only [stp] at h; omega
  | false=>
   rw [hc] at h;have:r.kill bad=r:=by unfold Rt.kill; rw [mq hc]
   rw [this] at h;simp only [stp] at h;obtain ⟨rfl,rfl⟩:=h; rfl
theorem nR (n k:Nm):∀ m:List (Nm×Nat×Rt),bV (d9 m n) k=if k=n then none else bV m k
 | []=>by simp [d9,bV]
 | (i,j,v)::m=>by
  simp only [d9];by_cases h:i=n
  ·subst h;rw [if_pos rfl,nR i k m];by_cases hk:k=i
   ·rw [if_pos hk,if_pos hk]
   ·rw [if_neg hk,if_neg hk]; simp only [bV]; rw [if_neg (fun e=>hk e.symm)]
  ·rw [if_neg h];simp only [bV];by_cases hk:i=k
   ·subst hk; rw [if_pos rfl,if_neg h,if_pos rfl]
   ·rw [if_neg hk,if_neg hk,nR n k m]
theorem oh {nx:Nat} {m:List (Nm×Nat×Rt)} (n:Nm):zG nx m (d9 m n):=by
 intro k j r h _;rw [nR] at h;split at h
 ·cases h
 ·exact h
theorem cF {nx i:Nat} (n:Nm) (r:Rt) (hi:nx<=i):∀ m:List (Nm×Nat×Rt),zG nx m (cO m n i r)
 | [],_,_,_,h,_=>h
 | (a,b,c)::m,k,j,v,h,hj=>by
  simp only [cO] at h;split at h
  ·rename_i ha;simp only [bV] at h ⊢;split at h
   ·simp only [SJ,Prod.mk.injEq] at h; omega
   ·rename_i hk; rw [if_neg hk]; exact h
  ·simp only [bV] at h ⊢;split at h
   ·rename_i hk; rw [if_pos hk]; exact h
   ·rename_i hk; rw [if_neg hk]; exact cF n r hi m k j v h hj
theorem aI (s:St) (d:Option Tmp) (v:At):Ext s (s.put d v):=by
 cases d with
 | none=>exact Ext.refl s
 | some d=>exact ⟨TE _,qG d s.nx v (SN _),fun _ _ _ h _=>h⟩
theorem oH (s:St) (n:Nm):Ext s (s.drop n):=⟨TE _,fq (SN _),(oh n).trans (dS (SN _))⟩
theorem bx (s:St) (n:Nm):Ext s (s.fresh n):=by
 unfold St.fresh; split
 ·exact Ext.refl s
 ·exact oH s n
theorem ce (s:St) (n:Nm) (r:Rt):Ext s (s.root n r):=⟨TE _,fun _ _ _ h _=>h,il n s.nx r (SN _)⟩
theorem EX (q:Pl) (u:U) (l:List (El u)) (t:Tt):(t.frz q u l).toT=t.toT.frz q (l.map (ai u)):=by
 cases t with
 | pl p=>exact gM (thr q) (.pl p)
 | rf p=>
  obtain ⟨n,o,path⟩:=p;cases path with
  | nil=>
   show (if n=q.root/\o=q.off then Tt.d (.li u l) else (Tt.rf ⟨n,o,[]⟩).kill (thr q)).toT=if n=q.root/\o=q.off then T.d (.li (l.map (ai u))) else (T.rf ⟨n,o,[]⟩).kill (thr q)
   by_cases h:n=q.root/\o=q.off
   ·rw [if_pos h,if_pos h]; rfl
   ·rw [if_neg h,if_neg h]; exact gM (thr q) (.rf ⟨n,o,[]⟩)
  | cons st r=>exact gM (thr q) (.rf ⟨n,o,st::r⟩)
 | _=>rfl
theorem tB {f:Tt->Tt} {f':T->T} (h:∀ t,(f t).toT=f' t.toT) (x:A1):(x.map f).toV=x.toV.map f':=by
 cases x with
 | c t=>simp only [A1.map,A1.toV,AV1.map,h]
 | agg ts=>
  simp only [A1.map,A1.toV,AV1.map]
  congr 1
  rw [SX,SX]; exact S1 fun t _=>h t
theorem Ev {f:Tt->Tt} {f':T->T} (h:∀ t,(f t).toT=f' t.toT) (x:At):(x.map f).toV=x.toV.map f':=by
 cases x with
 | one x=>simp only [At.map,At.toV,AV.map,tB h]
 | tup xs=>
  simp only [At.map,At.toV,AV.map]
  congr 1
  rw [SX,SX]; exact S1 fun t _=>tB h t
 | any=>rfl
theorem wW {q:Pl} {u:U} {l:List (El u)} {t:Tt} (h:t.hit (BA q)=false):t.frz q u l=t:=by
 cases t with
 | pl p=>
  simp only [Tt.hit,BA,Ua,Bool.or_false] at h;exact iC (t:=.pl p) h
 | rf p=>
  simp only [Tt.hit,BA,TH,Uk] at h;obtain ⟨n,o,path⟩:=p;cases path with
  | nil=>
   simp only [Tt.frz];rw [if_neg (by simpa using h.2)];exact iC (t:=.rf ⟨n,o,[]⟩) h.1
  | cons st r=>exact iC (t:=.rf ⟨n,o,st::r⟩) h.1
 | _=>rfl
theorem I6 {q:Pl} {u:U} {l:List (El u)} {x:At} (h:x.hit (BA q)=false):x.map (Tt.frz q u l)=x:=by
 have one:∀ {y:A1},y.hit (BA q)=false->y.map (Tt.frz q u l)=y:=by
  intro y hy;cases y with
  | c t=>simp only [A1.map,wW (show t.hit _=false from hy)]
  | agg ts=>
   simp only [A1.hit] at hy;simp only [A1.map]
   congr 1
   induction ts with
   | nil=>rfl
   | cons t ts ih=>
    simp only [UP,Uk] at hy;rw [List.map_cons,wW hy.1,ih hy.2]
 cases x with
 | one y=>simp only [At.map,one (show y.hit _=false from h)]
 | tup xs=>
  simp only [At.hit] at h;simp only [At.map]
  congr 1
  induction xs with
  | nil=>rfl
  | cons y ys ih=>
   simp only [UP,Uk] at h;rw [List.map_cons,one h.1,ih h.2]
 | any=>rfl
theorem k9 (n:Nm):∀ m:List (Nm×Nat×Rt),bi m n=(bV m n).map (·.2)
 | []=>rfl
 | (k,j,r)::m=>by
  simp only [bi,bV];by_cases h:k=n
  ·rw [if_pos h,if_pos h]; rfl
  ·rw [if_neg h,if_neg h]; exact k9 n m
theorem q9 (s:St) (q:Pl):Ext s (pN s q):=by
 unfold pN;split
 ·split
  ·rename_i u l _ _;refine ⟨TE _,Ap (·.hit (BA q)) (·.map (Tt.frz q u l)) (fun _ h=>I6 h) (SN _),?_⟩;have hset:∀ (m:List (Nm×Nat×Rt)) off t,zG s.nx m (setCell m q.root s.nx off t):=by
    intro m off t;unfold setCell;split
    ·exact cF _ _ (SN _) m
    ·exact fun _ _ _ h _=>h
   exact ((hset _ _ _).trans (dS (SN _))).trans (hset _ _ _)
  ·exact Ext.refl s
 ·exact Ext.refl s
theorem mj {m:List (Nm×Nat×Rt)} {n:Nm} {i off:Nat} {t:Tt} {r:Rt} (hr:bi m n=some r) (hh:r.hole=none) :
  toM (setCell m n i off t)=bD (toM m) n ⟨r.blk,(r.toR.cells).set off t.toT⟩:=by
 unfold setCell;rw [hr];dsimp only;rw [eD]
 congr 1
 simp only [Rt.toR,hh,holed,Tv]
theorem zE {m:List (Nm×Nat×Rt)} {n:Nm} {i off:Nat} {t:Tt} {r:Rt} (hr:bi m n=some r):bi (setCell m n i off t) n=some { r with cells:=r.cells.set off t }:=by
 unfold setCell;rw [hr];dsimp only;induction m with
 | nil=>cases hr
 | cons x m ih=>
  obtain ⟨k,j,v⟩:=x;simp only [cO];simp only [bi] at hr;by_cases h:k=n
  ·rw [if_pos h]; simp only [bi]; rw [if_pos h]
  ·rw [if_neg h] at hr ⊢; simp only [bi]; rw [if_neg h]; exact ih hr
theorem xT (bad:Bool->Pl->Bool) (i:Nat) (n:Nm) (m:List (Nm×Nat×Rt)):bi (bN bad i m) n=(bi m n).map (·.kill bad):=by
 rw [k9,k9];unfold bN;rw [qA (fun x=>(stp (x.2.2.cells.any (·.hit bad)) i x.2.1,x.2.2.kill bad))];cases bV m n <;> rfl
theorem qW {g:G} {s:St} {a:Act} {w:World} {H:FH} {γ:Gam} {F:Nm->Fp} (h:RX g s.toS a w H γ F) (q:Pl):∃ H' F',RX g (pN s q).toS a w H' γ F':=by
 unfold pN;split
 ·rename_i r hpath hr;split
  ·rename_i sh u l hh hc;obtain ⟨H',F',h'⟩:=DW h q;refine ⟨H',F',?_⟩;have ec:r.toR.cells[q.off]? = some (.ow sh (l.map (ai u))):=by
    show (holed (r.cells.map Tt.toT) r.hole)[q.off]? = _
    rw [hh];show (r.cells.map Tt.toT)[q.off]? = _
    rw [SM,hc]; rfl
   have eg:aa s.toS.m q.root=some r.toR:=aT hr
   have egp:aP s.toS.m q=some (.ow sh (l.map (ai u))):=by
    unfold aP;rw [eg,hpath];exact ec
   have efrz:Ah s.toS q=⟨uD (AV.map (T.frz q (l.map (ai u)))) s.toS.t,B5 s.toS.m q (l.map (ai u))⟩:=by
    unfold Ah;rw [egp,hpath]
   rw [efrz] at h';have key:(⟨s.nx+1,s.t.map fun x=>(x.1,stp (x.2.2.hit (BA q)) s.nx x.2.1,x.2.2.map (Tt.frz q u l)),
     setCell (bN (thr q) s.nx (setCell s.m q.root s.nx q.off .any)) q.root s.nx q.off (.d (.li u l))⟩:St).toS=⟨uD (AV.map (T.frz q (l.map (ai u)))) s.toS.t,B5 s.toS.m q (l.map (ai u))⟩:=by
    refine aZ.S_ext ?_ ?_
    ·simp only [St.toS,uD,SX];exact S1 fun x _=>by simp only [Function.comp,Ev (EX q u l)]
    ·have g1:=zE (i:=s.nx) (off:=q.off) (t:=.any) hr
     have g2:bi (bN (thr q) s.nx (setCell s.m q.root s.nx q.off .any)) q.root=some (({ r with cells:=r.cells.set q.off .any }:Rt).kill (thr q)):=by rw [xT,g1]; rfl
     show toM (setCell _ q.root s.nx q.off (.d (.li u l)))=_
     rw [mj g2 hh,dF,mj hr hh];unfold B5;have p1:bd s.toS.m q .any=bD (toM s.m) q.root ⟨r.blk,r.toR.cells.set q.off Tt.any.toT⟩:=by
      unfold bd;rw [eg,hpath];rfl
     rw [p1];have g3:aa (au (thr q) (bD (toM s.m) q.root ⟨r.blk,r.toR.cells.set q.off Tt.any.toT⟩)) q.root=some ⟨r.blk,(r.toR.cells.set q.off Tt.any.toT).map (·.kill (thr q))⟩:=by
      have:=aT g2
      rw [dF,mj hr hh] at this;rw [this,r9];simp only [Rt.toR,hh,holed,Tv,Tt.toT]
     unfold bd;rw [g3,hpath];dsimp only
     congr 1
     simp only [Rt.toR,Rt.kill,hh,holed,Tv,vi,TU,Tt.toT,C.toD]
   rw [key]; exact h'
  ·exact ⟨H,F,h⟩
 ·exact ⟨H,F,h⟩
end Go.Am
end

section
namespace Go.Am
section
variable {g:G} {a:Act} {w:World} {γ:Gam}
theorem xL {s:St} {H:FH} {F:Nm->Fp} (h:RX g s.toS a w H γ F) (t:Tt):∃ H' F',RX g (Gm s t).toS a w H' γ F':=by
 cases t with
 | rf p=>exact qW h p
 | _=>exact ⟨H,F,h⟩
theorem vk:∀ (ts:List Tt) (s:St) (H:FH) (F:Nm->Fp),RX g s.toS a w H γ F->∃ H' F',RX g (yn s ts).toS a w H' γ F'
 | [],_,H,F,h=>⟨H,F,h⟩
 | t::ts,s,H,F,h=>by
  obtain ⟨H1,F1,h1⟩:=xL h t;exact vk ts _ H1 F1 h1
theorem ir {s:St} {H:FH} {F:Nm->Fp} (h:RX g s.toS a w H γ F) (v:At):∃ H' F',RX g (fT s v).toS a w H' γ F':=by
 cases v with
 | one x=>cases x with
  | c t=>exact xL h t
  | agg ts=>exact vk ts s H F h
 | _=>exact ⟨H,F,h⟩
theorem bT:∀ (vs:List At) (s:St) (H:FH) (F:Nm->Fp),RX g s.toS a w H γ F->∃ H' F',RX g (aX s vs).toS a w H' γ F'
 | [],_,H,F,h=>⟨H,F,h⟩
 | v::vs,s,H,F,h=>by
  obtain ⟨H1,F1,h1⟩:=ir h v;exact bT vs _ H1 F1 h1
theorem CG {s s':St} {H:FH} {F:Nm->Fp} (hX:RX g s.toS a w H γ F) (hf:∀ (g':G) (H:FH) (F:Nm->Fp),RX g' s.toS a w H γ F->∃ H' F',RX g' s'.toS a w H' γ F') :
  ∃ H' F',RX g s'.toS a w H' γ F'/\∀ b o y,H b o=some y->H' b o=some y:=by
 let g':G:=⟨g.nt,w,H,tot F s.toS.m,g.out,g.ex,g.dfs⟩
 have hX2:RX g' s.toS a w H γ F:=⟨hX.mem,Fr.refl' rfl rfl rfl rfl (fun _ h=>h),hX.nt,⟨hX.df.1,hX.df.2.1,dc hX⟩,hX.t⟩
 obtain ⟨H',F',h⟩:=hf g' H F hX2;exact ⟨H',F',⟨h.mem,hX.fr.trans h.fr,h.nt,⟨h.df.1,h.df.2.1,hX.df.2.2⟩,h.t⟩,h.fr.hold⟩
theorem mE:∀ (ts:List Tt) (s:St) (p:Pl) (H:FH) (F:Nm->Fp),RX g s.toS a w H γ F->∃ H' F',RX g (rD s p ts).toS a w H' γ F'
 | [],s,_,H,F,h=>⟨H,F,h⟩
 | t::ts,s,p,H,F,h=>by
  cases t with
  | rf q=>
   simp only [rD];split
   ·obtain ⟨H1,F1,h1⟩:=qW h q;exact mE ts _ _ H1 F1 h1
   ·exact mE ts _ _ H F h
  | _=>exact mE ts s (p.add 1) H F h
theorem Jz {s:St} {H:FH} {F:Nm->Fp} (h:RX g s.toS a w H γ F) (x v:At):∃ H' F',RX g (xx s x v).toS a w H' γ F':=by
 unfold xx;split
 ·exact mE _ _ _ H F h
 ·exact ⟨H,F,h⟩
theorem xn (s:St) (t:Tt):Ext s (Gm s t):=by
 cases t with
 | rf p=>exact q9 s p
 | _=>exact Ext.refl s
theorem vE:∀ (ts:List Tt) (s:St),Ext s (yn s ts)
 | [],s=>Ext.refl s
 | t::ts,s=>(xn s t).trans (vE ts _)
theorem iq (s:St) (v:At):Ext s (fT s v):=by
 cases v with
 | one x=>cases x with
  | c t=>exact xn s t
  | agg ts=>exact vE ts s
 | _=>exact Ext.refl s
theorem mH:∀ (ts:List Tt) (s:St) (p:Pl),Ext s (rD s p ts)
 | [],s,_=>Ext.refl s
 | t::ts,s,p=>by
  cases t with
  | rf q=>
   simp only [rD];split
   ·exact (q9 s q).trans (mH ts _ _)
   ·exact mH ts _ _
  | _=>exact mH ts s (p.add 1)
theorem JX (s:St) (x v:At):Ext s (xx s x v):=by
 unfold xx;split
 ·exact mH _ _ _
 ·exact Ext.refl s
theorem bG:∀ (vs:List At) (s:St),Ext s (aX s vs)
 | [],s=>Ext.refl s
 | v::vs,s=>(iq s v).trans (bG vs _)
theorem vd {s:St} {H:FH} {F:Nm->Fp} (h:RX g s.toS a w H γ F) (o:Oper):∃ H' F',RX g (vX s o).toS a w H' γ F':=by
 unfold vX;split
 ·exact ir h _
 ·exact ir h _
 ·exact ⟨H,F,h⟩
theorem AY (s:St) (o:Oper):Ext s (vX s o):=by
 unfold vX;split
 ·exact iq s _
 ·exact iq s _
 ·exact Ext.refl s
theorem wR {s:S} {t:Tt} (h:t.noRf=true):K8 s t.toT=s:=by
 cases t with
 | rf p=>cases h
 | _=>rfl
theorem ui {s:S}:∀ {ts:List Tt},ts.all Tt.noRf=true->wM s (ts.map Tt.toT)=s
 | [],_=>rfl
 | t::ts,h=>by
  simp only [S6,SL] at h;simp only [List.map_cons,wM];rw [wR h.1,ui h.2]
theorem qV {s:S} {v:At} (h:v.noRf=true):Bc s v.toV=s:=by
 cases v with
 | one x=>cases x with
  | c t=>exact wR h
  | agg ts=>exact ui h
 | _=>rfl
theorem dy {s:S}:∀ {vs:List At},vs.all At.noRf=true->g8 s (vs.map At.toV)=s
 | [],_=>rfl
 | v::vs,h=>by
  simp only [S6,SL] at h;simp only [List.map_cons,g8];rw [qV h.1,dy h.2]
theorem Ei {s:St} {H:FH} {F:Nm->Fp} (hX:RX g s.toS a w H γ F) {x:Operand} (hc:ay x=true) :
  (∀ p,evA s x=.one (.c (.rf p))->okP (toM s.m) p)/\(∀ p,evA s x=.one (.c (.pl p))->okP (toM s.m) p):=by
 have h:=aD hX hc
 rw [af hc] at h;refine ⟨fun p e=>?_,fun p e=>?_⟩
 ·rw [e] at h;obtain ⟨_,h1,_⟩:=h;exact kD h1
 ·rw [e] at h;obtain ⟨_,h1,_⟩:=h;exact Mg h1
theorem pW {gd:Option (Nat×Bool)} {n:Nat} {q q':Prop} (hq:q->q') (h:gift gd n q):gift gd n q':=by
 cases gd with
 | none=>exact fun hh=>hq (h hh)
 | some _=>exact hq h
theorem wO {gd:Option (Nat×Bool)} {m:List (Nm×Nat×Rt)} {x:At} {k k':Nat->Prop} (hk:∀ n,k n->k' n) (h:C5 gd m x k):C5 gd m x k':=by
 unfold C5 at h ⊢;split at h
 ·exact pW (hk _) h
 ·exact pW (hk _) h
 ·exact hk _ h
 ·split at h
  ·exact pW (hk _) h
  ·exact h.elim
 ·exact h.elim
theorem IU (x:At):mK x.toV=DG x:=by
 cases x with
 | one x=>cases x with
  | c t=>cases t with
   | d c=>cases c <;> rfl
   | _=>rfl
  | agg ts=>rfl
 | _=>rfl
theorem KU {e:En} {o:Oper} {s:St} {k:At->Prop} {H:FH} {F:Nm->Fp} (hX:RX g s.toS a w H γ F) (hc:opC g.nt o=true) (h:qT e o s k):qK e.P o s.toS (up k):=by
 unfold opC at hc;rw [SL] at hc;obtain ⟨_,hc⟩:=hc;unfold qT at h;unfold qK;cases ho:o.op with
 | move x=>rw [ho] at h hc; exact ⟨_,af hc,h⟩
 | assign x=>rw [ho] at h hc; exact ⟨_,af hc,h⟩
 | pick c x y=>
  rw [ho] at h hc;simp only [SL] at hc;dsimp only;rw [af hc.1.1,af hc.1.2,af hc.2];exact Mp h
 | binOp op t x y z=>
  rw [ho] at h hc;simp only [SL] at hc;dsimp only;rw [af hc.1,af hc.2];exact O8 h
 | unOp op t x=>rw [ho] at h hc; dsimp only at hc ⊢; rw [af hc]; exact QB h
 | load t x=>rw [ho] at h hc; dsimp only at hc ⊢; rw [af hc]; exact tX (Ei hX hc).2 h
 | field t x i=>rw [ho] at h hc; dsimp only at hc ⊢; rw [af hc]; exact IH h
 | fieldAddr t x i=>rw [ho] at h hc; dsimp only at hc ⊢; rw [af hc]; exact wv h
 | indexAddr t x i=>
  rw [ho] at h hc;simp only [SL] at hc;dsimp only;rw [af hc.1,af hc.2];exact wn (Ei hX hc.1).1 h
 | index t x i=>
  rw [ho] at h hc;simp only [SL] at hc;dsimp only at h ⊢;split at h
  ·rename_i ht;rw [af hc.1,af hc.2];exact ⟨ht,II h⟩
  ·exact h.elim
 | extract x i=>rw [ho] at h hc; dsimp only at hc ⊢; rw [af hc]; exact Bb h
 | convert su du x=>rw [ho] at h hc; dsimp only at hc ⊢; rw [af hc]; exact Lh h
 | slice t x lo hi mx=>
  rw [ho] at h hc;cases mx with
  | some _=>exact h.elim
  | none=>
   dsimp only at h hc ⊢;simp only [SL] at hc;have opt:∀ (y:Option Operand),y.all ay=true->y.map (ev s.toS)=(y.map (evA s)).map At.toV:=by
    intro y hy;cases y with
    | none=>rfl
    | some y=>simp only [Option.map_some]; rw [af (by simpa using hy)]
   rw [af hc.1.1,opt lo hc.1.2,opt hi hc.2];exact IM h
 | nilCheck x=>rw [ho] at h hc; dsimp only at hc ⊢; rw [af hc]; exact zU h
 | build t ps=>rw [ho] at h hc; dsimp only at hc ⊢; rw [qI hc]; exact JA h
 | call c=>
  rw [ho] at h hc;obtain ⟨callee,args,argTypes⟩:=c;obtain ⟨args⟩:=args;obtain ⟨argTypes⟩:=argTypes;dsimp only at h hc ⊢;cases callee with
  | builtin b=>
   cases b with
   | len=>
    match args,argTypes,h with
    | [x],[t],h=>
     have h1:ay x=true:=by simpa using hc
     dsimp only at h ⊢;split at h
     ·rename_i hl;rw [af h1,IU];refine ⟨hl,?_⟩;exact NN (Ei hX h1).1 (wO (fun n hn=>⟨_,rfl,hn⟩) h)
     ·exact h.elim
   | _=>exact h.elim
  | _=>exact h.elim
 | _=>rw [ho] at h; exact h.elim
end
end Go.Am
end

section
namespace Go.Am
theorem mG {u:U} {x x':El u} {off:Nat} {c:C} (h:C2 u x off c=some x'):(∃ d,(ai u x)[off]? = some d)/\ai u x'=(ai u x).set off c.toD:=by
 unfold C2 at h;split at h
 ·rename_i c0 hc;have e:=pX h
  refine ⟨⟨c0.toD,by rw [<- bp,SM,hc]; rfl⟩,?_⟩;rw [<- bp,<- e,<- bp,Tv]
 ·cases h
theorem As:∀ {path:List Step} {sub:List Sh} {u:U} {l l':List (El u)} {t:Tt} {k:Prop} {K:List (List D)->Prop},lu sub u l path k->xr sub u l t path=some l'->K (l'.map (ai u))->fE sub (l.map (ai u)) t.toT path K
 | [],_,_,_,_,_,_,_,h,_,_=>h.elim
 | [st],sub,u,l,l',t,k,K,h,ht,hK=>by
  obtain ⟨h1,_⟩:=h;simp only [xr] at ht;simp only [fE];rw [ib l h1];dsimp only;split at ht
  ·rename_i c hs;split at ht
   ·rename_i x hx;simp only [SJ] at ht;subst ht;obtain ⟨⟨d,hd⟩,e⟩:=mG hx;rw [hs,hd];dsimp only;refine ⟨trivial,?_⟩;rw [Tv,e] at hK;exact hK
   ·cases ht
  ·rename_i hs;split at ht
   ·rename_i u' l0 hf;split at ht
    ·rename_i x hx;simp only [SJ] at ht;subst ht;obtain ⟨⟨d,hd⟩,e⟩:=mG hx;rw [hs,hd];dsimp only;refine ⟨trivial,?_⟩;rw [Tv,e] at hK;exact hK
    ·cases ht
   ·cases ht
  ·cases ht
 | st::st'::r,sub,u,l,l',t,k,K,h,ht,hK=>by
  simp only [xr] at ht;simp only [fE];simp only [lu] at h;split at ht
  ·rename_i s u' l0 e1 e2;rw [e1,e2] at h;obtain ⟨h1,h4⟩:=h;rw [ib l h1];dsimp only;split at ht
   ·rename_i l2 hl2;split at ht
    ·rename_i x hx;simp only [SJ] at ht;subst ht;obtain ⟨_,e⟩:=mG hx;have e3:(ai u (l.getD st.idx (dflt u)))[st.off]? = some (.li (l0.map (ai u'))):=by
      rw [<- bp,SM,e2]; rfl
     rw [e1,e3];dsimp only;refine As h4 hl2 ?_;rw [Tv,e] at hK;exact hK
    ·cases ht
   ·cases ht
  ·cases ht
mutual
theorem KH:∀ {a b:Sh},A5 a b=true->a=b
 | .fr,.fr,_=>rfl
 | .ow a,.ow b,h=>by simp only [A5] at h; rw [ip h]
 | .fr,.ow _,h=>by simp [A5] at h
 | .ow _,.fr,h=>by simp [A5] at h
theorem ip:∀ {a b:List Sh},gR a b=true->a=b
 | [],[],_=>rfl
 | a::r,b::q,h=>by
  simp only [gR,SL] at h;rw [KH h.1,ip h.2]
 | [],_::_,h=>by simp [gR] at h
 | _::_,[],h=>by simp [gR] at h
end
theorem BY:∀ {path:List Step} {sub:List Sh} {u:U} {l l':List (El u)} {sh:List Sh} {v:U} {lv:List (El v)} {k:Prop} {K:List (List D)->Prop},lu sub u l path k->xY sub u l sh v lv path=some l'->K (l'.map (ai u)) ->
  fE sub (bz sub (l.map (ai u)) .any path) (.ow sh (lv.map (ai v))) path K
 | [],_,_,_,_,_,_,_,_,_,h,_,_=>h.elim
 | [st],sub,u,l,l',sh,v,lv,k,K,h,ht,hK=>by
  obtain ⟨h1,_⟩:=h;have h1':st.idx < (l.map (ai u)).length:=by rw [List.length_map]; exact h1
  simp only [xY] at ht;split at ht
  ·rename_i s c hs hc;split at ht
   ·rename_i x hsh hx;simp only [SJ] at ht;subst ht;obtain ⟨⟨d,hd⟩,e⟩:=mG hx;have hlt:st.off < (ai u (l.getD st.idx (dflt u))).length:=ae hd
    have hset:bz sub (l.map (ai u)) .any [st]=(l.map (ai u)).set st.idx ((ai u (l.getD st.idx (dflt u))).set st.off .any):=by
     simp only [bz]; rw [gp l h1]
    rw [hset];simp only [fE];rw [S8 h1'];dsimp only;rw [hs,S8 hlt];dsimp only;refine ⟨ip hsh,?_⟩;rw [TU,TU];rw [Tv,e] at hK;exact hK
   ·cases ht
  ·cases ht
 | st::st'::r,sub,u,l,l',sh,v,lv,k,K,h,ht,hK=>by
  simp only [xY] at ht;simp only [lu] at h;split at ht
  ·rename_i s u' l0 e1 e2;rw [e1,e2] at h;obtain ⟨h1,h4⟩:=h;have h1':st.idx < (l.map (ai u)).length:=by rw [List.length_map]; exact h1
   split at ht
   ·rename_i l2 hl2;split at ht
    ·rename_i x hx;simp only [SJ] at ht;subst ht;obtain ⟨_,e⟩:=mG hx;have e3:(ai u (l.getD st.idx (dflt u)))[st.off]? = some (.li (l0.map (ai u'))):=by
      rw [<- bp,SM,e2]; rfl
     have hlt:st.off < (ai u (l.getD st.idx (dflt u))).length:=ae e3
     have e4:(ai u (l.getD st.idx (dflt u))).getD st.off default=.li (l0.map (ai u')):=by rw [List.getD,e3]; rfl
     have hset:bz sub (l.map (ai u)) .any (st::st'::r)=(l.map (ai u)).set st.idx ((ai u (l.getD st.idx (dflt u))).set st.off (.li (bz s (l0.map (ai u')) .any (st'::r)))):=by
      simp only [bz]; rw [gp l h1,e1,e4]
     rw [hset];simp only [fE];rw [S8 h1'];dsimp only;rw [e1,S8 hlt];dsimp only;refine BY h4 hl2 ?_;rw [TU,TU];rw [Tv,e] at hK;exact hK
    ·cases ht
   ·cases ht
  ·cases ht
theorem za:∀ {path:List Step} {sub:List Sh} {u:U} {l:List (El u)} {k:Prop},lu sub u l path k->k
 | [],_,_,_,_,h=>h.elim
 | [st],_,_,_,_,h=>h.2
 | st::st'::r,sub,u,l,k,h=>by
  simp only [lu] at h;split at h
  ·exact za h.2
  ·exact h.elim
theorem mD:∀ {path:List Step} {sub:List Sh} {u:U} {l:List (El u)} {k k':Prop},(k->k')->lu sub u l path k->lu sub u l path k'
 | [],_,_,_,_,_,_,h=>h.elim
 | [st],_,_,_,_,_,hk,h=>⟨h.1,hk h.2⟩
 | st::st'::r,sub,u,l,k,k',hk,h=>by
  simp only [lu] at h ⊢;split at h
  ·exact ⟨h.1,mD hk h.2⟩
  ·exact h.elim
theorem wQ:∀ {a b:List Step} {k:Prop},kM a b k->a=b/\k
 | [],[],_,h=>⟨rfl,h⟩
 | x::r,y::q,k,h=>by
  simp only [kM] at h;split at h
  ·rename_i hb;rw [SL] at hb;obtain ⟨e,hk⟩:=wQ h.2;obtain ⟨a1,a2,a3⟩:=x; obtain ⟨b1,b2,b3⟩:=y;have h1:a1=b1:=h.1
   have h2:a2=b2:=SO hb.1
   have h3:a3=b3:=SO hb.2
   subst h1; subst h2; subst h3; subst e;exact ⟨rfl,hk⟩
  ·exact h.elim
 | [],_::_,_,h=>h.elim
 | _::_,[],_,h=>h.elim
theorem rM:∀ {a b:List Step} {k k':Prop},(k->k')->kM a b k->kM a b k'
 | [],[],_,_,hk,h=>hk h
 | x::r,y::q,k,k',hk,h=>by
  simp only [kM] at h ⊢;split at h
  ·exact ⟨h.1,rM hk h.2⟩
  ·exact h.elim
 | [],_::_,_,_,_,h=>h.elim
 | _::_,[],_,_,_,h=>h.elim
theorem uZ:∀ {path:List Step} {sub:List Sh} {u:U} {l:List (El u)} {sh:List Sh} {v:U} {lv:List (El v)},okO sub (l.map (ai u)) path->inT sub u l 1 path=some [.ow sh v lv]->bb sub (l.map (ai u)) path=some (.ow sh,.li (lv.map (ai v)))
 | [],_,_,_,_,_,_,h,_=>h.elim
 | [st],sub,u,l,sh,v,lv,h,ht=>by
  obtain ⟨h1,h2,h3⟩:=h;rw [List.length_map] at h1;simp only [inT] at ht;split at ht
  ·simp only [SJ] at ht;have e1:sub[st.off]? = some sub[st.off]:=SK h3
   cases hc:(flat u (l.getD st.idx (dflt u)))[st.off]? with
   | none=>
    have:((flat u (l.getD st.idx (dflt u))).drop st.off).take 1=[]:=by
     rw [List.drop_eq_nil_of_le (List.getElem?_eq_none_iff.1 hc)]; rfl
    rw [this] at ht;simp at ht
   | some c=>
    have hlt:=ae hc
    have ec:(flat u (l.getD st.idx (dflt u)))[st.off]=c:=by
     rw [SK hlt] at hc; exact Option.some.inj hc
    have d1:(sub.drop st.off).take 1=[sub[st.off]]:=by rw [Tr h3]; rfl
    have d2:((flat u (l.getD st.idx (dflt u))).drop st.off).take 1=[c]:=by rw [Tr hlt,ec]; rfl
    rw [d1,d2] at ht;simp only [List.zipWith_cons_cons,List.zipWith_nil_left,List.cons.injEq,and_true] at ht;simp only [bb,e1,Option.map_some,gp l h1];have e3:(ai u (l.getD st.idx (dflt u))).getD st.off default=c.toD:=by
     rw [List.getD,<- bp,SM,hc]; rfl
    rw [e3];generalize sub[st.off]=s0 at ht;cases s0 with
    | fr=>cases ht
    | ow s1=>
     cases c with
     | li u1 l1=>
      simp only [Tt.ow.injEq] at ht;obtain ⟨rfl,rfl,e⟩:=ht;rw [eq_of_heq e]; rfl
     | _=>cases ht
  ·cases ht
 | st::st'::r,sub,u,l,sh,v,lv,h,ht=>by
  obtain ⟨⟨h1,h2,h3⟩,h4⟩:=h;rw [List.length_map] at h1;simp only [inT] at ht;split at ht
  ·rename_i s u' l0 e1 e2;have e3:(ai u (l.getD st.idx (dflt u))).getD st.off default=.li (l0.map (ai u')):=by
    rw [List.getD,<- bp,SM,e2]; rfl
   rw [e1,gp l h1,e3] at h4;simp only [bb];rw [e1,gp l h1,e3];exact uZ h4 ht
  ·cases ht
theorem Ak {cells:List Tt} {off:Nat} {sub:List Sh} {u:U} {l:List (El u)} (st:Step) (q:List Step) (h:cells[off]? = some (.ow sub u l)) :
  holed (cells.map Tt.toT) (some (off,st,q))=(cells.map Tt.toT).set off (.ow sub (bz sub (l.map (ai u)) .any (st::q))):=by
 unfold holed;dsimp only;rw [SM,h];rfl
def uK (row:List D) (off:Nat):List D->List D
 | []=>row
 | d::r=>uK (row.set off d) (off+1) r
def fO (sub:List Sh) (l:List (List D)):List T->List Step->(List (List D)->Prop)->Prop
 | [],_,K=>K l
 | t::ts,path,K=>fE sub l t path fun l1=>fO sub l1 ts (aH path 1) K
theorem jK:∀ {path:List Step} {sub:List Sh} {l:List (List D)} {t:T} {K K':List (List D)->Prop},(∀ x,K x->K' x)->fE sub l t path K->fE sub l t path K'
 | [],_,_,_,_,_,_,h=>h.elim
 | [st],sub,l,t,K,K',hk,h=>by
  simp only [fE] at h ⊢;split at h
  ·split at h
   ·exact ⟨h.1,hk _ h.2⟩
   ·exact ⟨h.1,hk _ h.2⟩
   ·exact h.elim
  ·exact h.elim
 | st::st'::r,sub,l,t,K,K',hk,h=>by
  simp only [fE] at h ⊢;split at h
  ·split at h
   ·exact jK (fun x hx=>hk _ hx) h
   ·exact h.elim
  ·exact h.elim
theorem mi:∀ {ts:List T} {path:List Step} {sub:List Sh} {l:List (List D)} {K K':List (List D)->Prop},(∀ x,K x->K' x)->fO sub l ts path K->fO sub l ts path K'
 | [],_,_,_,_,_,hk,h=>hk _ h
 | t::ts,path,sub,l,K,K',hk,h=>jK (fun x hx=>mi hk hx) h
def De:T->Bool
 | .d _=>true
 | .nil=>true
 | _=>false
theorem vn {sub:List Sh} {idx esz:Nat}:∀ {ts:List T} {l:List (List D)} {off:Nat} {row:List D} {K:List (List D)->Prop},l[idx]? = some row->ts.all De=true->frs sub off ts.length=true->off+ts.length<=row.length ->
  K (l.set idx (uK row off (ts.map T.toD)))->fO sub l ts [⟨idx,esz,off⟩] K
 | [],l,off,row,K,hl,_,_,_,hK=>by
  have:l.set idx row=l:=by
   apply Tw
   intro n;rw [Tp];split
   ·rename_i e;subst e;have hlt:=ae hl
    rw [if_pos hlt]; exact hl.symm
   ·rfl
  simp only [List.map_nil,uK,this] at hK;exact hK
 | t::ts,l,off,row,K,hl,hd,hf,hlen,hK=>by
  simp only [S6,SL] at hd;simp only [SU] at hlen hf;simp only [frs] at hf;cases hs:sub[off]? with
  | none=>rw [hs] at hf; cases hf
  | some s=>
   rw [hs] at hf;cases s with
   | ow _=>cases hf
   | fr=>
    dsimp only at hf;have hoff:off<row.length:=by omega
    simp only [fO,fE];rw [hl];dsimp only;rw [hs,SK hoff];dsimp only;refine ⟨by have h0:=hd.1; cases t <;> first | trivial | (simp [De] at h0),?_⟩;have hlt:=ae hl
    show fO sub _ ts [⟨idx,esz,off+1⟩] K
    refine vn (row:=row.set off t.toD) (S8 hlt) hd.2 hf (by rw [S3]; omega) ?_;rw [TU];exact hK
theorem yg (st st':Step) (r:List Step) (n:Nat):aH (st::st'::r) n=st::aH (st'::r) n:=rfl
theorem rX {sub s:List Sh} {st st':Step}:∀ {ts:List T} {r:List Step} {l l':List (List D)} {row:List D} {K:List (List D)->Prop},l[st.idx]? = some row->sub[st.off]? = some (.ow s)->row[st.off]? = some (.li l') ->
  fO s l' ts (st'::r) (fun l''=>K (l.set st.idx (row.set st.off (.li l''))))->fO sub l ts (st::st'::r) K
 | [],r,l,l',row,K,hl,hs,hc,h=>by
  have e1:row.set st.off (.li l')=row:=by
   apply Tw
   intro n;rw [Tp];split
   ·rename_i e; subst e; rw [if_pos (ae hc)]; exact hc.symm
   ·rfl
  have e2:l.set st.idx row=l:=by
   apply Tw
   intro n;rw [Tp];split
   ·rename_i e; subst e; rw [if_pos (ae hl)]; exact hl.symm
   ·rfl
  simp only [fO,e1,e2] at h;exact h
 | t::ts,r,l,l',row,K,hl,hs,hc,h=>by
  simp only [fO,fE] at h ⊢;rw [hl];dsimp only;rw [hs,hc];dsimp only;refine jK (fun l1 h1=>?_) h;rw [yg];have hlt:=ae hl
  have hlt2:=ae hc
  obtain ⟨st2,r2,e⟩:∃ st2 r2,aH (st'::r) 1=st2::r2:=by
   cases r with
   | nil=>exact ⟨_,_,rfl⟩
   | cons a b=>exact ⟨_,_,rfl⟩
  rw [e] at h1 ⊢;refine rX (row:=row.set st.off (.li l1)) (l':=l1) (S8 hlt) hs (S8 hlt2) ?_;refine mi (fun l2 h2=>?_) h1;rw [TU,TU];exact h2
theorem tf:∀ {ts:List Tt} {cs cs':List C} {off:Nat},i9 cs off ts=some cs'->cs'.map C.toD=uK (cs.map C.toD) off ((ts.map Tt.toT).map T.toD)/\(ts.map Tt.toT).all De=true/\(ts≠[]->off+ts.length<=cs.length)/\cs'.length=cs.length
 | [],cs,cs',off,h=>by
  simp only [i9,SJ] at h;subst h; exact ⟨rfl,rfl,fun h=>(h rfl).elim,rfl⟩
 | t::r,cs,cs',off,h=>by
  have step:∀ {c:C},(∃ c0,cs[off]? = some c0)->i9 (cs.set off c) (off+1) r=some cs'->t.toT.toD=c.toD->De t.toT=true ->
    cs'.map C.toD=uK (cs.map C.toD) off (((t::r).map Tt.toT).map T.toD)/\((t::r).map Tt.toT).all De=true/\((t::r)≠[]->off+(t::r).length<=cs.length)/\cs'.length=cs.length:=by
   rintro c ⟨c0,hc0⟩ h2 h3 h4
   obtain ⟨k1,k2,k3,k4⟩:=tf h2;have hlt:=ae hc0
   refine ⟨?_,by simp only [List.map_cons,S6,h4,k2,Up],fun _=>?_,by rw [k4,S3]⟩
   ·rw [k1];simp only [List.map_cons,uK,h3,Tv]
   ·simp only [SU];by_cases hr:r=[]
    ·subst hr; simp only [Te]; omega
    ·have:=k3 hr; rw [S3] at this; omega
  cases t with
  | d c=>
   simp only [i9] at h;split at h
   ·cases h
   ·rename_i hc; exact step ⟨_,hc⟩ h rfl rfl
   ·cases h
  | nil=>
   simp only [i9] at h;split at h
   ·rename_i u' l0 hc; exact step ⟨_,hc⟩ h rfl rfl
   ·cases h
  | _=>simp [i9] at h
theorem B1:∀ {path:List Step} {sub:List Sh} {u:U} {l l':List (El u)} {ts:List Tt} {k:Prop} {K:List (List D)->Prop},ts≠[]->lu sub u l path k->m7 sub u l ts path=some l'->K (l'.map (ai u))->fO sub (l.map (ai u)) (ts.map Tt.toT) path K
 | [],_,_,_,_,_,_,_,_,h,_,_=>h.elim
 | [st],sub,u,l,l',ts,k,K,hne,h,ht,hK=>by
  obtain ⟨h1,_⟩:=h;simp only [m7] at ht;split at ht
  ·rename_i cs hf ho;split at ht
   ·rename_i x hx;simp only [SJ] at ht;subst ht;obtain ⟨k1,k2,k3,k4⟩:=tf ho;have e:=pX hx
    obtain ⟨idx,esz,off⟩:=st;refine vn (ib l h1) k2 (by rw [List.length_map]; exact hf) ?_ ?_
    ·rw [List.length_map,<- bp,List.length_map]; exact k3 hne
    ·rw [Tv] at hK;have e2:ai u x=uK (ai u (l.getD idx (dflt u))) off ((ts.map Tt.toT).map T.toD):=by
      rw [<- bp,<- e,k1,bp]
     rw [e2] at hK;exact hK
   ·cases ht
  ·cases ht
 | st::st'::r,sub,u,l,l',ts,k,K,hne,h,ht,hK=>by
  simp only [m7] at ht;simp only [lu] at h;split at ht
  ·rename_i s u' l0 e1 e2;rw [e1,e2] at h;obtain ⟨h1,h4⟩:=h;split at ht
   ·rename_i l2 hl2;split at ht
    ·rename_i x hx;simp only [SJ] at ht;subst ht;obtain ⟨_,e⟩:=mG hx;have e3:(ai u (l.getD st.idx (dflt u)))[st.off]? = some (.li (l0.map (ai u'))):=by
      rw [<- bp,SM,e2]; rfl
     refine rX (ib l h1) e1 e3 (B1 hne h4 hl2 ?_);rw [Tv,e] at hK;exact hK
    ·cases ht
   ·cases ht
  ·cases ht
theorem xK:∀ {m:Mm} {n:Nm} {r r':Root},bD (bD m n r) n r'=bD m n r'
 | [],_,_,_=>rfl
 | (k,x)::m,n,r,r'=>by
  simp only [bD];by_cases h:k=n
  ·rw [if_pos h,if_pos h]; simp only [bD,if_pos h]
  ·rw [if_neg h,if_neg h]; simp only [bD,if_neg h,xK]
theorem xl:∀ {m:Mm} {n:Nm} {r:Root},aa m n=some r->bD m n r=m
 | [],_,_,h=>by simp [aa] at h
 | (k,x)::m,n,r,h=>by
  simp only [aa] at h;simp only [bD];by_cases hk:k=n
  ·rw [if_pos hk] at h ⊢;rw [Option.some.inj h]
  ·rw [if_neg hk] at h ⊢;rw [xl h]
theorem rU {K:S->Prop}:∀ {ts:List T} {s:S} {p:Pl} {r:Root} {sub:List Sh} {l:List (List D)} {st:Step} {q:List Step},aa s.m p.root=some r->p.path=st::q->r.cells[p.off]? = some (.ow sub l)->ts.all De=true->(∀ t∈ts,t≠.d .any) ->
  fO sub l ts (st::q) (fun l'=>K ⟨s.t,bD s.m p.root { r with cells:=r.cells.set p.off (.ow sub l') }⟩)->ct s p ts K
 | [],s,p,r,sub,l,st,q,hr,hp,hc,_,_,h=>by
  have e1:r.cells.set p.off (.ow sub l)=r.cells:=by
   apply Tw
   intro n;rw [Tp];split
   ·rename_i e; subst e; rw [if_pos (ae hc)]; exact hc.symm
   ·rfl
  simp only [fO,e1] at h;have:bD s.m p.root r=s.m:=xl hr
  rw [show ({ blk:=r.blk,cells:=r.cells }:Root)=r from rfl,this] at h;exact h
 | t::ts,s,p,r,sub,l,st,q,hr,hp,hc,hd,hn,h=>by
  simp only [S6,SL] at hd;have key:ct s p (t::ts) K=nV s.m p t fun m'=>ct ⟨s.t,m'⟩ (p.add 1) ts K:=by
   cases t with
   | d c=>cases c with
    | any=>exact ((hn _ (by simp)) rfl).elim
    | _=>rfl
   | nil=>rfl
   | _=>have:=hd.1; simp [De] at this
  rw [key];unfold nV;rw [hr];dsimp only;rw [hp,hc];dsimp only;simp only [fO] at h;refine jK (fun l1 h1=>?_) h;have hlt:=ae hc
  have ep:(p.add 1).root=p.root/\(p.add 1).off=p.off/\(p.add 1).path=aH (st::q) 1:=by
   obtain ⟨pr,po,pp⟩:=p;dsimp only at hp;subst hp;exact ⟨rfl,rfl,rfl⟩
  obtain ⟨st2,q2,e⟩:∃ st2 r2,aH (st::q) 1=st2::r2:=by
   cases q with
   | nil=>exact ⟨_,_,rfl⟩
   | cons a b=>exact ⟨_,_,rfl⟩
  rw [e] at h1;refine rU (s:=⟨s.t,bD s.m p.root { r with cells:=r.cells.set p.off (.ow sub l1) }⟩) (p:=p.add 1) (r:={ r with cells:=r.cells.set p.off (.ow sub l1) }) (sub:=sub) (l:=l1) (st:=st2) (q:=q2) ?_ (ep.2.2.trans e) ?_ hd.2 (fun t ht=>hn t (by simp [ht])) ?_
  ·rw [ep.1];show aa (bD s.m p.root _) p.root=_
   rw [dQ hr,if_pos rfl]
  ·rw [ep.2.1];exact S8 hlt
  ·refine mi (fun l2 h2=>?_) h1;rw [ep.1,ep.2.1];dsimp only;rw [xK,TU];exact h2
theorem pZ:∀ {ts:List Tt} {cs cs':List C} {off:Nat},i9 cs off ts=some cs'->∀ t∈ts.map Tt.toT,t≠.d .any
 | [],_,_,_,_,t,ht=>by simp at ht
 | t::r,cs,cs',off,h,x,hx=>by
  cases t with
  | d c=>
   have hne:c≠.any:=by rintro rfl; simp [i9] at h
   have h':∃ cs0 o,i9 cs0 o r=some cs':=by
    simp only [i9] at h;split at h
    ·cases h
    ·exact ⟨_,_,h⟩
    ·cases h
   obtain ⟨cs0,o,h'⟩:=h';rcases SS.1 hx with rfl | hx
   ·intro e;simp only [Tt.toT,T.d.injEq] at e;cases c <;> first | exact hne rfl | (simp [C.toD] at e)
   ·exact pZ h' x hx
  | nil=>
   simp only [i9] at h;split at h
   ·rcases SS.1 hx with rfl | hx
    ·intro e; cases e
    ·exact pZ h x hx
   ·cases h
  | _=>simp [i9] at h
theorem xu:∀ {path:List Step} {sub:List Sh} {u:U} {l l':List (El u)} {ts:List Tt},m7 sub u l ts path=some l'->(∀ t∈ts.map Tt.toT,t≠.d .any)/\(ts.map Tt.toT).all De=true
 | [],_,_,_,_,_,h=>by simp [m7] at h
 | [st],_,_,_,_,_,h=>by
  simp only [m7] at h;split at h
  ·rename_i ho; exact ⟨pZ ho,(tf ho).2.1⟩
  ·cases h
 | st::st'::r,_,_,_,_,_,h=>by
  simp only [m7] at h;split at h
  ·split at h
   ·rename_i hl; exact xu hl
   ·cases h
  ·cases h
end Go.Am
end

section
namespace Go.Am
def pQ (P:Program) (s:S) (t u:TypeId) (x y:Operand) (d:Tmp) (k:S->Prop):Prop:=
 match (ty P t).k with
 | .sl e=>(ty P e).ok=true/\(ty P u).k.isSS=true/\((zcells P e).map (·.length))=some (ty P e).size /\
  match gA s (ty P e).size (ev s y) with
  | some (s1,sub1,ys)=>match gA s1 (ty P e).size (ev s1 x) with
   | some (s2,sub,l)=>sub1=sub/\eN sub1.length ys/\l.length+ys.length<=4611686018427387904/\(l.length+ys.length)*(ty P e).bytes<=140737488355328 /\
    k (((s2.fresh (.gh d)).root (.gh d) ⟨false,[.ow sub (l++ys)]⟩).put (some d) (.one (.c (.rf ⟨.gh d,0,[]⟩))))
   | none=>False
  | none=>False
 | _=>False
section
variable {P:Program} {g:G} {s:S} {a:Act} {w:World} {H:FH} {γ:Gam} {F:Nm->Fp}
theorem Lx {k:Nat} {sh:Sh} {x:D} {f:Fp} {y:Value} (hs:x.sure=true) (h:OD w H k sh x f y):gc y=true:=by
 cases sh with
 | fr=>exact G4 hs (cw.1 h).2
 | ow sub=>
  cases k with
  | zero=>cases x <;> first | (simp [OD] at h; done) | (simp [D.sure] at hs)
  | succ k=>
   cases x with
   | li l=>
    obtain ⟨a,c,_,_,rfl,_⟩:=ka h;rfl
   | any=>simp [D.sure] at hs
   | _=>simp [OD] at h
theorem Kg {k:Nat}:∀ {ss:List Sh} {xs:List D} {f:Fp} {vs:List Value},vs.length=xs.length->(∀ x∈xs,x.sure=true)->Cs (OD w H k) ss xs f vs->∀ u∈vs,gc u=true
 | [],[],_,vs,hl,_,_=>by
  have:vs=[]:=by simpa using hl
  subst this; simp
 | s::ss,x::xs,f,vs,hl,hx,h=>by
  obtain ⟨v,r,f1,f2,rfl,_,h1,h2⟩:=h;intro u hu;rcases SS.1 hu with rfl | hu
  ·exact Lx (hx x (by simp)) h1
  ·exact Kg (by simpa using hl) (fun y hy=>hx y (by simp [hy])) h2 u hu
 | [],_::_,_,_,_,_,h=>h.elim
 | _::_,[],_,_,_,_,h=>h.elim
theorem NH {k:Nat} {sub:List Sh} {ys:List (List D)} {f:Fp} {v:Value} (h:OD w H k (.ow sub) (.li ys) f v) (hok:eN sub.length ys) :
  ∃ (kx:Nat) (gx:Fp) (ws:List Value),Src P w sub.length v ys.length ws/\Cs (OD w H kx) (List.replicate ys.length sub).flatten ys.flatten gx ws/\(∀ u∈ws,gc u=true)/\∀ b,gx b<=f b:=by
 cases k with
 | zero=>simp [OD] at h
 | succ k=>
  obtain ⟨ad,c,gg,vs,rfl,hlc,hlb,hlen,hvs,hcs,hwhere⟩:=ka h;refine ⟨k,gg,vs,?_,hcs,?_,?_⟩
  ·rcases hwhere with ⟨rfl,rfl,rfl,_⟩ | ⟨b,cs,ty,fz,rfl,hb,hfz,hcsz,rfl,hf⟩
   ·have:vs=[]:=by simpa using hvs
    subst this;exact lZ
   ·refine rj hvs (fun j u hj=>?_);have hjl:=ae hj
    rw [TF] at hjl;rw [S2 (by omega)] at hj;simp only [World.cell?,hb,TN,SV,if_false,TJ];simpa using hj
  ·refine Kg (by rw [hvs,bI _ _ hlen]) (fun x hx=>?_) hcs;rw [List.mem_flatten] at hx;obtain ⟨y,hy,hxy⟩:=hx;exact (hok y hy).2 x hxy
  ·intro b;rcases hwhere with ⟨rfl,rfl,rfl,hf0⟩ | ⟨b',cs,ty,fz,rfl,hb,hfz,hcsz,rfl,hf⟩
   ·have hv0:vs=[]:=by simpa using hvs
    have:∀ b,gg b=0:=by simpa [Cs] using hcs
    rw [this b]; exact Tf _
   ·rw [hf]; omega
theorem iB (h:RX g s a w H γ F) {size:Nat} {x:AV} {v:Value} {s1:S} {sub:List Sh} {l:List (List D)} (hx:AR w H γ s.m x v) (hb:gA s size x=some (s1,sub,l)) :
  ∃ k f F1,OD w H k (.ow sub) (.li l) f v/\RX g s1 a w H γ F1/\sub.length=size/\(∀ b,tot F1 s1.m b+f b=tot F s.m b)/\(∀ b,f b≠0->b<w.heap.size/\(∀ o,H b o=none)/\(g.own0 b≠0\/g.w0.heap.size<=b)):=by
 match x,hb with
 | .one (.c .nil),hb=>
  simp only [gA,SJ,Prod.mk.injEq] at hb;obtain ⟨rfl,rfl,rfl⟩:=hb;obtain ⟨_,rfl⟩:=hx;refine ⟨1,fun _=>0,F,?_,h,by simp,fun b=>rfl,fun b hb=>absurd rfl hb⟩;rw [cM]; exact .inl ⟨rfl,rfl,fun _=>rfl⟩
 | .one (.c (.rf q)),hb=>
  simp only [gA] at hb;cases hg:aP s.m q with
  | none=>rw [hg] at hb; simp at hb
  | some t=>
   rw [hg] at hb;cases t with
   | ow sub' l'=>
    dsimp only at hb;split at hb
    ·rename_i hsz;simp only [SJ,Prod.mk.injEq] at hb;obtain ⟨rfl,rfl,rfl⟩:=hb;obtain ⟨_,hok,hv⟩:=hx;obtain ⟨v',f,F',e1,⟨k,e2⟩,e3,e4⟩:=Cz h (dM hok) hg;rw [hv] at e1;obtain rfl:v=v':=by simpa using e1
     exact ⟨k,f,F',e2,e3,hsz,e4,fun b hb=>by
      have hne:tot F s.m b≠0:=by have:=e4 b; omega
      exact ⟨h.mem.lt b hne,h.mem.nofz b hne,h.fr.tt b hne⟩⟩
    ·simp at hb
   | _=>simp at hb
theorem BX (h:RX g s a w H γ F) {t u tt:TypeId} {x y:Operand} {d:Tmp} {k:S->Prop} (hd:okD g.nt (some d)=true) (hx:ay x=true) (hy:ay y=true) (hK:pQ P s t u x y d k) :
  ∃ s' z w' H' γ' F',(Builtin.append_ #[t,u] tt #[a.eval x,a.eval y]).run P w=.ok z w'/\k s'/\RX g s' (a.put (some d) z) w' H' γ' F':=by
 unfold pQ at hK;cases hk:(ty P t).k with
 | sl e=>
  rw [hk] at hK;obtain ⟨hok,hss,hzl,hK⟩:=hK;obtain ⟨_,td,hit,hud,htk,_⟩:=aO hk (by simp);have:=je htk
  subst this;obtain ⟨ie,de,hie,_,_,hsize,hbytes,_⟩:=cV hok;rw [hsize,hbytes] at hK;rw [hsize] at hzl;obtain ⟨zs,hzs,hzl⟩:=Tq.1 hzl;obtain ⟨it',z,hi',hz,hzc,_⟩:=f7 hzs;rw [hie] at hi';obtain rfl:ie=it':=by simpa using hi'
  have hzsz:z.cells.size=ie.size:=by rw [<- hzl,<- hzc]; simp
  obtain ⟨ud,huu,hudd⟩:∃ ud,P.underlying u=some ud/\isSS ud=true:=by
   have hne:(ty P u).k≠.ot:=fun e=>by rw [e] at hss; simp [TK.isSS] at hss
   obtain ⟨_,ud,_,h2,h3,_⟩:=aO rfl hne;refine ⟨ud,h2,?_⟩;rw [<- h3] at hss;cases ud <;> first | rfl | (simp [fw,TK.isSS] at hss)
  cases hsr:gA s ie.size (ev s y) with
  | none=>rw [hsr] at hK; exact hK.elim
  | some q1=>
   obtain ⟨s1,sub1,ys⟩:=q1;rw [hsr] at hK;dsimp only at hK;obtain ⟨k1,f1,F1,d1,h1,d3,d4,d5⟩:=iB h (aD h hy) hsr;cases hbs:gA s1 ie.size (ev s1 x) with
   | none=>rw [hbs] at hK; exact hK.elim
   | some q=>
    obtain ⟨s2,sub,l⟩:=q;rw [hbs] at hK;obtain ⟨hsub,hrows,hb62,hby,hK⟩:=hK;subst hsub;obtain ⟨kb,f,F2,b1,b2,b3,b4',b5⟩:=iB h1 (aD h1 hx) hbs;have b4:∀ b,tot F2 s2.m b+f b+f1 b<=1:=fun b=>by have:=b4' b; have:=d4 b; have:=h.mem.le1 b; omega
    obtain ⟨kx,gx,ws,r1,r2,r3,r4⟩:=NH (P:=P) d1 hrows;rw [d3] at r1;obtain ⟨z',w',f',c1,⟨k',c2⟩,c3,c4,c5,c6,c7,c8,c9⟩:=oc (tt:=tt) hud huu hudd hie hz hzsz (gx:=gx) (kx:=kx) b3 b1 r1 (fun y hy=>(hrows y hy).1)
     r2 r3 (fun b=>by have:=b4 b; have:=r4 b; omega) (fun b hb=>by rcases hb with hb | hb; exact (b5 b hb).1; exact (d5 b (by have:=r4 b; omega)).1) hb62 hby
    have hX:=pG b2 c3 c4 c5 c6 (fun b hb=>by
     rcases c7 b hb with h3 | h3
     ·exact .inl h3
     ·exact .inr ⟨by have:=b4 b; omega,(b5 b h3.1).2.1,(b5 b h3.1).2.2,h3.2⟩)
    have hX2:=bU hX (.gh d)
    have hn:=bA hX (.gh d)
    have hHnew:∀ b,w.heap.size<=b->∀ o,H b o=none:=by
     intro b hb o;cases hc:H b o with
     | none=>rfl
     | some y=>have:=World.block_lt_of_cell? _ _ (h1.mem.agree _ _ _ hc); simp at this; omega
    have hts:∀ b,tot F2 (s2.fresh (.gh d)).m b<=tot F2 s2.m b:=by
     intro b;unfold S.fresh;split
     ·exact SN _
     ·show tot F2 (au _ _) b<=_
      rw [aM]; exact dh
    have htz:tot F2 s2.m w.heap.size=0:=by
     rcases S7 (tot F2 s2.m w.heap.size) with h' | h'
     ·exact h'
     ·have:=b2.mem.lt w.heap.size (by omega); omega
    have own:∀ b,f' b≠0->b≠w.heap.size->b<w.heap.size/\(∀ o,H b o=none)/\(g.own0 b≠0\/g.w0.heap.size<=b):=by
     intro b hb hb2;have h5:=c8 b
     have h6:=r4 b
     rw [if_neg hb2] at h5;by_cases hf:f b=0
     ·exact d5 b (by omega)
     ·exact b5 b hf
    obtain ⟨γ',F',hX3,hγ⟩:=di hX2 (n:=.gh d) rfl hn (v:=z') (t:=.ow sub1 (l++ys)) (f:=f') ⟨k',c2⟩ (fun b=>by
      have h3:=hts b; have h4:=b4 b; have h5:=c8 b; have h6:=r4 b
      by_cases hb:b=w.heap.size
      ·subst hb;have e1:f w.heap.size=0:=by
        rcases S7 (f w.heap.size) with h' | h'
        ·exact h'
        ·have:=(b5 w.heap.size (by omega)).1; omega
       have e2:f1 w.heap.size=0:=by
        rcases S7 (f1 w.heap.size) with h' | h'
        ·exact h'
        ·have:=(d5 w.heap.size (by omega)).1; omega
       rw [if_pos rfl] at h5; omega
      ·rw [if_neg hb] at h5; omega)
     (fun b hb=>⟨c9 b hb,by
      by_cases hb2:b=w.heap.size
      ·subst hb2; exact hHnew _ (SN _)
      ·exact (own b hb hb2).2.1⟩)
     (fun b hb=>by
      by_cases hb2:b=w.heap.size
      ·right; have:=b2.fr.size; omega
      ·exact (own b hb hb2).2.2)
    refine ⟨_,z',w',H,γ',F',c1,hK,RX.put hX3 hd (dD (sub:=sub1) (l:=l++ys) ?_ hγ)⟩;simp [aa]
 | _=>rw [hk] at hK; exact hK.elim
end
end Go.Am
end

section
namespace Go.Am
def fzS:List Sh->List T->Option (List D)
 | [],[]=>some []
 | .fr::ss,t::ts=>match fzS ss ts with
  | some r=>some (t.fz::r)
  | none=>none
 | .ow _::ss,.nil::ts=>match fzS ss ts with
  | some r=>some (.li []::r)
  | none=>none
 | _,_=>none
section
variable {P:Program} {g:G} {s:S} {a:Act} {w:World} {H:FH} {γ:Gam} {F:Nm->Fp}
theorem yY {k:Nat} {m:Mm}:∀ {ss:List Sh} {ts:List T} {xs:List D} {f:Fp} {vs:List Value},(∀ b,f b=0)->fzS ss ts=some xs->Ts (TR w H γ m) ts f vs ->
  Cs (OD w H (k+1)) ss xs f vs
 | [],[],xs,_,_,hf,hz,_=>by
  simp only [fzS,SJ] at hz; subst hz; exact hf
 | .fr::ss,t::ts,xs,f,vs,hf,hz,h=>by
  simp only [fzS] at hz;cases h5:fzS ss ts with
  | none=>rw [h5] at hz; cases hz
  | some r0=>
   rw [h5] at hz;simp only [SJ] at hz;subst hz;obtain ⟨v,r,f1,f2,h1,h2,h3,h4⟩:=h;refine ⟨v,r,f1,f2,h1,h2,?_,yY (fun b=>by have:=hf b; have:=h2 b; omega) h5 h4⟩;rw [cw];refine ⟨fun b=>by have:=hf b; have:=h2 b; omega,?_⟩;cases t with
   | d x=>exact h3.2
   | nil=>obtain ⟨_,rfl⟩:=h3; exact ig
   | _=>exact ⟨0,trivial⟩
 | .ow sub::ss,.nil::ts,xs,f,vs,hf,hz,h=>by
  simp only [fzS] at hz;cases h5:fzS ss ts with
  | none=>rw [h5] at hz; cases hz
  | some r0=>
   rw [h5] at hz;simp only [SJ] at hz;subst hz;obtain ⟨v,r,f1,f2,h1,h2,h3,h4⟩:=h;refine ⟨v,r,f1,f2,h1,h2,?_,yY (fun b=>by have:=hf b; have:=h2 b; omega) h5 h4⟩;obtain ⟨_,rfl⟩:=h3;rw [cM];exact .inl ⟨rfl,rfl,fun b=>by have:=hf b; have:=h2 b; omega⟩
 | [],_::_,_,_,_,_,hz,_=>by simp [fzS] at hz
 | .fr::_,[],_,_,_,_,hz,_=>by simp [fzS] at hz
 | .ow _::_,[],_,_,_,_,hz,_=>by simp [fzS] at hz
 | .ow _::_,.d _::_,_,_,_,_,hz,_=>by simp [fzS] at hz
 | .ow _::_,.ow _ _::_,_,_,_,_,hz,_=>by simp [fzS] at hz
 | .ow _::_,.el _ _::_,_,_,_,_,hz,_=>by simp [fzS] at hz
 | .ow _::_,.pl _::_,_,_,_,_,hz,_=>by simp [fzS] at hz
 | .ow _::_,.rf _::_,_,_,_,_,hz,_=>by simp [fzS] at hz
 | .ow _::_,.any::_,_,_,_,_,hz,_=>by simp [fzS] at hz
theorem tD (h:RX g s a w H γ F) {n:Nm} (hno:n.isOut=false) (hn:aa s.m n=none) {cs:Array Value} {ty':TypeId} {len cap:Nat} {sub:List Sh} {l:List (List D)} (hl:l.length=len) (hle:len<=cap) (hbig:len<=BIG)
  (hx:∀ x∈l,x.length=sub.length) (hsz:cs.size=cap*sub.length) (hcs:∀ k,Cs (OD w H (k+1)) (List.replicate len sub).flatten l.flatten (fun _=>0) cs.toList) :
  ∃ γ' F',RX g (s.root n ⟨false,[.ow sub l]⟩) a (w.alloc (.cells cs ty')) H γ' F'/\γ' n=.gh (.slice (some ⟨w.heap.size,0,none⟩) len cap):=by
 obtain ⟨hm,hf,hK,hH⟩:=mN h.mem cs ty' false;simp only [SV,false_and,if_false] at hm hf hK hH;have hX:RX g s a (w.alloc (.cells cs ty')) H γ F:=dP h hm hf (fun i=>bu hK (fun _ _ _ h=>h) (h.t i)) (fun _=>rfl)
 have hz:tot F s.m w.heap.size=0:=by
  rcases S7 (tot F s.m w.heap.size) with h' | h'
  ·exact h'
  ·have:=h.mem.lt w.heap.size (by omega); omega
 have hHz:∀ o,H w.heap.size o=none:=by
  intro o;cases hc:H w.heap.size o with
  | none=>rfl
  | some y=>have:=World.block_lt_of_cell? _ _ (h.mem.agree _ _ _ hc); simp at this
 have hcs':∀ k,Cs (OD (w.alloc (.cells cs ty')) H (k+1)) (List.replicate len sub).flatten l.flatten (fun _=>0) cs.toList:=by
  intro k;refine fJ _ _ _ _ (fun s x g v hg hod=>?_) (hcs k);exact be (fun _ _ _ h=>h) (k+1) (k+1) _ _ _ _ (SN _) (fun b hb=>absurd (Nat.le_zero.1 (hg b)) hb) hod
 subst hl;have hod:TR (w.alloc (.cells cs ty')) H γ s.m (.ow sub l) (fun b=>0+if b=w.heap.size then 1 else 0) (.slice (some ⟨w.heap.size,0,none⟩) l.length cap):=
  ⟨2,qy (br) rfl hsz hle hbig hx (hcs' 0)⟩
 exact di hX hno hn hod (fun b=>by
   by_cases hb:b=w.heap.size
   ·subst hb; rw [hz]; simp
   ·rw [if_neg hb]; have:=h.mem.le1 b; omega)
  (fun b hb=>by
   have hb':b=w.heap.size:=by
    by_cases hb':b=w.heap.size
    ·exact hb'
    ·rw [if_neg hb'] at hb; simp at hb
   subst hb';exact ⟨by simp,hHz⟩)
  (fun b hb=>by
   have hb':b=w.heap.size:=by
    by_cases hb':b=w.heap.size
    ·exact hb'
    ·rw [if_neg hb'] at hb; simp at hb
   right; have:=h.fr.size; omega)
def ic (P:Program) (s0:S) (t:TypeId) (len:Nat) (sub:List Sh) (ps:Array (Nat×Operand)) (d:Tmp) (k:S->Prop):Prop:=
 match (ty P t).k with
 | .sl e=>(ty P e).ok=true/\(zcells P e).isSome=true/\len*(ty P e).size<=16777216/\len<=16777216/\sub.length=(ty P e).size /\
  let s:=(g8 s0 (ps.toList.map fun x=>ev s0 x.2)).fresh (.gh d)
  match gX (fun i=>some (i*(ty P e).size,(ty P e).size)) (List.replicate (len*(ty P e).size) .any) (iP s ps) with
  | some ts=>match fzS (List.replicate len sub).flatten ts with
   | some xs=>k ((s.root (.gh d) ⟨false,[.ow sub (chunk (ty P e).size len xs)]⟩).put (some d) (.one (.c (.rf ⟨.gh d,0,[]⟩))))
   | none=>False
  | none=>False
 | _=>False
theorem sm (h:RX g s a w H γ F) {t:TypeId} {len:Nat} {ps:Array (Nat×Operand)} {d:Tmp} {sub:List Sh} {k:S->Prop} (hd:okD g.nt (some d)=true) (hp:(ps.toList.all fun x=>ay x.2)=true) (hK:ic P s t len sub ps d k) :
  ∃ s' y w' H' γ' F',(Instr.buildSlice t len (ps.map fun (i,x)=>(i,a.eval x))).run P w=.ok y w'/\k s'/\RX g s' (a.put (some d) y) w' H' γ' F':=by
 unfold ic at hK;cases hk:(ty P t).k with
 | sl e=>
  rw [hk] at hK;obtain ⟨hok,hzc,hsmall,hlb,hsl,hK⟩:=hK;obtain ⟨_,td,hit,hud,htk,_⟩:=aO hk (by simp);have:=je htk
  subst this;obtain ⟨ie,de,hie,_⟩:=cV hok;have hsize:(ty P e).size=ie.size:=by
   obtain ⟨ie',_,hie',_,_,hs,_⟩:=cV hok;rw [hie] at hie';obtain rfl:ie=ie':=by simpa using hie'
   exact hs
  obtain ⟨zs,hzs⟩:=Option.isSome_iff_exists.1 hzc;obtain ⟨it',z,hi',hz,_⟩:=f7 hzs;rw [hie] at hi';obtain rfl:ie=it':=by simpa using hi'
  obtain ⟨H1,F1,h1⟩:=iI (ps.toList.map fun x=>ev s x.2) s H F h;have h2:=bU h1 (.gh d)
  have hn:=bA h1 (.gh d)
  dsimp only at hK;generalize (g8 s (ps.toList.map fun x=>ev s x.2)).fresh (.gh d)=s2 at hK h2 hn;cases hf:gX (fun i=>some (i*(ty P e).size,(ty P e).size)) (List.replicate (len*(ty P e).size) .any) (iP s2 ps) with
  | none=>rw [hf] at hK; exact hK.elim
  | some ts=>
   rw [hf] at hK;dsimp only at hK;rw [hsize] at hf hK hsmall hsl;have hpr:PR w H1 γ s2.m (iP s2 ps) (ps.map fun (i,x)=>(i,a.eval x)).toList:=by
    rw [Array.toList_map];exact ov (m:=s2.m) h2 hp
   have hfill:∀ us:Array Value,us.size=len*ie.size->∃ cs,Instr.fill (fun i=>some (i*ie.size,ie.size)) us (ps.map fun (i,x)=>(i,a.eval x)).toList=some cs/\cs.size=ts.length/\Ts (TR w H1 γ s2.m) ts (fun _=>0) cs.toList:=by
    intro us hus;refine sL h2.mem _ _ _ us ts hpr (by simpa using hus) ?_ hf;have:=Fd (w:=w) (H:=H1) (γ:=γ) (m:=s2.m) (vs:=us.toList)
    rw [show us.toList.length=len*ie.size from by simpa using hus] at this;exact this
   have hlen:ts.length=len*ie.size:=by rw [kQ hf]; simp
   obtain ⟨us,cs,u1,u2,u3⟩:=eE (P:=P) (w:=w) (t:=t) (e:=e) (len:=len) (vs:=ps.map fun (i,x)=>(i,a.eval x)) (cells:=#[]) hud hie hz (by omega) (fun us hus=>by
    obtain ⟨cs,c1,c2,_⟩:=hfill us hus;exact ⟨cs,c1,by rw [c2,hlen],.inr trivial⟩)
   obtain ⟨cs',c1,c2,c3⟩:=hfill us u1;rw [u2] at c1;obtain rfl:cs=cs':=by simpa using c1
   cases hz2:fzS (List.replicate len sub).flatten ts with
   | none=>rw [hz2] at hK; exact hK.elim
   | some xs=>
    rw [hz2] at hK;dsimp only at hK;have hcs:∀ k,Cs (OD w H1 (k+1)) (List.replicate len sub).flatten xs (fun _=>0) cs.toList:=fun k=>yY (fun _=>rfl) hz2 c3
    have hmap:xs.length=len*ie.size:=by
     have h5:=(xd _ _ _ _ (hcs 0)).1
     rw [<- h5,bI sub.length _ (fun x hx=>by rw [(List.mem_replicate.1 hx).2]),T3,hsl]
    obtain ⟨γ',F',hX,hγ⟩:=tD h2 (n:=.gh d) rfl hn (cs:=cs) (ty':=e) (len:=len) (cap:=len) (sub:=sub) (l:=chunk ie.size len xs) kG (SN _) (by
      show len<=2 ^ 62
      omega) (by rw [hsl]; exact qQ hmap) (by rw [c2,hlen,hsl]) (fun k=>by
       rw [nZ hmap];exact hcs k)
    refine ⟨_,_,_,H1,γ',F',u3,hK,RX.put hX hd (dD (sub:=sub) (l:=chunk ie.size len xs) ?_ hγ)⟩;simp [S.root,aa]
 | _=>rw [hk] at hK; exact hK.elim
end
end Go.Am
end

section
namespace Go.Am
abbrev upS (k:St->Prop):S->Prop:=fun s'=>∃ t:St,SEq s' t.toS/\k t
theorem Fa {P:Program} {t:TypeId} {zs:List Value} (h:zcells P t=some zs):zs.all okT=true:=by
 unfold zcells at h;split at h
 ·split at h
  ·split at h
   ·rename_i hz;simp only [SJ] at h;subst h;simpa using hz
   ·cases h
  ·cases h
 ·cases h
section
variable {P:Program} {s:St} {k:St->Prop}
theorem Ix {t:TypeId} {d:Tmp} (hn:ND s.m) (h:mb P s t d k):qS P s.toS t d (upS k):=by
 unfold mb at h;split at h
 ·rename_i z zs hz;split at h
  ·rename_i hd;unfold qS;rw [hz];refine ⟨by simp,SP hd,_,?_,h⟩;have e:((s.fresh (jf t d)).root (jf t d) ⟨true,(z::zs).map lD,none⟩).toS=(s.toS.fresh (jf t d)).root (jf t d) ⟨true,(z::zs).map mW⟩:=by
    rw [<- bk hn,<- FQ (Fa hz)]; rfl
   rw [<- e];exact ba ((s.fresh (jf t d)).root (jf t d) ⟨true,(z::zs).map lD,none⟩) (some d) (.one (.c (.pl ⟨jf t d,0,[]⟩)))
  ·exact h.elim
 ·exact h.elim
theorem OW {x:Operand} {d:Tmp} (hn:ND s.m) (hx:ay x=true) (h:Bg s x d k):I0 s.toS x d (upS k):=by
 unfold Bg at h;split at h
 ·rename_i t ts hc;split at h
  ·rename_i hd;simp only [SL] at hd;unfold I0;rw [<- bk hn,af hx,nH,hc];dsimp only [Option.map_some];refine ⟨by simp,?_,SP hd.2,_,?_,h⟩
   ·rw [UG,<- hd.1]; congr 1; funext t; exact BZ t
   ·exact ba ((s.fresh (.loc d)).root (.loc d) ⟨true,t::ts,none⟩) (some d) (.one (.c (.pl ⟨.loc d,0,[]⟩)))
  ·exact h.elim
 ·exact h.elim
theorem GD {u:U} {t:Tt} {x:El u} (h:wa u t=some x):t.toT.fz=(am u x).toD:=by
 unfold wa at h;split at h
 ·rename_i c; rw [cU h];rfl
 ·split at h
  ·simp only [SJ] at h; subst h; rfl
  ·cases h
 ·cases h
theorem Aa:∀ {us:List U} {ts:List Tt} {x:Fl us},jp us ts=some x->ts.map (fun t=>t.toT.fz)=(dz us x).map C.toD
 | [],[],_,_=>rfl
 | u::r,c::cs,x,h=>by
  simp only [jp] at h;cases h1:wa u c with
  | none=>rw [h1] at h; cases h
  | some y=>
   cases h2:jp r cs with
   | none=>rw [h1,h2] at h; cases h
   | some z=>
    rw [h1,h2] at h;simp only [SJ] at h;subst h;rw [dz,oI,oq,List.map_cons,List.map_cons,GD h1,Aa h2]
 | [],_::_,_,h=>by simp [jp] at h
 | _::_,[],_,h=>by simp [jp] at h
theorem O9 {u:U} {ts:List Tt} {x:El u} (h:gi u ts=some x):ts.map (fun t=>t.toT.fz)=ai u x:=by
 rw [<- bp];cases u with
 | st n=>
  simp only [gi] at h;cases h1:jp (sd n).fs ts with
  | none=>rw [h1] at h; cases h
  | some y=>
   rw [h1] at h;have:=Option.some.inj h
   subst this;show _=(dz (sd n).fs ((sd n).un ((sd n).mkF y))).map C.toD
   rw [(sd n).l2,Aa h1]
 | _=>
  cases ts with
  | nil=>cases h
  | cons t r=>cases r with
   | nil=>rw [iy rfl]; simp only [List.map_cons,List.map_nil]; rw [GD h]
   | cons _ _=>cases h
theorem kP {u:U}:∀ {rows:List (List Tt)} {l:List (El u)},fN u rows=some l->rows.map (fun r=>r.map fun t=>t.toT.fz)=l.map (ai u)
 | [],l,h=>by simp only [fN,SJ] at h; subst h; rfl
 | r::rs,l,h=>by
  simp only [fN] at h;cases h1:gi u r with
  | none=>rw [h1] at h; cases h
  | some x=>
   cases h2:fN u rs with
   | none=>rw [h1,h2] at h; cases h
   | some xs=>
    rw [h1,h2] at h;simp only [SJ] at h;subst h;rw [List.map_cons,List.map_cons,O9 h1,kP h2]
theorem qa {α β:Type} (f:α->β) (size:Nat):∀ (n:Nat) (l:List α),chunk size n (l.map f)=(chunk size n l).map (·.map f)
 | 0,_=>rfl
 | n+1,l=>by simp only [chunk,List.map_cons,Ug]; rw [<- Uo,qa f size n]
theorem Ae {ps:Array (Nat×Operand)} (h:(dA s ps).all (fun x=>x.2.noRf)=true):(ps.toList.map fun x=>evA s x.2).all At.noRf=true:=by
 unfold dA at h;rw [UG] at h ⊢;exact h
theorem Ge {xs:List (Nat×Operand)} (h:(xs.all fun x=>ay x.2)=true):(xs.map fun x=>ev s.toS x.2)=(xs.map fun x=>evA s x.2).map At.toV:=by
 rw [SX];exact S1 fun x hx=>af (SQ.1 h x hx)
theorem tV {E:Ut} {t:TypeId} {len:Nat} {ps:Array (Nat×Operand)} {d:Tmp} (hps:(ps.toList.all fun x=>ay x.2)=true)
  (hn:ND (aX s (ps.toList.map fun x=>evA s x.2)).m) (h:cW P E s t len ps d k):fo P (aX s (ps.toList.map fun x=>evA s x.2)).toS t len ps d (upS k):=by
 unfold cW at h;split at h
 ·rename_i e ht;split at h
  ·rename_i u z he hz;split at h
   ·rename_i hc;simp only [SL] at hc;obtain ⟨⟨⟨c1,c2⟩,c3⟩,c4⟩:=hc;have hsz:=SO c2
    dsimp only at h;generalize hs1:aX s (ps.toList.map fun x=>evA s x.2)=s1 at h hn;split at h
    ·rename_i ts hf hno;split at h
     ·rename_i l hl;unfold fo;rw [ht];dsimp only;refine ⟨c1,by rw [hz]; rfl,by rw [<- hsz]; exact SP c3,SP c4,?_⟩;rw [Ge hps,dy (Ae hno),<- bk hn,qI hps,<- hsz];have hf':=mQ hf
      rw [List.map_replicate] at hf';have e0:Tt.any.toT=T.any:=rfl
      rw [e0] at hf';rw [hf'];dsimp only;refine ⟨_,?_,h⟩;have er:(⟨false,[.ow (List.replicate (nc u) .fr) u l],none⟩:Rt).toR=⟨false,[.ow (List.replicate (nc u) .fr) (chunk (nc u) len ((ts.map Tt.toT).map T.fz))]⟩:=by
       have e2:chunk (nc u) len ((ts.map Tt.toT).map T.fz)=l.map (ai u):=by rw [SX,qa]; exact kP hl
       rw [e2]; rfl
      rw [<- er];exact ba ((s1.fresh (.gh d)).root (.gh d) ⟨false,[.ow (List.replicate (nc u) .fr) u l],none⟩) (some d) (.one (.c (.rf ⟨.gh d,0,[]⟩)))
     ·exact h.elim
    ·exact h.elim
   ·exact h.elim
  ·exact h.elim
 ·exact h.elim
theorem pD:∀ {ss:List Sh} {ts:List Tt},kh ss ts=true->fzS ss (ts.map Tt.toT)=some (ts.map fun t=>t.toT.fz)
 | [],[],_=>rfl
 | .fr::r,t::ts,h=>by
  simp only [List.map_cons,fzS];rw [pD (show kh r ts=true from h)]
 | .ow sub::r,t::ts,h=>by
  cases t with
  | nil=>
   simp only [List.map_cons,Tt.toT,fzS];rw [pD (show kh r ts=true from h)]; rfl
  | _=>simp [kh] at h
 | [],_::_,h=>by simp [kh] at h
 | .fr::_,[],h=>by simp [kh] at h
 | .ow _::_,[],h=>by simp [kh] at h
theorem sv {E:Ut} {sub:List Sh} {t:TypeId} {len:Nat} {ps:Array (Nat×Operand)} {d:Tmp} (hps:(ps.toList.all fun x=>ay x.2)=true)
  (hn:ND (aX s (ps.toList.map fun x=>evA s x.2)).m) (h:cx P E sub s t len ps d k):ic P (aX s (ps.toList.map fun x=>evA s x.2)).toS t len sub ps d (upS k):=by
 unfold cx at h;split at h
 ·rename_i e ht;split at h
  ·rename_i u z he hz;split at h
   ·rename_i hc;simp only [SL] at hc;obtain ⟨⟨⟨⟨c1,c2⟩,c3⟩,c4⟩,c5⟩:=hc;have hsz:=SO c2
    dsimp only at h;generalize hs1:aX s (ps.toList.map fun x=>evA s x.2)=s1 at h hn;split at h
    ·rename_i ts hf hno;split at h
     ·rename_i l hl hsub;unfold ic;rw [ht];dsimp only;refine ⟨c1,by rw [hz]; rfl,by rw [<- hsz]; exact SP c3,SP c4,by rw [<- hsz]; exact SO c5,?_⟩;rw [Ge hps,dy (Ae hno),<- bk hn,qI hps,<- hsz];have hf':=mQ hf
      rw [List.map_replicate] at hf';have e0:Tt.any.toT=T.any:=rfl
      rw [e0] at hf';rw [hf'];dsimp only;rw [pD hsub];dsimp only;refine ⟨_,?_,h⟩;have er:(⟨false,[.ow sub u l],none⟩:Rt).toR=⟨false,[.ow sub (chunk (nc u) len (ts.map fun t=>t.toT.fz))]⟩:=by
       have e2:chunk (nc u) len (ts.map fun t=>t.toT.fz)=l.map (ai u):=by rw [qa]; exact kP hl
       rw [e2]; rfl
      rw [<- er];exact ba ((s1.fresh (.gh d)).root (.gh d) ⟨false,[.ow sub u l],none⟩) (some d) (.one (.c (.rf ⟨.gh d,0,[]⟩)))
     ·exact h.elim
    ·exact h.elim
   ·exact h.elim
  ·exact h.elim
 ·exact h.elim
theorem uM {m:List (Nm×Nat×Rt)} {n:Nm} {i:Nat} {r:Rt} (h:ND m):ND (cO m n i r):=by
 unfold ND; rw [xI]; exact h
theorem JM (t:Tt):t.toT.owned=t.owned:=by cases t <;> rfl
theorem FP {p:Pl} {t:Tt} (h:vW s p t k) (hn:ND s.m):∃ m',(∀ K:Mm->Prop,K m'->nV s.toS.m p t.toT K)/\∃ s':St,s'.toS=⟨s.toS.t,m'⟩/\ND s'.m/\k s':=by
 unfold vW at h;split at h
 ·exact h.elim
 ·rename_i r hr;split at h
  ·rename_i t0 hpath hh hc;split at h
   ·rename_i ho;have ec:r.toR.cells=r.cells.map Tt.toT:=by show holed _ r.hole=_; rw [hh]; rfl
    refine ⟨bD s.toS.m p.root ⟨r.blk,(r.cells.map Tt.toT).set p.off t.toT⟩,fun K hK=>?_,_,?_,uM hn,h⟩
    ·unfold nV;rw [show aa s.toS.m p.root=some r.toR from aT hr];dsimp only;rw [hpath,ec,SM,hc];exact ⟨by rw [JM]; exact ho,hK⟩
    refine aZ.S_ext rfl ?_;show toM (cO s.m p.root s.nx _)=_
    rw [eD]
    congr 1
    simp only [Rt.toR,hh,holed,Tv]
   ·exact h.elim
  ·rename_i st q sub u l hpath hh hc;split at h
   ·rename_i l' hl;have ec:r.toR.cells=r.cells.map Tt.toT:=by show holed _ r.hole=_; rw [hh]; rfl
    refine ⟨bD s.toS.m p.root ⟨r.blk,(r.cells.map Tt.toT).set p.off (.ow sub (l'.map (ai u)))⟩,fun K hK=>?_,_,?_,uM hn,za h⟩
    ·unfold nV;rw [show aa s.toS.m p.root=some r.toR from aT hr];dsimp only;rw [hpath,ec,SM,hc];exact As h hl hK
    refine aZ.S_ext rfl ?_;show toM (cO s.m p.root s.nx _)=_
    rw [eD]
    congr 1
    simp only [Rt.toR,hh,holed,Tv,Tt.toT]
   ·exact h.elim
  ·rename_i st q off st' q' sub u l hpath hh hc;split at h
   ·rename_i sh v lv hb;split at h
    ·rename_i l' hl;have hoff:off=p.off:=SO hb
     subst hoff;obtain ⟨epath,hk⟩:=wQ (za h);have hlt:p.off < (r.cells.map Tt.toT).length:=by rw [List.length_map]; exact ae hc
     simp only [List.cons.injEq] at epath;obtain ⟨rfl,rfl⟩:=epath;have ec:r.toR.cells=(r.cells.map Tt.toT).set p.off (.ow sub (bz sub (l.map (ai u)) .any (st'::q'))):=by
      show holed _ r.hole=_
      rw [hh]; exact Ak _ _ hc
     refine ⟨bD s.toS.m p.root ⟨r.blk,(r.cells.map Tt.toT).set p.off (.ow sub (l'.map (ai u)))⟩,fun K hK=>?_,_,?_,uM hn,hk⟩
     ·unfold nV;rw [show aa s.toS.m p.root=some r.toR from aT hr];dsimp only;rw [hpath,ec,S8 hlt];refine BY h hl ?_;rw [TU];exact hK
     refine aZ.S_ext rfl ?_;show toM (cO s.m p.root s.nx _)=_
     rw [eD]
     congr 1
     simp only [Rt.toR,holed,Tv,Tt.toT]
    ·exact h.elim
   ·exact h.elim
  ·exact h.elim
theorem LF (n:Nm) (t:Tt):t.toT.ment n=t.ment n:=by cases t <;> rfl
theorem nI {K:S->Prop} (hK:∀ t:St,k t->K t.toS):∀ {ts:List Tt} {s:St} {p:Pl},ND s.m->fQ s p ts k->ct s.toS p (ts.map Tt.toT) K
 | [],s,p,hn,h=>hK s h
 | t::ts,s,p,hn,h=>by
  have gen:∀ t:Tt,(∀ q,t≠.rf q)->t≠.any->t≠.d .any->vW s p t (fun s'=>fQ s' (p.add 1) ts k)->ct s.toS p (t.toT::ts.map Tt.toT) K:=by
   intro t h1 h2 h3 h;obtain ⟨m',hp,s',e,hn',hk⟩:=FP h hn;have key:ct s.toS p (t.toT::ts.map Tt.toT) K=nV s.toS.m p t.toT fun m'=>ct ⟨s.toS.t,m'⟩ (p.add 1) (ts.map Tt.toT) K:=by
    cases t with
    | rf q=>exact (h1 q rfl).elim
    | any=>exact (h2 rfl).elim
    | d c=>cases c with
     | any=>exact (h3 rfl).elim
     | _=>rfl
    | _=>rfl
   rw [key];refine hp _ ?_;rw [<- e];exact nI hK hn' hk
  cases t with
  | rf q=>
   simp only [fQ] at h;split at h
   ·rename_i sub u l hr;split at h
    ·rename_i hpath hroot hall;simp only [List.map_cons,Tt.toT,ct];rw [show aa s.toS.m q.root=some (⟨false,[.ow sub u l],none⟩:Rt).toR from aT hr];refine ⟨hpath,by simpa using hroot,?_,?_⟩
     ·rw [UG,<- hall]; congr 1; funext t; simp only [Function.comp,LF]
     ·rw [<- aZ hn];obtain ⟨m',hp,s',e,hn',hk⟩:=FP h (Il hn);refine hp _ ?_;rw [<- e];exact nI hK hn' hk
    ·exact h.elim
   ·exact h.elim
  | any=>exact h.elim
  | d c=>cases c with
   | any=>exact h.elim
   | _=>exact gen _ (fun _ h=>by cases h) (fun h=>by cases h) (fun h=>by cases h) h
  | _=>exact gen _ (fun _ h=>by cases h) (fun h=>by cases h) (fun h=>by cases h) h
theorem E8 {K:S->Prop} (hK:∀ t:St,k t->K t.toS) {p:Pl} {ts:List Tt} (hne:ts≠[]) (h:jt s p ts k):ct s.toS p (ts.map Tt.toT) K:=by
 unfold jt at h;split at h
 ·exact h.elim
 ·rename_i r hr;split at h
  ·rename_i st q sub u l hpath hh hc;split at h
   ·rename_i l' hl;have ec:r.toR.cells=r.cells.map Tt.toT:=by show holed _ r.hole=_; rw [hh]; rfl
    obtain ⟨a1,a2⟩:=xu hl;refine rU (aT hr) hpath (sub:=sub) (l:=l.map (ai u)) (by rw [ec,SM,hc]; rfl) a2 a1 (B1 hne h hl ?_);have hk:=hK _ (za h)
    have e:(⟨s.nx+1,s.t,cO s.m p.root s.nx { r with cells:=r.cells.set p.off (.ow sub u l') }⟩:St).toS=⟨s.toS.t,bD s.toS.m p.root { r.toR with cells:=r.toR.cells.set p.off (.ow sub (l'.map (ai u))) }⟩:=by
     refine aZ.S_ext rfl ?_;show toM (cO s.m p.root s.nx _)=_
     rw [eD]
     congr 1
     simp only [Rt.toR,hh,holed,Tv,Tt.toT]
    rw [e] at hk;exact hk
   ·exact h.elim
  ·exact h.elim
theorem Jt {K:S->Prop} (hK:∀ t:St,k t->K t.toS) {t:TypeId} {x v:At} (hn:ND s.m) (h:lA P s t x v k):qJ P s.toS t x.toV v.toV K:=by
 unfold lA at h;split at h
 ·rename_i p ts hv;split at h
  ·rename_i hc;simp only [SL] at hc;unfold qJ;rw [nH,hv];refine ⟨hc.1.1,by rw [List.length_map]; exact SO hc.1.2,by rw [List.length_map]; exact mn hc.2,?_⟩;split at h
   ·rename_i hrow;refine E8 hK (fun e=>?_) h;subst e;simp [MQ,Nat.blt] at hrow
   ·exact nI hK hn h
  ·exact h.elim
 ·exact h.elim
theorem OY {u:U} {v:At} {l:List (El u)} {size:Nat} (hs:nc u=size) (h:NF u v=some l):g9 size v.toV=some (l.map (ai u))/\v.noRf=true:=by
 unfold NF at h;split at h
 ·simp only [SJ] at h; subst h; exact ⟨rfl,rfl⟩
 ·rename_i u' l';obtain ⟨e,rfl⟩:=iE h;subst e;exact ⟨rfl,rfl⟩
 ·rename_i b;split at h
  ·simp only [SJ] at h;subst h;have:size=1:=hs.symm
   simp only [At.toV,A1.toV,Tt.toT,C.toD,g9];rw [if_pos this];exact ⟨rfl,rfl⟩
  ·cases h
 ·cases h
theorem Az {m:List (Nm×Nat×Rt)} {q:Pl} {r:Rt} {t:Tt} (hr:bi m q.root=some r) (hp:q.path=[]) (h:atT m q 1=some [t]):r.cells[q.off]? = some t:=by
 unfold atT at h;rw [hr] at h;dsimp only at h;rw [hp] at h;dsimp only at h;split at h
 ·rename_i hb;simp only [SJ] at h;have:=congrArg (·[0]?) h
  simpa [List.getElem?_take,Td] using this
 ·cases h
theorem iL {u:U} {v:At} {s':St} {sub:List Sh} {l:List (El u)} {size:Nat} (hs:nc u=size) (hn:ND s.m) (hop:∀ q,v=.one (.c (.rf q))->okP (toM s.m) q) (h:gZ s u v=some (s',sub,l)) :
  gA s.toS size v.toV=some (s'.toS,sub,l.map (ai u))/\ND s'.m/\Ext s s':=by
 unfold gZ at h;split at h
 ·simp only [SJ,Prod.mk.injEq] at h;obtain ⟨rfl,rfl,rfl⟩:=h;exact ⟨by rw [<- hs]; rfl,hn,Ext.refl _⟩
 ·rename_i q;split at h
  ·rename_i sub' u' l' hsl;split at h
   ·rename_i l2 s2 hcast hlen htake;simp only [SJ,Prod.mk.injEq] at h;obtain ⟨rfl,rfl,rfl⟩:=h;obtain ⟨e,rfl⟩:=iE hcast;subst e;unfold KS at htake;split at htake
    ·cases htake
    ·rename_i r hr;split at htake
     ·rename_i hpath hh;simp only [SJ] at htake;have ht:atT s.m q 1=some [.ow sub' u' l']:=by
       unfold sliceAt at hsl;split at hsl
       ·rename_i a b c hat; cases hsl; exact hat
       ·cases hsl
      have hc:=Az hr hpath ht
      have egr:aa s.toS.m q.root=some r.toR:=aT hr
      have ecs:r.toR.cells=r.cells.map Tt.toT:=by show holed _ r.hole=_; rw [hh]; rfl
      have egp:aP s.toS.m q=some (.ow sub' (l'.map (ai u'))):=by
       unfold aP;rw [egr,hpath];dsimp only;rw [ecs,SM,hc]; rfl
      refine ⟨?_,?_,?_⟩
      ·simp only [At.toV,A1.toV,Tt.toT,gA];rw [egp];dsimp only;rw [if_pos (by rw [<- hs]; exact SO hlen)]
       congr 2
       rw [<- htake];refine aZ.S_ext (ik _ _ _).symm ?_;show _=toM (bN (thr q) s.nx (cO s.m q.root s.nx _))
       rw [dF,eD]
       congr 1
       unfold bd;rw [egr,hpath];dsimp only;show bD (toM s.m) q.root _=_
       congr 1
       simp only [Rt.toR,hh,holed,Tv,Tt.toT]
      ·rw [<- htake]; exact zL.2 (uM hn)
      ·rw [<- htake];exact ⟨TE _,fq (SN _),(cF _ _ (SN _) s.m).trans (dS (SN _))⟩
     ·rename_i st pa hpath hh;simp only [SJ] at htake;have ht:atT s.m q 1=some [.ow sub' u' l']:=by
       unfold sliceAt at hsl;split at hsl
       ·rename_i a b c hat; cases hsl; exact hat
       ·cases hsl
      have egr:aa s.toS.m q.root=some r.toR:=aT hr
      have ecs:r.toR.cells=r.cells.map Tt.toT:=by show holed _ r.hole=_; rw [hh]; rfl
      have hq:=hop q rfl
      unfold okP at hq;rw [hpath] at hq;obtain ⟨r2,sub2,l2,g1,g2,g3⟩:=hq;have er2:r2=r.toR:=Option.some.inj (g1.symm.trans egr)
      subst er2;unfold atT at ht;rw [hr] at ht;dsimp only at ht;rw [hpath] at ht;dsimp only at ht;split at ht
      ·rename_i sub0 u0 l0 _ hc;rw [ecs,SM,hc] at g2;simp only [Option.map_some,SJ,Tt.toT,T.ow.injEq] at g2;obtain ⟨rfl,rfl⟩:=g2;have hlk:=uZ g3 ht
       have egp:aP s.toS.m q=some (.ow sub' (l'.map (ai u'))):=by
        unfold aP;rw [egr];dsimp only;rw [hpath];dsimp only;rw [ecs,SM,hc];simp only [Option.map_some,Tt.toT];rw [hlk]
       refine ⟨?_,?_,?_⟩
       ·simp only [At.toV,A1.toV,Tt.toT,gA];rw [egp];dsimp only;rw [if_pos (by rw [<- hs]; exact SO hlen)]
        congr 2
        rw [<- htake];refine aZ.S_ext (ik _ _ _).symm ?_;show _=toM (bN (thr q) s.nx (cO s.m q.root s.nx _))
        rw [dF,eD]
        congr 1
        unfold bd;rw [egr];dsimp only;rw [hpath];dsimp only;rw [ecs,SM,hc];show bD (toM s.m) q.root _=_
        congr 1
        simp only [Rt.toR,Option.map_some,Tt.toT,T.toD];rw [Ak _ _ hc]
       ·rw [<- htake]; exact zL.2 (uM hn)
       ·rw [<- htake];exact ⟨TE _,fq (SN _),(cF _ _ (SN _) s.m).trans (dS (SN _))⟩
      ·cases ht
     ·cases htake
   ·cases h
  ·cases h
 ·cases h
theorem Ow:∀ n:Sn,(sd n).fs.all leaf=true:=by intro n; cases n <;> rfl
theorem xq {u:U} (h:leaf u=true) (x:El u):(am u x).toD.sure=true:=by
 cases u with
 | st n=>cases h
 | _=>rfl
theorem ul:∀ {us:List U} (_:us.all leaf=true) (x:Fl us),∀ d∈(dz us x).map C.toD,d.sure=true
 | [],_,_,d,hd=>by simp [dz] at hd
 | u::r,h,x,d,hd=>by
  simp only [S6,SL] at h;simp only [dz,List.map_cons,SS] at hd;rcases hd with rfl | hd
  ·exact xq h.1 _
  ·exact ul h.2 _ d hd
theorem Bh {u:U} (x:El u):∀ d∈ai u x,d.sure=true:=by
 rw [<- bp];cases u with
 | st n=>exact ul (Ow n) _
 | _=>intro d hd; rw [iy rfl] at hd; simp only [List.map_cons,List.map_nil,SY] at hd; subst hd; exact xq rfl _
theorem DT {E:Ut} {t u0:TypeId} {x y:Operand} {d:Tmp} (hx:ay x=true) (hy:ay y=true) (hn:ND (fT s (evA s y)).m) (hop:∀ q,evA (fT s (evA s y)) x=.one (.c (.rf q))->okP (toM (fT s (evA s y)).m) q) (h:jE P E s t u0 x y d k):my P (fT s (evA s y)).toS t u0 x y d (upS k):=by
 unfold jE at h;dsimp only at h;generalize hs1:fT s (evA s y)=s1 at h hn hop;split at h
 ·rename_i e ht;split at h
  ·rename_i u z he hz;split at h
   ·rename_i hc;simp only [SL] at hc;obtain ⟨⟨⟨c1,c2⟩,c3⟩,c4⟩:=hc;have hsz:=SO c4
    split at h
    ·rename_i ys s2 sub l hsrc hbase;split at h
     ·rename_i hsub;obtain ⟨⟨h1,h2⟩,h3⟩:=h;obtain ⟨k1,k2⟩:=OY hsz hsrc;obtain ⟨b1,b2,_⟩:=iL hsz hn hop hbase;unfold my;dsimp only;rw [af hy,qV k2,ht];dsimp only;refine ⟨c1,c2,by rw [hz]; simp only [Option.map_some]; rw [SO c3],?_⟩;rw [af hy,af hx,k1,b1];dsimp only;refine ⟨hsub,?_,by rw [List.length_map,List.length_map]; exact h1,by rw [List.length_map,List.length_map]; exact h2,_,?_,h3⟩
      ·intro r hr;obtain ⟨z',_,rfl⟩:=S9.1 hr;exact ⟨by rw [gJ]; exact hsz,Bh z'⟩
      ·rw [<- bk b2];have er:(⟨false,[.ow sub u (l++ys)],none⟩:Rt).toR=⟨false,[.ow sub (l.map (ai u)++ys.map (ai u))]⟩:=by
        rw [<- TP]; rfl
       rw [<- er];exact ba ((s2.fresh (.gh d)).root (.gh d) ⟨false,[.ow sub u (l++ys)],none⟩) (some d) (.one (.c (.rf ⟨.gh d,0,[]⟩)))
     ·exact h.elim
    ·exact h.elim
   ·exact h.elim
  ·exact h.elim
 ·exact h.elim
theorem Ay {E:Ut} {t u0:TypeId} {x y:Operand} {d:Tmp} (hx:ay x=true) (hy:ay y=true) (hn:ND s.m) (hopy:∀ q,evA s y=.one (.c (.rf q))->okP (toM s.m) q)
  (hopx:∀ (size:Nat) (s1:St) (sub:List Sh) (l:List (List D)) q,ND s1.m->gA s.toS size (evA s y).toV=some (s1.toS,sub,l)->evA s1 x=.one (.c (.rf q))->okP (toM s1.m) q) (h:gG P E s t u0 x y d k):pQ P s.toS t u0 x y d (upS k):=by
 unfold gG at h;split at h
 ·rename_i e ht;split at h
  ·rename_i u z he hz;split at h
   ·rename_i hc;simp only [SL] at hc;obtain ⟨⟨⟨c1,c2⟩,c3⟩,c4⟩:=hc;have hsz:=SO c4
    split at h
    ·rename_i s1 sub1 ys hby;split at h
     ·rename_i s2 sub l hbx;split at h
      ·rename_i hsub;obtain ⟨⟨h1,h2⟩,h3⟩:=h;obtain ⟨a1,a2,_⟩:=iL hsz hn hopy hby;obtain ⟨b1,b2,_⟩:=iL hsz a2 (fun q hq=>hopx _ s1 _ _ q a2 a1 hq) hbx;unfold pQ;rw [ht];dsimp only;refine ⟨c1,c2,by rw [hz]; simp only [Option.map_some]; rw [SO c3],?_⟩;rw [af hy,a1];dsimp only;rw [af hx,b1];dsimp only;have hlen:sub1.length=nc u:=by
        unfold gZ at hby;split at hby
        ·simp only [SJ,Prod.mk.injEq] at hby;obtain ⟨_,rfl,_⟩:=hby; simp
        ·split at hby
         ·split at hby
          ·rename_i hb _;simp only [SJ,Prod.mk.injEq] at hby;obtain ⟨_,rfl,_⟩:=hby;exact SO hb
          ·cases hby
         ·cases hby
        ·cases hby
       refine ⟨ip hsub,?_,by rw [List.length_map,List.length_map]; exact h1,by rw [List.length_map,List.length_map]; exact h2,_,?_,h3⟩
       ·intro r hr;obtain ⟨z',_,rfl⟩:=S9.1 hr;exact ⟨by rw [gJ,hlen],Bh z'⟩
       ·rw [<- bk b2];have er:(⟨false,[.ow sub u (l++ys)],none⟩:Rt).toR=⟨false,[.ow sub (l.map (ai u)++ys.map (ai u))]⟩:=by
         rw [<- TP]; rfl
        rw [<- er];exact ba ((s2.fresh (.gh d)).root (.gh d) ⟨false,[.ow sub u (l++ys)],none⟩) (some d) (.one (.c (.rf ⟨.gh d,0,[]⟩)))
      ·exact h.elim
     ·exact h.elim
    ·exact h.elim
   ·exact h.elim
  ·exact h.elim
 ·exact h.elim
end
end Go.Am
end
