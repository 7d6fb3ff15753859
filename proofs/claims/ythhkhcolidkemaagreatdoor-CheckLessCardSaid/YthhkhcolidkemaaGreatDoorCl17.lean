/-
  Part 17: AmLibC · AmE14 · AmE15 · AmE13 · AmE16 · AmE18r · AmRen · AmE19 · AmKeys · AmB2 · AmB3 · AmSw · AmPan.
-/
import Derived.Test.YthhkhcolidkemaaGreatDoorCl16
import Derived.Test.YthhkhcolidkemaaGreatDoorChecked
set_option linter.unusedSimpArgs false
set_option linter.unusedVariables false
set_option linter.unusedSectionVars false
set_option linter.unnecessarySimpa false
open Lt
open Go.Proofs.Tryz
section
namespace Go.Am
open Go Go.RowKit Go.Proofs
theorem w6 (w:World):Below w.heap.size w w:=Below.refl _ w
theorem Fj (c:UInt8):∀ l:List UInt8,-1<=Lib.indexByte l c/\Lib.indexByte l c<=(l.length:Int)
 | []=>by simp [Lib.indexByte]
 | b::l=>by
  have:=Fj c l
  unfold Lib.indexByte;simp only [Y5];split
  ·omega
  ·split <;> omega
theorem vO {w:World} {H:FH} {γ:Gam} {m:Mm} {l:List UInt8} (h:l.length<=BIG):AR1 w H γ m (.c (.d (.str l))) (.string ⟨l.toArray⟩):=⟨fun _=>rfl,0,rfl,h⟩
theorem Pp {w:World} {H:FH} {γ:Gam} {k:IntKind} {n:Int} {y:Value} (h:AR w H γ [] (.one (.c (.d (.int k n)))) y):y=.int k n:=by
 obtain ⟨_,m,h⟩:=h;cases m <;> exact h.1
def Px:CKt:=ay [.s,.b8] [.i .i64] (fun x=>Rk x.1 x.2)
theorem QM:Cont prog 265 Px:=Bu (jq (gE (fn:=f265) (by kernel_rfl) (by kernel_rfl) (by kernel_rfl)) (fun x args w H γ _ hl ha hg hag=>by
 obtain ⟨s,c⟩:=x;obtain ⟨u,v,rfl,h1,h2⟩:=L2 (x:=.one (.c (.d (.str s)))) (y:=.one (.c (.d (.int .u8 (UInt8.toNat c:Int))))) hl ha;obtain ⟨rfl,hs⟩:=j7 h1;have hs:List.length (α:=UInt8) s<=BIG:=hs
 obtain rfl:=Pp h2;refine (Tryz.strings_IndexByte ⟨s.toArray⟩ (c.toNat:Int) w).mono ?_;rintro e w' ⟨rfl,hw⟩
 rw [hw];refine ⟨_,H,rfl,w6 w,fun _ _ _ h=>h,fun b o h1 h2=>absurd h2 h1,fun b o x l c h1 h2=>by (rw [h2] at h1; cases h1),hag,?_⟩;have e1:((c.toNat:Int).toNat).toUInt8=c:=by simp
 have hi:=Fj c s
 rw [oM,e1];unfold BIG at hs;show AR w H γ [] (.one (.c (.d (.int .i64 (Lib.indexByte s c))))) (.int .i64 (Lib.indexByte s c))
 refine ⟨fun _=>rfl,0,rfl,?_⟩;simp only [Lit.wf,YV,decide_eq_true_eq,show IntKind.i64.min=-9223372036854775808 from rfl,show IntKind.i64.max=9223372036854775807 from rfl];omega))
def Ti:CKt:=ay [.s,.s] [.s,.bo] (fun x=>VX x.1 x.2)
theorem T3:Cont prog 264 Ti:=Bu (jq (gE (fn:=f264) (by kernel_rfl) (by kernel_rfl) (by kernel_rfl)) (fun x args w H γ _ hl ha hg hag=>by
 obtain ⟨s,p⟩:=x;obtain ⟨u,v,rfl,h1,h2⟩:=L2 (x:=.one (.c (.d (.str s)))) (y:=.one (.c (.d (.str p)))) hl ha;obtain ⟨rfl,hs⟩:=j7 h1;have hs:List.length (α:=UInt8) s<=BIG:=hs
 obtain ⟨rfl,hp⟩:=j7 h2;refine (Tryz.strings_CutPrefix ⟨s.toArray⟩ ⟨p.toArray⟩ w).mono ?_;rintro e w' ⟨rfl,hw⟩
 rw [hw];refine ⟨_,H,rfl,w6 w,fun _ _ _ h=>h,fun b o h1 h2=>absurd h2 h1,fun b o x l c h1 h2=>by (rw [h2] at h1; cases h1),hag,_,rfl,?_⟩;rw [oM,oM];have hl:(Lib.trimPrefix s p).length<=BIG:=by
  unfold Lib.trimPrefix;split
  ·rw [List.length_drop]; omega
  ·exact hs
 show ARs w H γ [] [.c (.d (.str (Lib.trimPrefix s p))),.c (.d (.bool (Lib.hasPrefix s p)))] [_,_]
 exact ⟨(vO hl:AR1 w H γ [] _ _),⟨fun _=>rfl,0,rfl⟩,trivial⟩))
def Wb:CKt:=bg [.s,.s] [.s,.s,.bo] (fun x=>W4 x.1 x.2) (fun x=>XT x.1 x.2)
theorem WD:Cont prog 76 Wb:=jq (gE (fn:=f76) (by kernel_rfl) (by kernel_rfl) (by kernel_rfl)) (fun x args w H γ hpre hl ha hg hag=>by
 obtain ⟨s,p⟩:=x;obtain ⟨u,v,rfl,h1,h2⟩:=L2 (x:=.one (.c (.d (.str s)))) (y:=.one (.c (.d (.str p)))) hl ha;obtain ⟨rfl,hs⟩:=j7 h1;have hs:List.length (α:=UInt8) s<=BIG:=hs
 obtain ⟨rfl,hp⟩:=j7 h2;have hpre:s.length < 4294967281:=hpre
 obtain ⟨m,hm⟩:=A2 hg hag (k:=1) (by rfl);refine (Tryz.strings_Cut ⟨s.toArray⟩ ⟨p.toArray⟩ m w (by rw [rC]; exact hpre) hm).mono ?_;rintro e w' ⟨rfl,n,rfl⟩
 refine ⟨_,H,rfl,Ez _ _ _,fun _ _ _ h=>h,fun b o h1 h2=>absurd h2 h1,fun b o x l c h1 h2=>by (rw [h2] at h1; cases h1),hag,_,rfl,?_⟩;rw [oM,oM];have hl:(Lib.cut s p).1.length<=BIG/\(Lib.cut s p).2.1.length<=BIG:=by
  unfold Lib.cut;split
  ·refine ⟨?_,?_⟩
   ·show (s.take _).length<=_; rw [ZY]; omega
   ·show (s.drop _).length<=_; rw [List.length_drop]; omega
  ·exact ⟨hs,by unfold BIG; simp⟩
 show ARs _ H γ [] [.c (.d (.str (Lib.cut s p).1)),.c (.d (.str (Lib.cut s p).2.1)),.c (.d (.bool (Lib.cut s p).2.2))] [_,_,_]
 exact ⟨(vO hl.1:AR1 (w.drewN n) H γ [] _ _),(vO hl.2:AR1 (w.drewN n) H γ [] _ _),⟨fun _=>rfl,0,rfl⟩,trivial⟩)
theorem uR (p:ByteArray):∀ (k:Nat) (s:ByteArray),∀ x∈Lib.splitB p 0 k s,x.size<=s.size
 | 0,s,x,hx=>by rw [Lib.splitB_zero,Y3] at hx; rw [hx]; exact YY _
 | k+1,s,x,hx=>by
  unfold Lib.splitB at hx;split at hx
  ·rw [Y3] at hx; rw [hx]; exact YY _
  ·rcases Y2.1 hx with rfl | hx
   ·simp only [ByteArray.size_extract]; omega
   ·have:=uR p k _ x hx
    simp only [ByteArray.size_extract] at this;omega
def Py:CKt:=bg [.s,.s] [.sl .s] (fun x=>Ss x.1 x.2) (fun x=>Ce x.1 x.2)
theorem QN:Cont prog 75 Py:=jq (gE (fn:=f75) (by kernel_rfl) (by kernel_rfl) (by kernel_rfl)) (fun x args w H γ hpre hl ha hg hag=>by
 obtain ⟨s,p⟩:=x;obtain ⟨u,v,rfl,h1,h2⟩:=L2 (x:=.one (.c (.d (.str s)))) (y:=.one (.c (.d (.str p)))) hl ha;obtain ⟨rfl,hs⟩:=j7 h1;have hs:List.length (α:=UInt8) s<=BIG:=hs
 obtain ⟨rfl,hp⟩:=j7 h2;obtain ⟨hpre,hp1⟩:s.length < 4294967281/\1<=p.length:=hpre;obtain ⟨m,hm⟩:=A2 hg hag (k:=1) (by rfl);have hsz:=rC s
 refine (Tryz.strings_Split ⟨s.toArray⟩ ⟨p.toArray⟩ m w (by rw [hsz]; exact hpre) hm (by rw [rC]; exact hp1)).mono ?_;rintro e w' ⟨rfl,rfl⟩
 have hlen:=Lib.splitB_all ⟨p.toArray⟩ (by rw [rC]; exact hp1) 0 _ ⟨s.toArray⟩ rfl
 have hle:=Lib.countB_le ⟨p.toArray⟩ (by rw [rC]; exact hp1) _ ⟨s.toArray⟩ (YY _)
 have hsm:=uR ⟨p.toArray⟩ (Lib.countB ⟨s.toArray⟩ ⟨p.toArray⟩) ⟨s.toArray⟩
 have hG:Ce s p=(Lib.splitB ⟨p.toArray⟩ 0 (Lib.countB ⟨s.toArray⟩ ⟨p.toArray⟩) ⟨s.toArray⟩).map (·.data.toList):=rfl
 generalize Lib.splitB ⟨p.toArray⟩ 0 (Lib.countB ⟨s.toArray⟩ ⟨p.toArray⟩) ⟨s.toArray⟩=L at hlen hsm hG ⊢;rw [<- hlen];rw [hsz] at hle hsm;refine ⟨_,fun b o=>if b=w.heap.size then ((L.map Value.string).toArray[o]?).map HV.c else H b o,rfl,(Below.refl _ w).alloc (YY _) _,fun b o y h=>?_,fun b o h1 h2=>?_,fun b o x l c h1 h2=>?_,fun b o y h=>?_,fun _=>rfl,1,?_⟩
 ·have:=(hag b o y h).lt
  dsimp only;rw [if_neg (by omega)]; exact h
 ·dsimp only at h1;split at h1
  ·omega
  ·exact absurd h2 h1
 ·dsimp only at h1;split at h1
  ·obtain ⟨z,hz,e⟩:=Y7.1 h1;obtain rfl:=HV.c.inj e;have h1:=Array.mem_of_getElem? hz
   simp at h1
  ·rw [h2] at h1; cases h1
 ·dsimp only at h;split at h
  ·rename_i hb;subst hb;obtain ⟨z,hz,rfl⟩:=Y7.1 h;show World.cell? _ _=some z
   rw [World.cell?_alloc_new]; exact hz
  ·exact (hag b o y h).frame (bO (hag b o y h).lt)
 ·show FD _ 1 (.li ((Ce s p).map (ak .s))) _
  rw [hG,lr];unfold BIG at hs ⊢;refine ⟨_,_,by rw [YX,YX],by simp,by simp; omega,.inr ⟨w.heap.size,0,1,rfl,fun i hi=>?_⟩⟩;have hi:i<L.length:=by simpa using hi
  have e:((L.map (·.data.toList)).map (ak .s)).getD i []=[.str L[i].data.toList]:=by
   rw [List.getD,YW,YW,YU hi]; rfl
  rw [e];refine ⟨rfl,fun j hj=>?_⟩;have hj:j=0:=by omega
  subst hj;refine ⟨.string L[i],?_,?_⟩
  ·dsimp only;rw [if_pos rfl];simp [hi]
  ·refine ⟨by simp,?_⟩;have:=hsm L[i] (Zw hi)
   show L[i].data.toList.length<=BIG
   unfold BIG;rw [<- Lib.size_eq]; omega)
end Go.Am
end

section
namespace Go.Am
theorem QA (i k:Nat):Nat.beq (i+100000) (k+100000)=Nat.beq i k:=by
 cases h:Nat.beq i k with
 | true=>have:=Y1 h; subst this; exact aa1 _
 | false=>
  cases h2:Nat.beq (i+100000) (k+100000) with
  | false=>rfl
  | true=>
   have:=Y1 h2
   have:i=k:=by omega
   subst this; rw [aa1] at h; cases h
theorem FZ (k:Nat) (t:List (Nat×Nat×At)):bD (shT t) (k+100000)=bD t k:=by
 induction t with
 | nil=>rfl
 | cons x r ih=>
  obtain ⟨i,j,v⟩:=x;simp only [shT,bD,QA];cases Nat.beq i k with
  | true=>rfl
  | false=>exact ih
theorem F6 {k:Nat} (hk:k < 100000) (t:List (Nat×Nat×At)):bD (shT t) k=none:=by
 induction t with
 | nil=>rfl
 | cons x r ih=>
  obtain ⟨i,j,v⟩:=x;have:Nat.beq (i+100000) k=false:=by
   cases h:Nat.beq (i+100000) k with
   | false=>rfl
   | true=>have:=Y1 h; omega
  simp only [shT,bD,this];exact ih
theorem F7 (k:Nat) (t:List (Nat×Nat×At)):bD (oq t) k=bD t (k+100000):=by
 induction t with
 | nil=>rfl
 | cons x r ih=>
  obtain ⟨i,j,v⟩:=x;simp only [oq,bD];cases hb:Nat.ble 100000 i with
  | true=>
   have hi:100000<=i:=YZ hb
   have e:Nat.beq (i - 100000) k=Nat.beq i (k+100000):=by
    have:=QA (i - 100000) k
    rw [Nat.sub_add_cancel hi] at this;exact this.symm
   dsimp only;rw [bD,e];cases Nat.beq i (k+100000) with
   | true=>rfl
   | false=>exact ih
  | false=>
   have hi:¬ 100000<=i:=fun h=>by rw [Nat.ble_eq_true_of_le h] at hb; cases hb
   have e:Nat.beq i (k+100000)=false:=by
    cases h:Nat.beq i (k+100000) with
    | false=>rfl
    | true=>have:=Y1 h; omega
   rw [e]; exact ih
theorem tO {nx k:Nat} {b:List (Nat×Nat×At)}:∀ {l:List At} {i:Nat},i+l.length<=k->bD (u7 nx i l++b) k=bD b k
 | [],_,_=>rfl
 | v::r,i,h=>by
  have e:Nat.beq i k=false:=by
   cases h2:Nat.beq i k with
   | false=>rfl
   | true=>have:=Y1 h2; simp only [Y5] at h; omega
  simp only [u7,ZA,bD,e];exact tO (by simp only [Y5] at h; omega)
theorem uK {nx k:Nat} {b:List (Nat×Nat×At)}:∀ {l:List At} {i:Nat} {v:At},i<=k->l[k-i]? = some v->bD (u7 nx i l++b) k=some (nx,v)
 | [],_,_,_,h=>by simp at h
 | v::r,i,x,hi,h=>by
  simp only [u7,ZA,bD];rcases Nat.lt_or_eq_of_le hi with hlt | rfl
  ·have e:Nat.beq i k=false:=by
    cases h2:Nat.beq i k with
    | false=>rfl
    | true=>have:=Y1 h2; omega
   rw [e];refine uK (by omega) ?_;rw [show k-i=(k - (i+1))+1 from by omega] at h;simpa using h
  ·rw [aa1];simp only [Nat.sub_self,Zu,YT] at h;subst h; rfl
abbrev inS (s:St) (vs:List At):St:=⟨s.nx+1,u7 s.nx 0 vs++shT s.t,s.m⟩
theorem Wc {s s':St} {vs:List At} (hl:vs.length<=100000) (h:Ext (inS s vs) s'):Ext s ⟨s'.nx,oq s'.t,s'.m⟩:=by
 refine ⟨ZK (ZC _) h.nx,fun k j v hk hj=>?_,fun n j r hk hj=>h.m n j r hk (Nat.lt_succ_of_lt hj)⟩;rw [F7] at hk;have:=h.t _ j v hk (Nat.lt_succ_of_lt hj)
 rw [show (inS s vs).t=u7 s.nx 0 vs++shT s.t from rfl,tO (by omega),FZ] at this;exact this
theorem rN {P:Program} {s s':St} {vs:List At} {res:List ResultVar} {k k':St->At->Prop} (hl:vs.length<=100000) (hk:∀ s' v,Ext s s'->k s' v->k' s' v) (hE:Ext (inS s vs) s') (h:jG P res k s'):jG P res k' s':=by
 unfold jG at h ⊢;split at h
 ·exact hk _ _ (Wc hl hE) h
 ·exact h.elim
section
variable {g:G} {a:Act} {w:World} {H:FH} {γ:Gam} {F:Nm->Fp}
theorem N0 {nt:Nat} {ops:List Operand} {i:Nat} {x:Operand} (hx:ops[i]? = some x):((ops.map a.eval).toArray++Array.replicate (nt - (ops.map a.eval).toArray.size) undef).getD i undef=a.eval x:=by
 rw [Zm,ZF (by simp; exact ae hx)];simp [hx]
theorem LI {s:St} (hX:RX g s.toS a w H γ F) {vs:List At} {ys:List Value} (hl:ys.length=vs.length) (hv:∀ (i:Nat) (v:At) (y:Value),vs[i]? = some v->ys[i]? = some y->AR w H γ s.toS.m v.toV y) {nt:Nat} (hle:vs.length<=nt) (hnt:nt<=100000) :
  RX ⟨nt,g.w0,g.H0,g.own0,g.out,some (g.tv a),[]⟩ (inS s vs).toS ⟨ys.toArray++Array.replicate (nt-ys.toArray.size) undef,[]⟩ w H γ F:=by
 have hsz:(ys.toArray++Array.replicate (nt-ys.toArray.size) undef).size=nt:=by simp; omega
 refine ⟨hX.mem,hX.fr,hsz,⟨rfl,hX.df.2⟩,fun i=>?_⟩;rw [show aG (inS s vs).toS.t i=(gtA (u7 s.nx 0 vs++shT s.t) i).toV from bZ i _,je];rcases Zf i vs.length with hi | hi
 ·rw [uK (ZE i) (v:=vs[i]) (by rw [aaT]; exact YU hi)];have hyi:i<ys.length:=by omega
  rw [G.tv_lt (by rw [hsz]; omega)];have e:(ys.toArray++Array.replicate (nt-ys.toArray.size) undef).getD i undef=ys[i]:=by
   rw [Zm,ZF (by simpa using hyi)];simp [hyi]
  rw [e];exact hv i _ _ (YU hi) (YU hyi)
 ·rw [tO (by omega)];rcases Zf i 100000 with hb | hb
  ·rw [F6 hb]; trivial
  ·obtain ⟨j,rfl⟩:∃ j,i=j+100000:=⟨i - 100000,by omega⟩
   rw [FZ,<- je];have e:G.tv ⟨nt,g.w0,g.H0,g.own0,g.out,some (g.tv a),[]⟩ ⟨ys.toArray++Array.replicate (nt-ys.toArray.size) undef,[]⟩ (j+100000)=g.tv a j:=by
    unfold G.tv;dsimp only;rw [if_neg (by rw [hsz]; unfold TB; omega)];unfold TB;rw [aaA]
   rw [e,<- bZ];exact hX.t j
theorem Wh {s:St} (hX:RX g s.toS a w H γ F) {ops:List Operand} (hops:ops.all au=true) {nt:Nat} (hle:ops.length<=nt) (hnt:nt<=100000) :
  RX ⟨nt,g.w0,g.H0,g.own0,g.out,some (g.tv a),[]⟩ (inS s (ops.map (evA s))).toS ⟨(ops.map a.eval).toArray++Array.replicate (nt - (ops.map a.eval).toArray.size) undef,[]⟩ w H γ F:=by
 refine LI hX (by simp) (fun i v y hv hy=>?_) (by simpa using hle) hnt;rw [YW] at hv hy;obtain ⟨x,hx,rfl⟩:=Y7.1 hv;rw [hx] at hy;obtain rfl:=Option.some.inj hy;have hop:=Y6.1 hops x (Zi hx)
 have:=az hX hop
 rw [ac hop] at this;exact this
theorem qW {s0:S} (hX:RX g s0 a w H γ F) {nt:Nat} (hnt:nt<=100000) {a':Act} {s':St} {w':World} {H':FH} {γ':Gam} {F':Nm->Fp} (h:RX ⟨nt,g.w0,g.H0,g.own0,g.out,some (g.tv a),[]⟩ s'.toS a' w' H' γ' F') :
  RX g (⟨s'.nx,oq s'.t,s'.m⟩:St).toS a w' H' γ' F':=by
 refine ⟨h.mem,h.fr,hX.nt,⟨hX.df.1,h.df.2⟩,fun i=>?_⟩;rw [show aG (⟨s'.nx,oq s'.t,s'.m⟩:St).toS.t i=(gtA (oq s'.t) i).toV from bZ i _,je,F7,<- je,<- bZ];have:=h.t (i+100000)
 have e:G.tv ⟨nt,g.w0,g.H0,g.own0,g.out,some (g.tv a),[]⟩ a' (i+100000)=g.tv a i:=by
  have hs:a'.tmps.size=nt:=h.nt
  unfold G.tv;dsimp only;rw [if_neg (by rw [hs]; unfold TB; omega)];unfold TB;rw [aaA]
 rw [e] at this;exact this
theorem RO {P:Program} {m:List (Nm×Nat×Rt)} {t:TypeId} {x:At} {v:A1} (h:RN P m t x=some v):jL P m t x (fun w=>w=.one v):=by
 unfold RN at h; unfold jL;split at h
 ·rename_i p hok;rw [hok];dsimp only;split at h
  ·rename_i ha;rw [ha];dsimp only;split at h
   ·rename_i ts hts; rw [hts]; exact congrArg At.one (Option.some.inj h)
   ·cases h
  ·rename_i ha;rw [ha];dsimp only;split at h
   ·rename_i t' ht; rw [ht]; exact congrArg At.one (Option.some.inj h)
   ·cases h
 ·cases h
theorem C4 {P:Program} {s:St} (h:RX g s.toS a w H γ F):∀ {rs:List ResultVar} {xs:List A1},Gz P s rs=some xs->∃ ys,(rs.mapM (jV a.tmps)).run P w=.ok ys w/\ARs w H γ (toM s.m) (xs.map A1.toV) ys/\ys.length=rs.length/\xs.length=rs.length
 | [],xs,e=>by
  simp only [Gz,YT] at e; subst e;exact ⟨[],rfl,trivial,rfl,rfl⟩
 | .tmp t::r,xs,e=>by
  simp only [Gz] at e;split at e
  ·rename_i x xs' h1 h2 h3;simp only [YT] at e; subst e;obtain ⟨ys,k1,k2,k3,k4⟩:=C4 (P:=P) h h2;have ht:=h.t t
   rw [show aG s.toS.t t=(gtA s.t t).toV from bZ t s.t,h1,G.tv_lo (show t<TB from YZ h3)] at ht;have k1':((r.mapM (jV a.tmps)).run P w)=.ok ys w:=k1
   refine ⟨a.tmps.getD t undef::ys,?_,⟨ht,k2⟩,by simp [k3],by simp [k4]⟩;simp [List.mapM_cons,jV,k1']
  ·cases e
 | .cell c t::r,xs,e=>by
  simp only [Gz] at e;split at e
  ·rename_i x xs' h1 h2 h3;simp only [YT] at e; subst e;obtain ⟨ys,k1,k2,k3,k4⟩:=C4 (P:=P) h h2;have ht:=h.t c
   rw [show aG s.toS.t c=(gtA s.t c).toV from bZ c s.t,G.tv_lo (show c<TB from YZ h3)] at ht;have hl:jL P s.m t (gtA s.t c) (fun v=>v=.one x):=RO h1
   obtain ⟨z,d,B,_,e1,e2,v',rfl,rfl⟩:=xP (P:=P) h.mem (xQ (fun q hq=>by
    rw [hq] at ht;exact Kj ht.2.1) hl) ht
   replace e1:=e1 w (fun _ _=>rfl)
   have k1':((r.mapM (jV a.tmps)).run P w)=.ok ys w:=k1
   have hrun:(jV a.tmps (.cell c t)).run P w=.ok z w:=by
    simp only [jV];simp only [Instr.loadAt] at e1;generalize a.tmps.getD c undef=u at e1;cases u with
    | pointer ad=>
     cases ad with
     | some ad=>simpa [asAddr,Instr.sureAddr] using e1
     | none=>simp [Instr.sureAddr] at e1
    | _=>simp [Instr.sureAddr] at e1
   refine ⟨z::ys,?_,⟨e2,k2⟩,by simp [k3],by simp [k4]⟩;simp [List.mapM_cons,hrun,k1',Sem.run_bind,Result.andThen]
  ·cases e
theorem Mk {P:Program} {fn:Func} {s:St} {k:St->At->Prop} (h:RX g s.toS a w H γ F) (hk:jG P fn.results.toList k s) :
  ∃ y v,(results fn a.tmps).run P w=.ok y w/\AR w H γ (toM s.m) v.toV y/\k ⟨s.nx,oq s.t,s.m⟩ v:=by
 unfold jG at hk;split at hk
 ·rename_i xs hx;obtain ⟨ys,k1,k2,k3,k4⟩:=C4 (P:=P) h hx;have hrun:(results fn a.tmps).run P w=.ok (if h:ys.toArray.size=1 then ys.toArray[0] else .tuple ys.toArray) w:=by
   rw [gy,Array.mapM_eq_mapM_toList];simp [k1]
  refine ⟨_,_,hrun,?_,hk⟩
  match xs,ys,k2 with
  | [],[],_=>exact ⟨#[],by simp,trivial⟩
  | [x],[y],k2=>exact k2.1
  | x1::x2::xs,y1::y2::ys,k2=>exact ⟨(y1::y2::ys).toArray,by simp,by simpa using k2⟩
 ·exact hk.elim
end
theorem C7 {P:Program} {f:Nat} {fn:Func} (hf:P.funcs[f]? = some fn) (hname:(fn.name == "runtime.NumGoroutine")=false) (hb:fn.body.isSome=true):∀ args w,(callFunc f args).run P w=.ok (.enter f args) w:=by
 intro args w;have h1:fn.name ≠ "runtime.NumGoroutine" := by simpa using hname
 obtain ⟨c,h⟩:=Option.isSome_iff_exists.1 hb;simp [callFunc,hf,h1,h]
theorem DS {e:En} (he:e.ok) (hm:e.P.follows .mixedOrders=true) {f:Nat} {fn:Func} (hf:e.P.funcs[f]? = some fn) (hname:(fn.name == "runtime.NumGoroutine")=false) (hb:fn.body.isSome=true) {an:An}
  (hc:eX fn.ntmps (fn.body.getD .skip)=true) (hnt:Nat.ble fn.ntmps 100000=true):Cont e.P f (cm e fn an):=by
 have hb':fn.body=some (fn.body.getD .skip):=by cases h:fn.body with
  | none=>rw [h] at hb; cases hb
  | some c=>rfl
 have hnt':=YZ hnt
 refine ⟨C7 hf hname hb,fun pk s ops k k' hk hcc=>?_,fun g pk s a w H γ F ops k hX hops hcc=>?_⟩
 ·unfold cm at hcc ⊢;split at hcc
  ·rename_i hle;have hl:(ops.map (evA s)).length<=100000:=by rw [YX]; exact ZK (YZ hle) hnt'
   exact vJ (e:=⟨e.P,e.E,e.cs,e.sh,fun v s=>pk v ⟨s.nx,oq s.t,s.m⟩⟩) he _ an _ ⟨jG e.P fn.results.toList k,fun _ _=>False,jG e.P fn.results.toList k⟩ ⟨jG e.P fn.results.toList k',fun _ _=>False,jG e.P fn.results.toList k'⟩ (fun s' hE h=>rN hl hk hE h) (fun _ _ _ h=>h) (fun s' hE h=>rN hl hk hE h) hcc
  ·exact hcc.elim
 ·unfold cm at hcc;split at hcc
  ·rename_i hle;have hle':=YZ hle
   refine calls_of_wp hf hb' (Code.wp_mono (fun x a' w' hl=>?_) (jj (e:=⟨e.P,e.E,e.cs,e.sh,fun v s=>pk v ⟨s.nx,oq s.t,s.m⟩⟩) he hm (g:=⟨fn.ntmps,g.w0,g.H0,g.own0,g.out,some (g.tv a),[]⟩) _ an _ _ hc hcc _ w ⟨H,γ,F,Wh hX hops hle' hnt'⟩));obtain ⟨s',hq,H',γ',F',hX'⟩:=hl;have fin:∀ t:St,s'=t.toS->jG e.P fn.results.toList k t->a'.defers=[]/\∃ v,(results fn a'.tmps).run e.P w'=.ok v w'/\fH g a pk k (.returned v) w':=by
    rintro t rfl ht
    obtain ⟨y,v,k1,k2,k3⟩:=Mk (P:=e.P) hX' ht;exact ⟨hX'.df.1,y,k1,.inl ⟨y,_,v,H',γ',F',rfl,k3,k2,qW hX hnt' hX'⟩⟩
   cases x with
   | normal=>obtain ⟨t,e1,ht⟩:=hq; exact fin t e1 ht
   | ret=>obtain ⟨t,e1,ht⟩:=hq; exact fin t e1 ht
   | exit i=>obtain ⟨t,e1,ht⟩:=hq; exact ht.elim
   | panic c=>
    obtain ⟨v,t,rfl,rfl,hv⟩:=hq;exact ⟨hX'.df.1,.inr ⟨v,_,rfl,hv,H',γ',F',qW hX hnt' hX'⟩⟩
   | _=>exact hq.elim
  ·exact hcc.elim
theorem PE {e:En} (he:e.ok) (hm:e.P.follows .mixedOrders=true) {f:Nat} {fn:Func} (hf:e.P.funcs[f]? = some fn) (hname:(fn.name == "runtime.NumGoroutine")=false) (hb:fn.body.isSome=true) {an:An}
  (hc:eX fn.ntmps (fn.body.getD .skip)=true) (hnt:Nat.ble fn.ntmps 100000=true):ContC e.P (f+1000000) (ze e fn an):=by
 have hb':fn.body=some (fn.body.getD .skip):=by cases h:fn.body with
  | none=>rw [h] at hb; cases hb
  | some c=>rfl
 have hnt':=YZ hnt
 refine ⟨by omega,by rw [aaA]; exact C7 hf hname hb,fun pk s ops k k' hk hcc=>?_,fun g pk s a w H γ F t ops k ps hX hops ht hval hcc=>?_⟩
 ·unfold ze at hcc ⊢;split at hcc
  ·rename_i _ os;split at hcc
   ·rename_i c hg;split at hcc
    ·rename_i hle;have hl:(os.map (evA s)++c.caps.map Ub).length<=100000:=by rw [Zv,YX,YX]; exact ZK (YZ hle) hnt'
     exact vJ (e:=⟨e.P,e.E,e.cs,e.sh,fun v s=>pk v ⟨s.nx,oq s.t,s.m⟩⟩) he _ an _ ⟨jG e.P fn.results.toList k,fun _ _=>False,jG e.P fn.results.toList k⟩ ⟨jG e.P fn.results.toList k',fun _ _=>False,jG e.P fn.results.toList k'⟩ (fun s' hE h=>rN hl hk hE h) (fun _ _ _ h=>h) (fun s' hE h=>rN hl hk hE h) hcc
    ·exact hcc.elim
   ·exact hcc.elim
  ·exact hcc.elim
 ·rw [aaA] at hval ⊢;unfold ze at hcc;dsimp only at hcc;split at hcc
  ·rename_i c hg;split at hcc
   ·rename_i hle;have hle':=YZ hle
    have h3:=hX.t t
    rw [G.tv_lo ht,show aG s.toS.t t=(gtA s.t t).toV from bZ t s.t,hg,hval] at h3;obtain ⟨_,m,h3⟩:=h3;cases m with
    | zero=>exact h3.elim
    | succ m=>
    obtain ⟨qs,h4,h5,h6⟩:=h3;obtain rfl:ps=qs.toArray:=by injection h4
    rw [YX] at h5;have hlen:(ops.map a.eval++qs).length=(ops.map (evA s)++c.caps.map Ub).length:=by simp [h5]
    have hin:=LI hX (vs:=ops.map (evA s)++c.caps.map Ub) (ys:=ops.map a.eval++qs) hlen (fun i v y hv hy=>by
     rcases Zf i ops.length with hi | hi
     ·rw [Z7 (by simpa using hi),YW] at hv hy;obtain ⟨x,hx,rfl⟩:=Y7.1 hv;rw [hx] at hy;obtain rfl:=Option.some.inj hy;have hop:=Y6.1 hops x (Zi hx)
      have:=az hX hop
      rw [ac hop] at this;exact this
     ·rw [ZR (by simpa using hi)] at hv hy;simp only [YX] at hv hy;rw [YW] at hv;obtain ⟨x,hx,rfl⟩:=Y7.1 hv;obtain ⟨b,o,k1,k2⟩:=h6 _ x.enc y (by rw [YW,hx]; rfl) hy;refine ⟨fun _=>rfl,b,o,m,by rw [aaM]; exact k1,?_⟩;have e:(flat (.st (B1 x).1) (B1 x).2).map C.toD=x.enc:=by rw [bh]; exact QZ x
      rw [e]; exact k2) (by simpa using hle') hnt'
    have hargs:(ops.map a.eval).toArray++qs.toArray=(ops.map a.eval++qs).toArray:=by simp
    rw [hargs];refine calls_of_wp hf hb' (Code.wp_mono (fun x a' w' hl=>?_) (jj (e:=⟨e.P,e.E,e.cs,e.sh,fun v s=>pk v ⟨s.nx,oq s.t,s.m⟩⟩) he hm (g:=⟨fn.ntmps,g.w0,g.H0,g.own0,g.out,some (g.tv a),[]⟩) _ an _ _ hc hcc _ w ⟨H,γ,F,hin⟩));obtain ⟨s',hq,H',γ',F',hX'⟩:=hl;have fin:∀ t:St,s'=t.toS->jG e.P fn.results.toList k t->a'.defers=[]/\∃ v,(results fn a'.tmps).run e.P w'=.ok v w'/\fH g a pk k (.returned v) w':=by
     rintro t rfl ht
     obtain ⟨y,v,k1,k2,k3⟩:=Mk (P:=e.P) hX' ht;exact ⟨hX'.df.1,y,k1,.inl ⟨y,_,v,H',γ',F',rfl,k3,k2,qW hX hnt' hX'⟩⟩
    cases x with
    | normal=>obtain ⟨t,e1,ht⟩:=hq; exact fin t e1 ht
    | ret=>obtain ⟨t,e1,ht⟩:=hq; exact fin t e1 ht
    | exit i=>obtain ⟨t,e1,ht⟩:=hq; exact ht.elim
    | panic c=>
     obtain ⟨v,t,rfl,rfl,hv⟩:=hq;exact ⟨hX'.df.1,.inr ⟨v,_,rfl,hv,H',γ',F',qW hX hnt' hX'⟩⟩
    | _=>exact hq.elim
   ·exact hcc.elim
  ·exact hcc.elim
theorem gH {P:Program} {f t:Nat} {C D:CKt} (h1:Cont P f C) (h2:Cont P f D):Cont P f (yA t C D):=by
 refine ⟨h1.run,fun pk s ops k k' hk hc=>?_,fun g pk s a w H γ F ops k hX hops hc=>?_⟩
 ·unfold yA at hc ⊢;split at hc
  ·split at hc
   ·exact h1.ext pk s _ k k' hk hc
   ·exact h2.ext pk s _ k k' hk hc
  ·exact h2.ext pk s _ k k' hk hc
 ·unfold yA at hc;split at hc
  ·split at hc
   ·exact h1.call g pk s a w H γ F _ k hX hops hc
   ·exact h2.call g pk s a w H γ F _ k hX hops hc
  ·exact h2.call g pk s a w H γ F _ k hX hops hc
section
variable {g:G} {s1:S} {a:Act} {w:World} {H1:FH} {γ:Gam} {F1:Nm->Fp}
theorem Tn (h1:RX g s1 a w H1 γ F1) {w':World} {H2:FH} {tt:Fp} (hfr:Fr w H1 (fun _=>0) w' H2 tt) (hag:∀ b o y,H2 b o=some y->RdV w' b o y):RX g s1 a w' H2 γ F1:=by
 have hold:∀ b,b<w.heap.size->w'.heap[b]? = w.heap[b]? := fun b hb=>hfr.block b hb rfl
 have hnew:∀ b,b<w.heap.size->H1 b=H2 b:=by
  intro b hb
  funext o
  cases hc:H1 b o with
  | some y=>rw [hfr.hold b o y hc]
  | none=>
   cases hc2:H2 b o with
   | none=>rfl
   | some y=>
    rcases hfr.hnew b o (by rw [hc2]; simp) hc with h' | h'
    ·exact absurd rfl h'
    ·omega
 have hsame:∀ b,tot F1 s1.m b≠0->w'.heap[b]? = w.heap[b]? := fun b hb=>hold b (h1.mem.lt b hb)
 have hKp:=cf (w':=w') h1.mem hsame
 have hmem:Mem w' H2 γ s1.m F1:=by
  refine ⟨hag,fun x hx=>aI hKp hfr.hold rfl (fun b hb=>hsame b (by have:=aN (F:=F1) hx b; omega)) (h1.mem.roots x hx),h1.mem.keys,h1.mem.le1,fun b hb=>by have:=h1.mem.lt b hb; have:=hfr.size; omega,fun b hb o=>?_⟩;rw [<- hnew b (h1.mem.lt b hb)]; exact h1.mem.nofz b hb o
 have hFr:Fr w H1 (tot F1 s1.m) w' H2 (tot F1 s1.m):=
  ⟨hfr.size,hfr.os,hfr.tape,hfr.output,fun b hb _=>hold b hb,hfr.hold,fun b o h2 h3=>by
   right
   rcases Zf b w.heap.size with h' | h'
   ·rw [<- hnew b h'] at h2; exact absurd h3 h2
   ·exact h',fun b hb=>.inl hb,hfr.nz⟩
 exact eG h1 hmem hFr (fun i=>bQ hKp hfr.hold (h1.t i)) (fun _=>rfl)
theorem P4 {s1:St} (h1:RX g s1.toS a w H1 γ F1) {ops:List Operand} (hops:ops.all au=true) {ps:List U} {x:Fl ps} (hx:bq ps (ops.map (evA s1))=some x) {nt:Nat} (hle:ops.length<=nt) :
  RX ⟨nt,w,H1,fun _=>0,fun _=>none,none,[]⟩ ⟨aS 0 (dN ps x),[]⟩ ⟨(ops.map a.eval).toArray++Array.replicate (nt - (ops.map a.eval).toArray.size) undef,[]⟩ w H1 γ F1:=by
 obtain ⟨c1,c2,c3⟩:=cR hx;refine ⟨⟨h1.mem.agree,fun x hx=>by simp at hx,by simp,fun b=>ZE _,fun b hb=>absurd rfl hb,fun b hb=>absurd rfl hb⟩,⟨YY _,rfl,rfl,rfl,fun _ _ _=>rfl,fun _ _ _ h=>h,fun b o h2 h3=>absurd h3 h2,fun b hb=>absurd rfl hb,iT⟩,?_,⟨rfl,fun j b e=>by simp at e,dz h1⟩,fun i=>?_⟩
 ·simp; omega
 ·show AR w H1 γ [] (aG (aS 0 (dN ps x)) i) (Array.getD _ i undef)
  rw [<- c3,cZ];simp only [ZE,if_true,aaT,YW];cases hi:ops[i]? with
  | none=>simp only [Z5,aaH]; trivial
  | some y=>
   have hop:=Y6.1 hops y (Zi hi)
   have hy:=az h1 hop
   rw [ac hop] at hy;simp only [Option.map_some,Zs];have hz:(evA s1 y).toV.isFz=true:=by
    refine Y6.1 c2 _ (Zl (Zl (Zi hi)))
   rw [N0 hi];exact dl bT (j6 (fun _ _ _ h=>h) hz hy)
end
section
variable {g:G} {s1:S} {a:Act} {w:World} {H1:FH} {γ:Gam} {F1:Nm->Fp}
theorem Kx {j:Nat} (h1:RX g s1 a w H1 γ F1) {o:Operand} {os:List Operand} {r:Nm} {cells:List T} (hops':au o=true/\os.all au=true) (heo:ev s1 o=.one (.c (.pl ⟨r,0,[]⟩))) (hroot:aa s1.m r=some ⟨true,cells⟩)
  (htyd:(Nm.out j).tyd=r.tyd) (hself:cells.all (T.self r)=true) (hfz:(os.map (ev s1)).all AV.isFz=true) {nt:Nat} (hle:os.length+1<=nt) :
  ∃ b γc,γ r=.blk b/\RX ⟨nt,w,H1,F1 r,fun i=>if i=j then some b else none,none,[]⟩ ⟨aS 0 (.one (.c (.pl ⟨.out j,0,[]⟩))::os.map fun x=>(ev s1 x).map T.canon),[(.out j,⟨true,cells.map (T.ren r (.out j))⟩)]⟩
   ⟨((o::os).map a.eval).toArray++Array.replicate (nt - ((o::os).map a.eval).toArray.size) undef,[]⟩ w H1 γc (fun _=>F1 r):=by
 have hevo:=az h1 hops'.1
 rw [heo] at hevo;obtain ⟨_,hokp,ad,had,hval⟩:=hevo;have hR:=h1.mem.roots _ (ab hroot)
 obtain ⟨b,hγr⟩:∃ b,γ r=.blk b:=by
  have hR2:=hR
  unfold aW at hR2;rw [if_pos rfl] at hR2;obtain ⟨b,_,_,_,_,e,_⟩:=hR2;exact ⟨b,e⟩
 have had':ad=⟨b,0,none⟩:=by
  simp only [plA,hγr,YT] at had; exact had.symm
 subst had';have hoff:0<cells.length:=by
  rw [am] at hokp;obtain ⟨r0,q1,q2⟩:=hokp;dsimp only at q1;rw [hroot] at q1;obtain rfl:=Option.some.inj q1;exact q2
 let γc:Gam:=fun n=>if n=.out j then .blk b else γ n
 let mc:Mm:=[(.out j,⟨true,cells.map (T.ren r (.out j))⟩)]
 let g1:G:=⟨nt,w,H1,F1 r,fun i=>if i=j then some b else none,none,[]⟩
 have hγc:γc (.out j)=.blk b:=by simp [γc]
 have hRc:aW w H1 γc mc (.out j) ⟨true,cells.map (T.ren r (.out j))⟩ (F1 r):=
  lx hR htyd hself hγr hroot hγc ⟨cells.map (T.ren r (.out j)),by simp [mc,aa],by simp⟩
 have hge:∀ c,F1 r c<=tot F1 s1.m c:=fun c=>aN (F:=F1) (ab hroot) c
 let Fc:Nm->Fp:=fun _=>F1 r
 have htc:∀ c,tot Fc mc c=F1 r c:=fun c=>(aaM (F1 r c))
 have hmc:Mem w H1 γc mc Fc:=by
  refine ⟨h1.mem.agree,fun x hx=>?_,by simp [mc],fun c=>by rw [htc]; exact ZK (hge c) (h1.mem.le1 c),fun c hc=>by rw [htc] at hc; exact h1.mem.lt c (by have:=hge c; omega),fun c hc=>by rw [htc] at hc; exact h1.mem.nofz c (by have:=hge c; omega)⟩;simp only [mc,Y3] at hx;subst hx;exact hRc
 refine ⟨b,γc,hγr,?_⟩;refine ⟨hmc,⟨YY _,rfl,rfl,rfl,fun _ _ _=>rfl,fun _ _ _ h=>h,fun b o h2 h3=>absurd h3 h2,fun c hc=>.inl (by rw [htc] at hc; exact hc),iT⟩,?_,⟨rfl,fun i b' e=>?_,dz h1⟩,fun i=>?_⟩
 ·simp [g1]; omega
 ·simp only [g1] at e;split at e
  ·rename_i hj; subst hj; simp only [YT] at e; subst e; exact hγc
  ·simp at e
 ·have hget:∀ x,(o::os)[i]? = some x->(((o::os).map a.eval).toArray++Array.replicate (nt - ((o::os).map a.eval).toArray.size) undef).getD i undef=a.eval x:=by
   intro x hx;rw [Zm,ZF (by simp; have:=ae hx; simp at this; omega)];have e:((o::os).map a.eval)[i]? = some (a.eval x):=by rw [YW,hx]; rfl
   rw [List.getElem?_toArray,e]; rfl
  cases i with
  | zero=>
   rw [G.tv_none rfl,hget o rfl,hval];simp only [aS,aG,if_true];refine ⟨fun _=>rfl,?_,⟨b,0,none⟩,?_,rfl⟩
   ·rw [am];refine ⟨⟨true,cells.map (T.ren r (.out j))⟩,by simp [mc,aa],?_⟩;show 0 < (cells.map (T.ren r (.out j))).length
    simpa using hoff
   ·simp only [plA,hγc]
  | succ i=>
   have hent:aG (aS 0 (.one (.c (.pl ⟨.out j,0,[]⟩))::os.map fun x=>(ev s1 x).map T.canon)) (i+1)=((os.map fun x=>(ev s1 x).map T.canon)[i]?).getD .any:=by
    simp only [aS,aG];rw [if_neg (by omega)];rw [cZ];simp
   show AR w H1 γc mc (aG (aS 0 (.one (.c (.pl ⟨.out j,0,[]⟩))::os.map fun x=>(ev s1 x).map T.canon)) (i+1)) _
   rw [hent,YW];cases hi:os[i]? with
   | none=>simp only [Z5,aaH]; trivial
   | some x=>
    have hx:=az h1 (Y6.1 hops'.2 x (Zi hi))
    simp only [Option.map_some,Zs];have hz:(ev s1 x).isFz=true:=Y6.1 hfz (ev s1 x) (Zl (Zi hi))
    rw [G.tv_none rfl,hget x (by simpa using hi)];exact dl bT (j6 (fun _ _ _ h=>h) hz hx)
theorem OL {j:Nat} (h1:RX g s1 a w H1 γ F1) {r:Nm} {cells:List T} (hroot:aa s1.m r=some ⟨true,cells⟩) (htyd:(Nm.out j).tyd=r.tyd) {b:Nat} (hγr:γ r=.blk b) {nt:Nat} {s2:S} {a':Act} {w':World} {H2:FH} {γ':Gam} {F2:Nm->Fp}
  (e2:RX ⟨nt,w,H1,F1 r,fun i=>if i=j then some b else none,none,[]⟩ s2 a' w' H2 γ' F2) {cells':List T} (hout:aa s2.m (.out j)=some ⟨true,cells'⟩) (hl2:cells'.length=cells.length) (hs2:cells'.all (T.self (.out j))=true) :
  ∃ F3,RX g ⟨jK (gO r) s1.t,(r,⟨true,cells'.map (T.ren (.out j) r)⟩)::aw (gO r) (be s1.m r)⟩ a w' H2 γ F3:=by
 have hge:∀ c,F1 r c<=tot F1 s1.m c:=fun c=>aN (F:=F1) (ab hroot) c
 have hfr:=e2.fr
 dsimp only at hfr;have hd:=oF h1 r
 have hmdm:(s1.drop r).m=aw (aJ r) (be s1.m r):=rfl
 have hdm:=hd.mem
 rw [hmdm] at hdm;generalize hmd0:aw (aJ r) (be s1.m r)=md at hdm;have tdel:∀ c,tot F1 md c+F1 r c=tot F1 s1.m c:=fun c=>by
  rw [<- hmd0,aQ]; exact ik hroot c
 have hsame:∀ c,tot F1 md c≠0->w'.heap[c]? = w.heap[c]? := fun c hc=>
  hfr.block c (h1.mem.lt c (by have:=tdel c; omega)) (by have:=tdel c; have:=h1.mem.le1 c; omega)
 have hnewc:∀ c,c<w.heap.size->F1 r c=0->H1 c=H2 c:=by
  intro c hc h0
  funext o
  cases hh:H1 c o with
  | some y=>rw [hfr.hold c o y hh]
  | none=>
   cases hh2:H2 c o with
   | none=>rfl
   | some y=>
    rcases hfr.hnew c o (by rw [hh2]; simp) hh with h' | h'
    ·exact absurd h0 h'
    ·omega
 have hKp:=cf (w':=w') hdm hsame
 have hmd:Mem w' H2 γ md F1:=by
  refine ⟨e2.mem.agree,fun x hx=>aI hKp hfr.hold rfl (fun c hc=>hsame c (by have:=aN (F:=F1) hx c; omega)) (hdm.roots x hx),hdm.keys,hdm.le1,fun c hc=>by have:=hdm.lt c hc; have:=hfr.size; omega,fun c hc o=>?_⟩;rw [<- hnewc c (hdm.lt c hc) (by have:=tdel c; have:=h1.mem.le1 c; omega)]; exact hdm.nofz c hc o
 have hRout:=e2.mem.roots _ (ab hout)
 have hγ':γ' (.out j)=.blk b:=e2.df.2.1 j b (by simp)
 have hnone:aa md r=none:=by rw [<- hmd0]; exact xF h1.mem.keys
 have hupd:upd γ r (.blk b)=γ:=by
  funext n
  by_cases hn:n=r
  ·subst hn; rw [cp,hγr]
  ·rw [iC hn]
 have hRr:aW w' H2 (upd γ r (.blk b)) ((r,⟨true,cells'.map (T.ren (.out j) r)⟩)::md) r ⟨true,cells'.map (T.ren (.out j) r)⟩ (F2 (.out j)):=
  lx hRout htyd.symm hs2 hγ' hout cp ⟨cells'.map (T.ren (.out j) r),by simp only [aa,if_true],by simp⟩
 have hf1:∀ c,F2 (.out j) c<=tot F2 s2.m c:=fun c=>aN (F:=F2) (ab hout) c
 have hf2:∀ c,F2 (.out j) c≠0->F1 r c≠0\/w.heap.size<=c:=fun c hc=>hfr.tt c (by have:=hf1 c; omega)
 have hmd0':∀ c,F2 (.out j) c≠0->tot F1 md c=0:=fun c hc=>by
  rcases hf2 c hc with h' | h'
  ·have:=tdel c; have:=h1.mem.le1 c; omega
  ·rcases Zj (tot F1 md c) with h0 | h0
   ·exact h0
   ·have:=hdm.lt c (by omega); omega
 obtain ⟨hM,htot⟩:=qU hmd (n:=r) (rc:=.blk b) (r:=⟨true,cells'.map (T.ren (.out j) r)⟩) (f:=F2 (.out j)) hnone hRr (fun c=>by
   by_cases hc:F2 (.out j) c=0
   ·have:=hdm.le1 c; omega
   ·have:=hmd0' c hc; have:=e2.mem.le1 c; have:=hf1 c; omega)
  (fun c hc=>⟨e2.mem.lt c (by have:=hf1 c; omega),e2.mem.nofz c (by have:=hf1 c; omega)⟩)
 rw [hupd] at hM;have hFr:Fr w H1 (tot F1 s1.m) w' H2 (tot (upd F1 r (F2 (.out j))) ((r,⟨true,cells'.map (T.ren (.out j) r)⟩)::md)):=by
  refine ⟨hfr.size,hfr.os,hfr.tape,hfr.output,fun c hc h0=>hfr.block c hc (by have:=hge c; omega),hfr.hold,fun c o h2 h3=>?_,fun c hc=>?_,hfr.nz⟩
  ·rcases hfr.hnew c o h2 h3 with h' | h'
   ·exact .inl (by have:=hge c; omega)
   ·exact .inr h'
  ·rw [htot] at hc;by_cases h0:F2 (.out j) c=0
   ·exact .inl (by have:=tdel c; omega)
   ·rcases hf2 c h0 with h' | h'
    ·exact .inl (by have:=hge c; omega)
    ·exact .inr h'
 have hKB:KeepsB (gO r) w γ s1.m w' γ ((r,⟨true,cells'.map (T.ren (.out j) r)⟩)::md):=by
  have hKa:=i7 (w:=w') (γ:=γ) (rc:=.blk b) (r:=⟨true,cells'.map (T.ren (.out j) r)⟩) hnone
  rw [hupd] at hKa;have hKd:KeepsB (aJ r) w γ s1.m w γ md:=by rw [<- hmd0]; exact cG
  constructor
  ·intro q hbq hq;by_cases hqr:q.root=r
   ·obtain ⟨qr,qo,qp⟩:=q;dsimp only at hqr;subst hqr;simp only [gO,decide_true,ZH,ZN,Bool.not_eq_false',List.isEmpty_iff] at hbq;subst hbq;refine ⟨?_,by simp only [plA]⟩;rw [am] at hq ⊢;obtain ⟨r0,q1,q2⟩:=hq;dsimp only at q1 q2;rw [hroot] at q1;obtain rfl:=Option.some.inj q1;refine ⟨⟨true,cells'.map (T.ren (.out j) qr)⟩,by simp only [aa,if_true],?_⟩;have q2':qo<cells.length:=q2
    show qo < (cells'.map (T.ren (.out j) qr)).length
    simp; omega
   ·obtain ⟨k1,k2⟩:=hKd.pl q (by simp [aJ,hqr]) hq;obtain ⟨k3,k4⟩:=hKp.pl q k1;obtain ⟨k5,k6⟩:=hKa.pl q k3;exact ⟨k5,k6.trans (k4.trans k2)⟩
  ·intro q hbq hq;have hqr:q.root≠r:=by
    intro e;simp [gO,e] at hbq
   obtain ⟨k1,k2⟩:=hKd.rf q (by simp [aJ,hqr]) hq;obtain ⟨k3,k4⟩:=hKp.rf q k1;obtain ⟨k5,k6⟩:=hKa.rf q k3;exact ⟨k5,k6.trans (k4.trans k2)⟩
 have hmem2:aa ((r,(⟨true,cells'.map (T.ren (.out j) r)⟩:Root))::aw (gO r) (be s1.m r)) r=some ⟨true,cells'.map (T.ren (.out j) r)⟩:=by simp only [aa,if_true]
 have hKB2:KeepsB (gO r) w γ s1.m w' γ ((r,⟨true,cells'.map (T.ren (.out j) r)⟩)::aw (gO r) (be s1.m r)):=by
  constructor
  ·intro q hbq hq;refine ⟨?_,(hKB.pl q hbq hq).2⟩;by_cases hqr:q.root=r
   ·have h:=(hKB.pl q hbq hq).1
    rw [am] at h ⊢;obtain ⟨r0,q1,q2⟩:=h;refine ⟨r0,?_,q2⟩;rw [hqr] at q1 ⊢;simpa only [aa,if_true] using q1
   ·have h2:bu (aw (gO r) (be s1.m r)) q:=qk (by rw [am] at hq ⊢; rw [jd hqr]; exact hq)
    rw [am] at h2 ⊢;obtain ⟨r0,q1,q2⟩:=h2;exact ⟨r0,by simp only [aa]; rw [if_neg (fun e=>hqr e.symm)]; exact q1,q2⟩
  ·intro q hbq hq;have hqr:q.root≠r:=by
    intro e;simp [gO,e] at hbq
   refine ⟨?_,(hKB.rf q hbq hq).2⟩;have h2:fy (aw (gO r) (be s1.m r)) q:=ql (by unfold fy at hq ⊢; rw [jd hqr]; exact hq)
   unfold fy at h2 ⊢;simp only [aa];rw [if_neg (fun e=>hqr e.symm)];exact h2
 have ht2:∀ Fu:Nm->Fp,tot Fu ((r,(⟨true,cells'.map (T.ren (.out j) r)⟩:Root))::aw (gO r) (be s1.m r))=tot Fu ((r,⟨true,cells'.map (T.ren (.out j) r)⟩)::md):=fun Fu=>by
  funext c
  rw [bd,bd,<- hmd0,aQ,aQ]
 have hM2:Mem w' H2 γ ((r,⟨true,cells'.map (T.ren (.out j) r)⟩)::aw (gO r) (be s1.m r)) (upd F1 r (F2 (.out j))):=by
  refine ⟨hM.agree,fun x hx=>?_,?_,fun b=>by rw [ht2]; exact hM.le1 b,fun b hb=>hM.lt b (by rwa [ht2] at hb),fun b hb=>hM.nofz b (by rwa [ht2] at hb)⟩
  ·rcases Y2.1 hx with rfl | hx
   ·dsimp only;rw [cp];exact lx hRout htyd.symm hs2 hγ' hout hγr ⟨_,hmem2,by simp⟩
   ·simp only [aw,Zo] at hx;obtain ⟨x0,hx0,rfl⟩:=hx;dsimp only;have hne:x0.1≠r:=fun e=>lO (n:=r) h1.mem.keys (by have:=Zl (f:=(·.1)) hx0; rw [e] at this; exact this)
    rw [iC hne];refine p5 hKB2 hfr.hold rfl (fun c hc=>hsame c ?_) (h1.mem.roots x0 (xU hx0));have:=aN (F:=F1) hx0 c
    rw [<- hmd0,aQ];omega
  ·have:=hM.keys
   rw [<- hmd0] at this;simpa only [List.map_cons,mK] using this
 refine ⟨_,eG h1 hM2 (by rw [ht2]; exact hFr) (fun i=>?_) (fun _=>rfl)⟩;rw [jE];exact ox hKB2 hfr.hold (h1.t i)
end
theorem Iu {e:En} (he:e.ok) (hm:e.P.follows .mixedOrders=true) {f:Nat} {fn:Func} (hf:e.P.funcs[f]? = some fn) (hname:(fn.name == "runtime.NumGoroutine")=false) (hb:fn.body.isSome=true) {an:An} {sh:List Sh} {u:U} {ps rs:List U}
  (hlen:Nat.ble (ps.length+1) fn.ntmps=true) (hc:eX fn.ntmps (fn.body.getD .skip)=true):Cont e.P f (Bg e fn an sh u ps rs):=by
 have hb':fn.body=some (fn.body.getD .skip):=by cases h:fn.body with
  | none=>rw [h] at hb; cases hb
  | some c=>rfl
 refine ⟨C7 hf hname hb,fun pk s ops k k' hk hcc=>?_,fun g pk s a w H γ F1 ops k hX hops hcc=>?_⟩
 ·unfold Bg at hcc ⊢;split at hcc
  ·exact hcc.elim
  ·dsimp only at hcc ⊢;split at hcc
   ·split at hcc
    ·split at hcc
     ·split at hcc
      ·split at hcc
       ·obtain ⟨KK,KP,b1,b2,b3⟩:=hcc;refine ⟨KK,KP,b1,fun z x' hz=>hk _ _ ?_ (b2 z x' hz),b3⟩;exact ((bz _ _).trans (cF _ _ _ _ _)).trans ⟨ZC _,ff (YY _),((lq _).trans (cN (YY _))).trans (iZ _ _ _ (YY _))⟩
       ·exact hcc.elim
      ·exact hcc.elim
     ·exact hcc.elim
    ·exact hcc.elim
   ·exact hcc.elim
 ·unfold Bg at hcc;cases ops with
  | nil=>exact hcc.elim
  | cons o os=>
   dsimp only at hcc;have hops':au o=true/\os.all au=true:=by simpa using hops
   obtain ⟨H1,F2,h1⟩:=cg (os.map (evA s)) s H F1 hX;generalize bm s (os.map (evA s))=s1 at hcc h1;split at hcc
   ·rename_i r hro;obtain ⟨H2,γ2,F3,h2⟩:=b9 (g:=g) r (dA u) sh 0 (Na h1);generalize aV s1 r (dA u) sh 0=s2 at hcc h2;split at hcc
    ·rename_i r' hev2;split at hcc
     ·rename_i cells hdr hty hroot;have hr':r'=r:=by simpa using hdr
      subst hr';split at hcc
      ·rename_i ts hts;split at hcc
       ·rename_i x y hx hy;have hn2:=dT h2
        obtain ⟨c1,c2,c3⟩:=cR hy;obtain ⟨k1,_⟩:=pc hts (iR hx);have hrootS:aa s2.toS.m r'=some ⟨true,cells.map Tt.toT⟩:=by
         have:=aM hroot
         exact this
        have hlen2:os.length=ps.length:=by
         have:=congrArg List.length c3
         rw [cv] at this;simpa using this
        obtain ⟨b,γc,hγr,hent⟩:=Kx (j:=0) h2 hops' (by rw [ac hops'.1,hev2]; rfl) hrootS (by rw [hty]; rfl) (gi hts).1 (by rw [cK hops'.2]; exact c2) (nt:=fn.ntmps) (by rw [hlen2]; exact YZ hlen);have hent2:=oE hent (.out 0)
        have e0:(⟨1,(0,0,.one (.c (.pl ⟨.out 0,0,[]⟩)))::vg 1 ps y,[(.out 0,0,⟨true,aB sh (flat u x),none⟩)]⟩:St).toS=⟨aS 0 (.one (.c (.pl ⟨.out 0,0,[]⟩))::os.map fun x=>(ev s2.toS x).map T.canon),[(Nm.out 0,(⟨true,(cells.map Tt.toT).map (T.ren r' (.out 0))⟩:Root))].map fun x=>(x.1,if x.1=.out 0 then fJ x.2 else x.2)⟩:=by
         have e1:(os.map fun x=>(ev s2.toS x).map T.canon)=dN ps y:=by
          have e:(os.map fun x=>(ev s2.toS x).map T.canon)=(os.map (ev s2.toS)).map (AV.map T.canon):=by rw [Y9]; rfl
          rw [e,cK hops'.2]; exact c3
         rw [e1];refine aU.S_ext ?_ ?_
         ·simp only [St.toS,List.map_cons,aS,gW]; rfl
         ·rw [(gi hts).2];simp only [St.toS,List.map_cons,List.map_nil,if_true,Rt.toR,holed,fJ,k1]
        rw [<- e0] at hent2;obtain ⟨KK,KP,h,hkk,hkp⟩:=hcc;have back:∀ {s':S} {a':Act} {w':World} {H':FH} {γ':Gam} {F':Nm->Fp} {cells1 ts1:List Tt} {y1:El u},RX ⟨fn.ntmps,w,H2,F3 r',fun i=>if i=0 then some b else none,none,[]⟩ s' a' w' H' γ' F' ->
          aa s'.m (.out 0)=some ⟨true,cells1.map Tt.toT⟩->dp sh cells1=some ts1->gf u ts1=some y1 ->
          ∃ F4,RX g (⟨s2.nx+1,jJ (jx r') s2.nx s2.t,(r',s2.nx,⟨true,aB sh (flat u y1),none⟩)::bC (jx r') s2.nx (dh s2.m r')⟩:St).toS a w' H' γ2 F4:=by
         intro s' a' w' H' γ' F' cells1 ts1 y1 e2 hout q2 q3;obtain ⟨k3,_⟩:=pc q2 (iR q3);have hl:(cells1.map Tt.toT).length=(cells.map Tt.toT).length:=by
          have l2:∀ (sh:List Sh) (a b:List C),a.length=b.length->(aB sh a).length=(aB sh b).length:=by
           intro sh;induction sh with
           | nil=>intro a b _; cases a <;> cases b <;> rfl
           | cons s r ih=>
            intro a b hab;have hcons:∀ (c:C) (cs:List C),(aB (s::r) (c::cs)).length=(aB r cs).length+1:=by
             intro c cs;cases s <;> cases c <;> rfl
            cases a with
            | nil=>cases b with
             | nil=>rfl
             | cons _ _=>cases hab
            | cons c cs=>cases b with
             | nil=>cases hab
             | cons d ds=>rw [hcons,hcons,ih cs ds (by simpa using hab)]
          have a1:=congrArg List.length k3
          have a2:=congrArg List.length k1
          have a3:=l2 sh (flat u y1) (flat u x) (by rw [gZ,gZ])
          simp only [YX] at a1 a2 ⊢;omega
         obtain ⟨F4,hX'⟩:=OL (j:=0) h2 hrootS (by rw [hty]; rfl) hγr e2 hout hl (gi q2).1;refine ⟨F4,?_⟩;have hcn:=oE hX' r'
         have hlist:((r',(⟨true,(cells1.map Tt.toT).map (T.ren (.out 0) r')⟩:Root))::aw (gO r') (be s2.toS.m r')).map (fun x=>(x.1,if x.1=r' then fJ x.2 else x.2))=(r',⟨true,(aB sh (flat u y1)).map Tt.toT⟩)::aw (gO r') (be s2.toS.m r'):=by
          simp only [List.map_cons,if_true]
          congr 1
          ·rw [ua k3.symm]; simp only [fJ,k3]
          ·refine (Zc fun z hz=>?_).trans (List.map_id _);have hne:z.1≠r':=by
            intro e;have hz1:z.1∈(aw (gO r') (be s2.toS.m r')).map (·.1):=Zl (f:=(·.1)) hz
            have e2:(aw (gO r') (be s2.toS.m r')).map (·.1)=(be s2.toS.m r').map (·.1):=by simp only [aw,Y9]; rfl
            rw [e2,e] at hz1;exact lO h2.mem.keys hz1
           rw [if_neg hne]; rfl
         have hfin:(⟨s2.nx+1,jJ (jx r') s2.nx s2.t,(r',s2.nx,⟨true,aB sh (flat u y1),none⟩)::bC (jx r') s2.nx (dh s2.m r')⟩:St).toS=⟨jK (gO r') s2.toS.t,(r',⟨true,(aB sh (flat u y1)).map Tt.toT⟩)::aw (gO r') (be s2.toS.m r')⟩:=by
          refine aU.S_ext (jf _ _ _) ?_;simp only [St.toS,List.map_cons]
          congr 1
          have:=cH (jx r') s2.nx (dh s2.m r')
          rw [jB _ _ hn2] at this;exact this
         rw [hfin];dsimp only at hcn;rw [hlist] at hcn;exact hcn
        refine calls_of_wp hf hb' (Code.wp_mono (fun ex a' w' hl=>?_) (jj (e:=⟨e.P,e.E,e.cs,e.sh,MD sh u KP⟩) he hm (g:=⟨fn.ntmps,w,H2,F3 r',fun i=>if i=0 then some b else none,none,[]⟩) _ an _ _ hc h _ w ⟨H2,γc,_,hent2⟩));obtain ⟨s',hq,hR⟩:=hl;have fin:∀ t:St,s'=t.toS->jW e.P fn.results.toList sh u rs KK t ->
          a'.defers=[]/\∃ v,(results fn a'.tmps).run e.P w'=.ok v w'/\fH g a pk k (.returned v) w':=by
         rintro t rfl ht
         unfold jW at ht;dsimp only at ht;have hR1:=b9 (.out 0) (dA u) sh 0 (mj fn.results.toList hR)
         generalize aV (g8 t fn.results.toList) (.out 0) (dA u) sh 0=s3 at ht hR1;have hid:=mC (us:=rs) (k:=fun vs=>match bq rs vs,aY s3.m (.out 0) with
          | some x_1,some ⟨true,cells,none⟩=>match dp sh cells with
           | some ts=>match gf u ts with
            | some y_1=>KK (x_1,y_1)
            | none=>False
           | none=>False
          | _,_=>False) (by
           intro vs hvs;split at hvs
           ·rename_i h1 _; exact ⟨_,h1⟩
           ·exact hvs.elim) ht
         have hg2:=ii (us:=rs) (K:=fun r=>∃ cells ts y1,aY s3.m (.out 0)=some ⟨true,cells,none⟩/\dp sh cells=some ts/\gf u ts=some y1/\KK (r,y1)) (R6 hR1) (by
           intro vs hvs;split at hvs
           ·rename_i x1 cells1 h1 h2;split at hvs
            ·rename_i ts h3;split at hvs
             ·rename_i y1 h4; exact ⟨x1,h1,cells1,ts,y1,h2,h3,h4,hvs⟩
             ·exact hvs.elim
            ·exact hvs.elim
           ·exact hvs.elim) ht
         obtain ⟨Hs,γs,Fs,hXs⟩:=hR1;obtain ⟨y0,v,H4,F4,e1,e2,e3,e4,r0,e5,cells1,ts1,y1,q1,q2,q3,q4⟩:=Gy hXs rfl (C3 hid (K:=fun v=>∃ r,v=(bw rs r).toV/\∃ cells ts y1,aY s3.m (.out 0)=some ⟨true,cells,none⟩/\dp sh cells=some ts/\gf u ts=some y1/\KK (r,y1)) (fun r hr=>⟨r,rfl,hr⟩) hg2);rw [hid] at e2 e3;obtain ⟨F5,hX5⟩:=back e2 (aM q1) q2 q3;refine ⟨e2.df.1,y0,e1,.inl ⟨y0,_,bw rs r0,H4,γ2,F5,rfl,hkk _ _ q4,?_,hX5⟩⟩;rw [<- e5];exact dl bT (j6 (fun _ _ _ h=>h) e4 e3)
        cases ex with
        | normal=>obtain ⟨t,e1,ht⟩:=hq; exact fin t e1 ht
        | ret=>obtain ⟨t,e1,ht⟩:=hq; exact fin t e1 ht
        | exit i=>obtain ⟨t,e1,ht⟩:=hq; exact ht.elim
        | panic c=>
         obtain ⟨v,t,rfl,rfl,hv⟩:=hq;unfold MD at hv;dsimp only at hv;have hR1:=b9 (.out 0) (dA u) sh 0 hR
         have hdf:a'.defers=[]:=by obtain ⟨_,_,_,hX'⟩:=hR; exact hX'.df.1
         generalize aV t (.out 0) (dA u) sh 0=s3 at hv hR1;split at hv
         ·rename_i cells1 q1;split at hv
          ·rename_i ts1 q2;split at hv
           ·rename_i y1 q3;obtain ⟨Hs,γs,Fs,hXs⟩:=hR1;obtain ⟨F5,hX5⟩:=back hXs (aM q1) q2 q3;exact ⟨hdf,.inr ⟨v,_,rfl,hkp _ _ hv,Hs,γ2,F5,hX5⟩⟩
           ·exact hv.elim
          ·exact hv.elim
         ·exact hv.elim
        | _=>exact hq.elim
       ·exact hcc.elim
      ·exact hcc.elim
     ·exact hcc.elim
    ·exact hcc.elim
   ·exact hcc.elim
theorem vQ {e:En} (he:e.ok) (hm:e.P.follows .mixedOrders=true) {fn:Func} {an:An} {ps rs:List U} {g:G} (hg:g.nt=fn.ntmps) (hc:eX fn.ntmps (fn.body.getD .skip)=true) {x:Fl ps} {KK:Fl rs->Prop} {K:AV->Prop}
  (hK:∀ r,KK r->K (bw rs r).toV) (h:ao e fn an ps rs x KK):AW e.P g (fn.body.getD .skip) (U9 e.P fn.results.toList K) ⟨aS 0 (dN ps x),[]⟩:=by
 have h1:=jj (e:=⟨e.P,e.E,e.cs,e.sh,fun _ _=>False⟩) he hm (g:=g) _ an (xt ps x) _ (by rw [hg]; exact hc) h
 have e0:(xt ps x).toS=⟨aS 0 (dN ps x),[]⟩:=aU.S_ext (gW 0 ps x) rfl
 rw [e0] at h1;refine lj h1 (fun ex s' a w h' hR=>?_);cases ex with
 | normal=>
  obtain ⟨t,rfl,ht⟩:=h';exact mM hK ht hR
 | ret=>
  obtain ⟨t,rfl,ht⟩:=h';exact mM hK ht hR
 | exit i=>exact h'.elim (fun t ht=>ht.2.elim)
 | panic c=>obtain ⟨_,_,_,_,hf⟩:=h'; exact hf.elim
 | _=>exact h'.elim
theorem X0 {u:U} (hu:scU u=true) (x:El u):∀ {H H':FH} {y:Value},FDx H (ah u x).toD y->FDx H' (ah u x).toD y:=by
 intro H H' y h;cases u with
 | i k=>obtain ⟨rfl,h2⟩:=dK h; exact ⟨0,rfl,h2⟩
 | b8=>obtain ⟨rfl,h2⟩:=dK h; exact ⟨0,rfl,h2⟩
 | bo=>obtain rfl:=gI h; exact ⟨0,rfl⟩
 | s=>obtain ⟨rfl,h2⟩:=fD h; exact ⟨0,rfl,h2⟩
 | _=>cases hu
theorem Vc {u:U} (hu:scU u=true) (x:El u):zB u x=.c (.d (ah u x)):=by cases u <;> first | rfl | cases hu
theorem XZ {w w':World} {H H':FH} {γ γ':Gam} {m m':Mm}:∀ {rs:List U} {y:Fl rs} {z:Value},rs.all scU=true->AR w H γ m (bw rs y).toV z->AR w' H' γ' m' (bw rs y).toV z:=by
 have one:∀ {u:U} {x:El u} {z:Value},scU u=true->AR1 w H γ m (zB u x).toV z->AR1 w' H' γ' m' (zB u x).toV z:=by
  intro u x z hu h;rw [Vc hu] at h ⊢;exact ⟨h.1,X0 hu x h.2⟩
 have all:∀ (rs:List U) (y:Fl rs) (zs:List Value),rs.all scU=true->ARs w H γ m ((bw.resL rs y).map A1.toV) zs->ARs w' H' γ' m' ((bw.resL rs y).map A1.toV) zs:=by
  intro rs;induction rs with
  | nil=>intro y zs _ h; cases zs with
   | nil=>trivial
   | cons _ _=>exact h.elim
  | cons u r ih=>
   intro y zs hs h;simp only [Zb,YV] at hs;cases zs with
   | nil=>exact h.elim
   | cons z zs=>exact ⟨one hs.1 h.1,ih _ zs hs.2 h.2⟩
 intro rs y z hs h
 match rs,y with
 | [],_=>obtain ⟨l,h1,h2⟩:=h; exact ⟨l,h1,all [] () _ rfl h2⟩
 | [u],y=>
  simp only [Zb,List.all_nil,aaW] at hs;have e:(bw [u] y).toV=.one (zB u y).toV:=by show (yG u y).toV=_; rw [sx]; rfl
  rw [e] at h ⊢;exact one hs h
 | u::v::r,y=>obtain ⟨l,h1,h2⟩:=h; exact ⟨l,h1,all (u::v::r) y _ hs h2⟩
section
variable {P:Program} {g:G} {a:Act} {w:World} {H:FH} {γ:Gam} {F:Nm->Fp}
theorem GM {s:St} {p:Pl} {sh:List Sh} {u:U} {l:List (El u)} {r:Rt} (hr:aY s.m p.root=some r) (hh:r.hole=none) (h:sliceAt s.m p=some ⟨sh,u,l⟩) (hp:okP s.toS.m p):aP s.toS.m p=some (.ow sh (l.map (ak u))):=by
 unfold sliceAt at h;split at h
 ·rename_i sh' u' l' ht;cases h;have e:r.toR=⟨r.blk,r.cells.map Tt.toT⟩:=by unfold Rt.toR; rw [hh]; rfl
  have hg:aa s.toS.m p.root=some ⟨r.blk,r.cells.map Tt.toT⟩:=by rw [<- e]; exact aM hr
  unfold atT at ht;rw [hr] at ht;dsimp only at ht;unfold aP;rw [hg];dsimp only;cases hpath:p.path with
  | nil=>
   rw [hpath] at ht;dsimp only at ht ⊢;split at ht
   ·simp only [YT] at ht;have:(r.cells.drop p.off)[0]? = some (.ow sh u l):=by
     have h2:=congrArg (·[0]?) ht
     simp only [Zu] at h2;rw [Ze (by omega)] at h2;exact h2
    rw [Zp,aaM] at this;rw [YW,this]; rfl
   ·cases ht
  | cons st q=>
   rw [hpath] at ht;dsimp only at ht ⊢;split at ht
   ·rename_i sub u2 l2 _ hc;unfold okP at hp;rw [hpath] at hp;obtain ⟨r',sub',l',e1,e2,e3⟩:=hp;rw [hg] at e1;obtain rfl:=Option.some.inj e1;dsimp only at e2;have hc':(r.cells.map Tt.toT)[p.off]? = some (.ow sub (l2.map (ak u2))):=by rw [YW,hc]; rfl
    rw [hc'] at e2;have e2':=Option.some.inj e2
    simp only [T.ow.injEq] at e2';obtain ⟨rfl,rfl⟩:=e2';rw [hc'];dsimp only;rw [xH e3 ht]
   ·cases ht
 ·cases h
def lK (w:World) (H:FH) (t:Fp):FH:=fun b o=>if t b≠0 then (w.cell? ⟨b,o,none⟩).map HV.c else H b o
theorem rP {s:S} (h:RX g s a w H γ F):∀ b o y,H b o=some y->lK w H (tot F s.m) b o=some y:=by
 intro b o y hy;unfold lK;split
 ·rename_i hb; rw [h.mem.nofz b hb o] at hy; cases hy
 ·exact hy
theorem FR {s:S} (h:RX g s a w H γ F):∀ b o y,lK w H (tot F s.m) b o=some y->RdV w b o y:=by
 intro b o y hy;unfold lK at hy;split at hy
 ·obtain ⟨z,hz,rfl⟩:=Y7.1 hy;exact hz
 ·exact h.mem.agree b o y hy
theorem JQ (s:St) (v:At):lent s v=v\/∃ p r sh u l,v=.one (.c (.rf p))/\lent s v=sct (.li u l)/\aY s.m p.root=some r/\r.hole=none/\sliceAt s.m p=some ⟨sh,u,l⟩:=by
 unfold lent;split
 ·rename_i p;split
  ·rename_i r hr;split
   ·rename_i sh u l hh hs; exact .inr ⟨p,r,sh,u,l,rfl,rfl,hr,hh,hs⟩
   ·exact .inl rfl
  ·exact .inl rfl
 ·exact .inl rfl
theorem UL {s:St} (h:RX g s.toS a w H γ F) {v:At} {z:Value} (hv:AR w H γ s.toS.m v.toV z) (hz:(lent s v).toV.isFz=true):AR w (lK w H (tot F s.toS.m)) γ [] (lent s v).toV z:=by
 rcases JQ s v with e | ⟨p,r,sh,u,l,rfl,e,hr,hh,hs⟩
 ·rw [e] at hz ⊢;exact j6 (rP h) hz hv
 ·rw [e];have hg:=GM hr hh hs (nV hv.2.1)
  obtain ⟨f,y,e1,⟨k,e4⟩,e5,_⟩:=wy h.mem (dG hv.2.1) hg;rw [hv.2.2] at e1;obtain rfl:=Option.some.inj e1;refine ⟨fun _=>rfl,P0 (rP h) k _ _ f _ e4 (fun b hb o x hx=>?_)⟩;unfold lK;have hbt:tot F s.toS.m b≠0:=by
   have h1:=e5 b
   have h2:=aN (F:=F) (ab (aM hr)) b
   dsimp only at h2;have h3:tot F s.toS.m b=tot F (toM s.m) b:=rfl
   omega
  rw [if_pos hbt,hx]; rfl
theorem RK {s:St} (h:RX g s.toS a w H γ F) {ops:List Operand} (hops:ops.all au=true) {ps:List U} {x:Fl ps} (hx:bq ps (ops.map fun x=>lent s (evA s x))=some x) {nt:Nat} (hle:ops.length<=nt) :
  RX ⟨nt,w,lK w H (tot F s.toS.m),fun _=>0,fun _=>none,none,[]⟩ ⟨aS 0 (dN ps x),[]⟩ ⟨(ops.map a.eval).toArray++Array.replicate (nt - (ops.map a.eval).toArray.size) undef,[]⟩ w (lK w H (tot F s.toS.m)) γ F:=by
 obtain ⟨c1,c2,c3⟩:=cR hx;refine ⟨⟨FR h,fun x hx=>by simp at hx,by simp,fun b=>ZE _,fun b hb=>absurd rfl hb,fun b hb=>absurd rfl hb⟩,⟨YY _,rfl,rfl,rfl,fun _ _ _=>rfl,fun _ _ _ h=>h,fun b o h2 h3=>absurd h3 h2,fun b hb=>absurd rfl hb,iT⟩,?_,⟨rfl,fun j b e=>by simp at e,ww (rP h) (dz h)⟩,fun i=>?_⟩
 ·simp; omega
 ·show AR w _ γ [] (aG (aS 0 (dN ps x)) i) (Array.getD _ i undef)
  rw [<- c3,cZ];simp only [ZE,if_true,aaT,YW];cases hi:ops[i]? with
  | none=>simp only [Z5,aaH]; trivial
  | some y=>
   have hop:=Y6.1 hops y (Zi hi)
   have hy:=az h hop
   rw [ac hop] at hy;simp only [Option.map_some,Zs];have hz:(lent s (evA s y)).toV.isFz=true:=by
    refine Y6.1 c2 _ (Zl ?_);exact Zl (f:=fun x=>lent s (evA s x)) (Zi hi)
   have hget:((ops.map a.eval).toArray++Array.replicate (nt - (ops.map a.eval).toArray.size) undef).getD i undef=a.eval y:=by
    rw [Zm,ZF (by simp; exact ae hi)];simp [hi]
   rw [hget];exact dl bT (UL h hy hz)
theorem M6 {s1:S} (h1:RX g s1 a w H γ F) {w':World} {H2:FH} {tt:Fp} (hfr:Fr w (lK w H (tot F s1.m)) (fun _=>0) w' H2 tt) (hag:∀ b o y,H2 b o=some y->RdV w' b o y) :
  RX g s1 a w' (fun b o=>if tot F s1.m b≠0 then none else H2 b o) γ F:=by
 have hold:∀ b,b<w.heap.size->w'.heap[b]? = w.heap[b]? := fun b hb=>hfr.block b hb rfl
 have hsame:∀ b,tot F s1.m b≠0->w'.heap[b]? = w.heap[b]? := fun b hb=>hold b (h1.mem.lt b hb)
 have hKp:=cf (w':=w') h1.mem hsame
 have hle:∀ b o y,H b o=some y->(if tot F s1.m b≠0 then none else H2 b o)=some y:=by
  intro b o y hy;split
  ·rename_i hb; rw [h1.mem.nofz b hb o] at hy; cases hy
  ·exact hfr.hold b o y (rP h1 b o y hy)
 have hnew:∀ b o,(if tot F s1.m b≠0 then none else H2 b o)≠none->H b o=none->w.heap.size<=b:=by
  intro b o h2 h3;split at h2
  ·exact absurd rfl h2
  ·rename_i hb;have h4:lK w H (tot F s1.m) b o=none:=by unfold lK; rw [if_neg hb]; exact h3
   rcases hfr.hnew b o h2 h4 with h' | h'
   ·exact absurd rfl h'
   ·exact h'
 have hmem:Mem w' (fun b o=>if tot F s1.m b≠0 then none else H2 b o) γ s1.m F:=by
  refine ⟨fun b o y hy=>?_,fun x hx=>aI hKp hle rfl (fun b hb=>hsame b (by have:=aN (F:=F) hx b; omega)) (h1.mem.roots x hx),h1.mem.keys,h1.mem.le1,fun b hb=>by have:=h1.mem.lt b hb; have:=hfr.size; omega,fun b hb o=>?_⟩
  ·split at hy
   ·cases hy
   ·exact hag b o y hy
  ·rw [if_pos hb]
 have hFr:Fr w H (tot F s1.m) w' (fun b o=>if tot F s1.m b≠0 then none else H2 b o) (tot F s1.m):=
  ⟨hfr.size,hfr.os,hfr.tape,hfr.output,fun b hb _=>hold b hb,hle,fun b o h2 h3=>.inr (hnew b o h2 h3),fun b hb=>.inl hb,hfr.nz.1,fun b o x l c h2 h3=>by
   have h5:=hnew b o (by rw [h2]; simp) h3
   split at h2
   ·cases h2
   ·rename_i hb;exact hfr.nz.2 b o x l c h2 (by unfold lK; rw [if_neg hb]; exact h3)⟩
 exact eG h1 hmem hFr (fun i=>bQ hKp hle (h1.t i)) (fun _=>rfl)
theorem wb {e:En} (he:e.ok) (hm:e.P.follows .mixedOrders=true) {f:Nat} {fn:Func} (hf:e.P.funcs[f]? = some fn) (hname:(fn.name == "runtime.NumGoroutine")=false) (hb:fn.body.isSome=true) {an:An} {ps rs:List U} {Φ:Fl ps->(Fl rs->Prop)->Prop}
  (hlen:Nat.ble ps.length fn.ntmps=true) (hc:eX fn.ntmps (fn.body.getD .skip)=true) (law:∀ x KK,Φ x KK->ao e fn an ps rs x KK):Cont e.P f (xM ps rs Φ):=by
 have hb':fn.body=some (fn.body.getD .skip):=by cases h:fn.body with
  | none=>rw [h] at hb; cases hb
  | some c=>rfl
 refine ⟨C7 hf hname hb,fun pk s ops k k' hk hcc=>?_,fun g pk s a w H γ F ops k hX hops hcc=>?_⟩
 ·unfold xM at hcc ⊢;split at hcc
  ·obtain ⟨KK,h1,h2⟩:=hcc;exact ⟨KK,h1,fun y hy=>hk _ _ (Ext.refl s) (h2 y hy)⟩
  ·exact hcc.elim
 ·unfold xM at hcc;split at hcc
  rotate_left
  ·exact hcc.elim
  rename_i x hx hs;obtain ⟨KK,h1,hk⟩:=hcc;have hlx:ops.length=ps.length:=by
   obtain ⟨_,_,c3⟩:=cR hx;have:=congrArg List.length c3
   rw [cv] at this;simpa using this
  have hA:=vQ (g:=⟨fn.ntmps,w,lK w H (tot F s.toS.m),fun _=>0,fun _=>none,none,[]⟩) he hm rfl hc (K:=fun r=>∃ y,KK y/\r=(bw rs y).toV) (fun r hr=>⟨r,hr,rfl⟩) (law x KK h1)
  refine calls_of_wp hf hb' (Code.wp_mono (fun ex a' w' hl=>?_) (hA _ w ⟨_,γ,F,RK hX hops hx (nt:=fn.ntmps) (by rw [hlx]; exact YZ hlen)⟩));obtain ⟨s',hq,H',γ',F',hX'⟩:=hl;have fin:qx e.P s' fn.results.toList (fun r=>∃ y,KK y/\r=(bw rs y).toV)->a'.defers=[]/\∃ v,(results fn a'.tmps).run e.P w'=.ok v w'/\fH g a pk k (.returned v) w':=by
   intro hq;obtain ⟨z,v,s2,H2,F2,e1,e2,e3,e4,y,e5,e6⟩:=vG hX' rfl hq;refine ⟨e2.df.1,z,e1,.inl ⟨z,s,bw rs y,_,γ,F,rfl,hk y e5,?_,M6 hX e2.fr e2.mem.agree⟩⟩;have:=dl bT e3
   rw [e6] at this;exact XZ hs this
  cases ex with
  | normal=>exact fin hq
  | ret=>exact fin hq
  | _=>exact hq.elim
theorem MS {e:En} (he:e.ok) (hm:e.P.follows .mixedOrders=true) {f:Nat} {fn:Func} (hf:e.P.funcs[f]? = some fn) (hname:(fn.name == "runtime.NumGoroutine")=false) (hb:fn.body.isSome=true) {an:An} {ps rs:List U} {pre:Fl ps->Prop} {Fn:Fl ps->Fl rs}
  (hlen:Nat.ble ps.length fn.ntmps=true) (hc:eX fn.ntmps (fn.body.getD .skip)=true) (law:∀ x,pre x->∀ KK:Fl rs->Prop,KK (Fn x)->ao e fn an ps rs x KK):Cont e.P f (FSx ps rs pre Fn):=by
 have h:=wb he hm hf hname hb (rs:=rs) (Φ:=fun x KK=>pre x/\KK=fun y=>y=Fn x) hlen hc (fun x KK ⟨h1,h2⟩=>law x h1 KK (by rw [h2]))
 refine ⟨h.run,fun pk s ops k k' hk hcc=>?_,fun g pk s a w H γ F ops k hX hops hcc=>h.call g pk s a w H γ F ops k hX hops ?_⟩
 ·unfold FSx at hcc ⊢;split at hcc
  ·exact ⟨hcc.1,hk _ _ (Ext.refl s) hcc.2⟩
  ·exact hcc.elim
 ·unfold FSx at hcc;unfold xM;split at hcc
  ·exact ⟨_,⟨hcc.1,rfl⟩,fun y hy=>by rw [hy]; exact hcc.2⟩
  ·exact hcc.elim
end
def kH (ps rs:List U) (pre:Fl ps->Prop) (post:Fl ps->Fl rs->Prop):CKt:=fun _ s ops k=>
 let s1:=bm s (ops.map (evA s))
 match bq ps (ops.map (evA s1)) with
 | some x=>pre x/\∀ y,post x y->k s1 (bw rs y)
 | none=>False
theorem PI {e:En} (he:e.ok) (hm:e.P.follows .mixedOrders=true) {f:Nat} {fn:Func} (hf:e.P.funcs[f]? = some fn) (hname:(fn.name == "runtime.NumGoroutine")=false) (hb:fn.body.isSome=true) {an:An} {ps rs:List U} {pre:Fl ps->Prop} {post:Fl ps->Fl rs->Prop}
  (hlen:Nat.ble ps.length fn.ntmps=true) (hc:eX fn.ntmps (fn.body.getD .skip)=true) (law:∀ x,pre x->∀ KK:Fl rs->Prop,(∀ y,post x y->KK y)->ao e fn an ps rs x KK):Cont e.P f (kH ps rs pre post):=by
 have hb':fn.body=some (fn.body.getD .skip):=by cases h:fn.body with
  | none=>rw [h] at hb; cases hb
  | some c=>rfl
 have hcon:=wa hf hname hb' (fun avs K=>∃ x:Fl ps,avs=dN ps x/\pre x/\∀ y,post x y->K (bw rs y).toV) (fun avs K ⟨x,hx,_,_⟩=>by rw [hx,cv]; exact YZ hlen) (fun g avs K hg ⟨x,hx,hp,hk⟩=>by
  subst hx;have h:=law x hp (post x) (fun _ h=>h)
  have h1:=jj (e:=⟨e.P,e.E,e.cs,e.sh,fun _ _=>False⟩) he hm (g:=g) _ an (xt ps x) _ (by rw [hg]; exact hc) h
  have e0:(xt ps x).toS=⟨aS 0 (dN ps x),[]⟩:=aU.S_ext (gW 0 ps x) rfl
  rw [e0] at h1;refine lj h1 (fun ex s' a w h' hR=>?_);cases ex with
  | normal=>
   obtain ⟨t,rfl,ht⟩:=h';exact mM (fun r hr=>hk r hr) ht hR
  | ret=>
   obtain ⟨t,rfl,ht⟩:=h';exact mM (fun r hr=>hk r hr) ht hR
  | exit i=>exact h'.elim (fun t ht=>ht.2.elim)
  | panic c=>obtain ⟨_,_,_,_,hf⟩:=h'; exact hf.elim
  | _=>exact h'.elim)
 refine ⟨hcon.run,fun pk s ops k k' hk hcc=>?_,fun g pk s a w H γ F1 ops k hX hops hcc=>?_⟩
 ·unfold kH at hcc ⊢;dsimp only at hcc ⊢;split at hcc
  ·exact ⟨hcc.1,fun y hy=>hk _ _ (bz _ _) (hcc.2 y hy)⟩
  ·exact hcc.elim
 ·unfold kH at hcc;dsimp only at hcc;obtain ⟨H1,F2,h1⟩:=cg (ops.map (evA s)) s H F1 hX;generalize bm s (ops.map (evA s))=s1 at hcc h1;split at hcc
  ·rename_i x hx;obtain ⟨c1,c2,c3⟩:=cR hx;refine Calls.mono (hcon.call g s1.toS a w H1 γ F2 ops (fun s' av=>∃ t v',SEq s' t.toS/\av=v'.toV/\k t v') h1 hops ?_) ?_
   ·unfold n4;dsimp only;rw [cK hops,dc c1];have e:(ops.map fun x=>(ev s1.toS x).map T.canon)=(ops.map (ev s1.toS)).map (AV.map T.canon):=by rw [Y9]; rfl
    rw [e,cK hops];refine ⟨c2,?_⟩;rw [c3];exact ⟨x,rfl,hcc.1,fun y hy=>⟨s1,_,⟨fun _=>rfl,rfl⟩,rfl,hcc.2 y hy⟩⟩
   ·rintro e w' ⟨r,s',av,H',γ',F',k1,⟨t,v',e1,rfl,k2⟩,k3,k4⟩
    refine .inl ⟨r,t,v',H',γ',F',k1,k2,?_,aR e1 k4⟩;rw [e1.2] at k3;exact k3
  ·exact hcc.elim
structure NmR (σ:Nm->Nm):Prop where
 inv:∀ n,σ (σ n)=n
 tyd:∀ n,(σ n).tyd=n.tyd
theorem NmR.inj {σ:Nm->Nm} (h:NmR σ) {n n':Nm} (e:σ n=σ n'):n=n':=by rw [<- h.inv n,<- h.inv n',e]
def Pl.rn (σ:Nm->Nm) (p:Pl):Pl:=⟨σ p.root,p.off,p.path⟩
def T.rn (σ:Nm->Nm):T->T
 | .pl p=>.pl (p.rn σ)
 | .rf p=>.rf (p.rn σ)
 | t=>t
def AV1.rn (σ:Nm->Nm):AV1->AV1
 | .c t=>.c (t.rn σ)
 | .agg ts=>.agg (ts.map (T.rn σ))
def AV.rn (σ:Nm->Nm):AV->AV
 | .one x=>.one (x.rn σ)
 | .tup xs=>.tup (xs.map (AV1.rn σ))
 | .any=>.any
def Root.rn (σ:Nm->Nm) (r:Root):Root:=⟨r.blk,r.cells.map (T.rn σ)⟩
def rnM (σ:Nm->Nm) (m:Mm):Mm:=m.map fun x=>(σ x.1,x.2.rn σ)
def S.rn (σ:Nm->Nm) (s:S):S:=⟨s.t.map fun x=>(x.1,x.2.rn σ),rnM σ s.m⟩
def Tt.rn (σ:Nm->Nm):Tt->Tt
 | .pl p=>.pl (p.rn σ)
 | .rf p=>.rf (p.rn σ)
 | t=>t
def A1.rn (σ:Nm->Nm):A1->A1
 | .c t=>.c (t.rn σ)
 | .agg ts=>.agg (ts.map (Tt.rn σ))
def At.rn (σ:Nm->Nm):At->At
 | .one x=>.one (x.rn σ)
 | .tup xs=>.tup (xs.map (A1.rn σ))
 | .any=>.any
def Rt.rn (σ:Nm->Nm) (r:Rt):Rt:=⟨r.blk,r.cells.map (Tt.rn σ),r.hole⟩
def St.rn (σ:Nm->Nm) (s:St):St:=⟨s.nx,s.t.map fun x=>(x.1,x.2.1,x.2.2.rn σ),s.m.map fun x=>(σ x.1,x.2.1,x.2.2.rn σ)⟩
section
variable {σ:Nm->Nm}
theorem Tt.rn_toT:∀ t:Tt,(t.rn σ).toT=t.toT.rn σ
 | .d _=>rfl
 | .nil=>rfl
 | .ow _ _ _=>rfl
 | .mp _ _ _=>rfl
 | .it _ _ _ _=>rfl
 | .mo _ _ _ _=>rfl
 | .el _ _=>rfl
 | .ga _ _ _=>rfl
 | .pl _=>rfl
 | .rf _=>rfl
 | .any=>rfl
theorem Qj (ts:List Tt):(ts.map (Tt.rn σ)).map Tt.toT=(ts.map Tt.toT).map (T.rn σ):=by
 rw [Y9,Y9];exact Zc fun t _=>Tt.rn_toT t
theorem A1.rn_toV:∀ x:A1,(x.rn σ).toV=x.toV.rn σ
 | .c t=>congrArg AV1.c t.rn_toT
 | .agg ts=>congrArg AV1.agg (Qj ts)
theorem At.rn_toV:∀ x:At,(x.rn σ).toV=x.toV.rn σ
 | .one x=>congrArg AV.one x.rn_toV
 | .tup xs=>congrArg AV.tup (by
  rw [Y9,Y9];exact Zc fun t _=>A1.rn_toV t)
 | .any=>rfl
theorem Rn (ts:List T) (h:Option (Nat×Step×List Step)):holed (ts.map (T.rn σ)) h=(holed ts h).map (T.rn σ):=by
 cases h with
 | none=>rfl
 | some x=>
  obtain ⟨off,st,q⟩:=x;simp only [holed,YW];cases ts[off]? with
  | none=>rfl
  | some t=>
   cases t with
   | ow sub l=>simp only [Option.map_some,T.rn,Zz]
   | _=>rfl
theorem Rt.rn_toR (r:Rt):(r.rn σ).toR=r.toR.rn σ:=by
 unfold Rt.toR Rt.rn Root.rn;dsimp only;rw [Qj,Rn]
theorem St.rn_toS (s:St):(s.rn σ).toS=s.toS.rn σ:=by
 unfold St.toS St.rn S.rn rnM;simp only [Y9]
 congr 1
 ·exact Zc fun x _=>by simp only [Function.comp,At.rn_toV]
 ·exact Zc fun x _=>by simp only [Function.comp,Rt.rn_toR]
theorem Us (t:List (Nat×AV)) (i:Nat):aG (t.map fun x=>(x.1,x.2.rn σ)) i=(aG t i).rn σ:=by
 induction t with
 | nil=>rfl
 | cons x r ih=>
  obtain ⟨k,v⟩:=x;simp only [List.map_cons,aG];split
  ·rfl
  ·exact ih
theorem B3 {cells:List T} {o:Nat} {sub:List Sh} {l:List (List D)}:(cells.map (T.rn σ))[o]? = some (.ow sub l) ↔ cells[o]? = some (.ow sub l):=by
 rw [YW];cases cells[o]? with
 | none=>simp
 | some t=>cases t <;> simp [T.rn]
variable (hσ:NmR σ)
include hσ
theorem Mh (m:Mm) (n:Nm):aa (rnM σ m) (σ n)=(aa m n).map (Root.rn σ):=by
 induction m with
 | nil=>rfl
 | cons x r ih=>
  obtain ⟨k,v⟩:=x;simp only [rnM,List.map_cons,aa];by_cases hk:k=n
  ·subst hk; rw [if_pos rfl,if_pos rfl]; rfl
  ·rw [if_neg hk,if_neg (fun e=>hk (hσ.inj e))]; exact ih
theorem UT {m:Mm} {p:Pl} (h:bu m p):bu (rnM σ m) (p.rn σ):=by
 unfold bu at h ⊢;simp only [Pl.rn,Mh hσ];cases hr:aa m p.root with
 | none=>simp [hr] at h
 | some r=>
  simp only [hr,Option.map_some] at h ⊢;split
  ·rename_i hp; simp only [hp] at h; simpa [Root.rn] using h
  ·rename_i st q hp;simp only [hp] at h;split at h
   ·rename_i sub l hc;rw [show (Root.rn σ r).cells[p.off]? = some (.ow sub l) from B3.2 hc];exact h
   ·exact h.elim
theorem UU {m:Mm} {p:Pl} (h:fy m p):fy (rnM σ m) (p.rn σ):=by
 unfold fy at h ⊢;simp only [Pl.rn,Mh hσ];cases hr:aa m p.root with
 | none=>simp [hr] at h
 | some r=>
  simp only [hr,Option.map_some] at h ⊢;split at h
  ·rename_i sub l hc hp;rw [show (Root.rn σ r).cells[p.off]? = some (.ow sub l) from B3.2 hc,hp];trivial
  ·rename_i l hc hp;rw [show (Root.rn σ r).cells[p.off]? = some (.mp l) from by show (r.cells.map (T.rn σ))[p.off]? = _; rw [YW,hc]; rfl,hp];trivial
  ·rename_i cur l hc hp;rw [show (Root.rn σ r).cells[p.off]? = some (.it cur l) from by show (r.cells.map (T.rn σ))[p.off]? = _; rw [YW,hc]; rfl,hp];trivial
  ·rename_i sub l st q hc hp;rw [show (Root.rn σ r).cells[p.off]? = some (.ow sub l) from B3.2 hc];simpa [hp] using h
  ·exact h.elim
variable {w:World} {H:FH} {γ:Gam} {m:Mm} {F:Nm->Fp}
abbrev rnG (σ:Nm->Nm) (γ:Gam):Gam:=fun n=>γ (σ n)
theorem W2 (p:Pl):plA w (rnG σ γ) (p.rn σ)=plA w γ p:=by
 unfold plA;simp only [Pl.rn,rnG,hσ.inv]
theorem W3 (p:Pl):plV w (rnG σ γ) (p.rn σ)=plV w γ p:=by
 unfold plV;simp only [Pl.rn,rnG,hσ.inv]
theorem Qi {t:T} {f:Fp} {y:Value} (h:TR w H γ m t f y):TR w H (rnG σ γ) (rnM σ m) (t.rn σ) f y:=by
 cases t with
 | pl p=>
  obtain ⟨h1,h2,a,h3,h4⟩:=h;exact ⟨h1,UT hσ h2,a,(W2 hσ p).trans h3,h4⟩
 | rf p=>
  obtain ⟨h1,h2,h3⟩:=h;exact ⟨h1,UU hσ h2,(W3 hσ p).trans h3⟩
 | _=>exact h
theorem VN {ts:List T} {f:Fp} {vs:List Value} (h:Ts (TR w H γ m) ts f vs):Ts (TR w H (rnG σ γ) (rnM σ m)) (ts.map (T.rn σ)) f vs:=by
 unfold Ts at h ⊢;rw [YX];have key:∀ (ss:List Unit) (xs:List T) (f:Fp) (vs:List Value),Cs (fun _ t=>TR w H γ m t) ss xs f vs->Cs (fun _ t=>TR w H (rnG σ γ) (rnM σ m) t) ss (xs.map (T.rn σ)) f vs:=by
  intro ss xs;induction xs generalizing ss with
  | nil=>intro f vs h; cases ss <;> exact h
  | cons x xs ih=>
   intro f vs h;cases ss with
   | nil=>exact h.elim
   | cons u ss=>
    obtain ⟨v,r,f1,f2,hv,hf,k1,k2⟩:=h;exact ⟨v,r,f1,f2,hv,hf,Qi hσ k1,ih ss f2 r k2⟩
 exact key _ _ _ _ h
theorem Qf {n:Nm} {r:Root} {f:Fp} (h:aW w H γ m n r f):aW w H (rnG σ γ) (rnM σ m) (σ n) (r.rn σ) f:=by
 unfold aW at h ⊢;by_cases hb:r.blk=true
 ·rw [if_pos hb] at h;rw [if_pos (show (r.rn σ).blk=true from hb)];obtain ⟨b,cs,ty,fz,g,h1,h2,h3,h4,h5,h6⟩:=h;exact ⟨b,cs,ty,fz,g,by rw [rnG,hσ.inv]; exact h1,h2,⟨h3.1,fun t ht=>h3.2 t (by rw [<- hσ.tyd n]; exact ht)⟩,by simpa [Root.rn] using h4,VN hσ h5,h6⟩
 ·rw [if_neg hb] at h;rw [if_neg (show ¬ (r.rn σ).blk=true from hb)];obtain ⟨v,t,h1,h2,h3⟩:=h;exact ⟨v,t.rn σ,by rw [rnG,hσ.inv]; exact h1,by simp [Root.rn,h2],Qi hσ h3⟩
theorem Dd (m:Mm):tot (fun n=>F (σ n)) (rnM σ m)=tot F m:=by
 funext b
 induction m with
 | nil=>rfl
 | cons x r ih=>
  simp only [rnM,List.map_cons,tot,hσ.inv] at ih ⊢;rw [ih]
theorem We (h:Mem w H γ m F):Mem w H (rnG σ γ) (rnM σ m) (fun n=>F (σ n)):=by
 refine ⟨h.agree,fun x hx=>?_,?_,fun b=>by rw [Dd hσ]; exact h.le1 b,fun b hb=>h.lt b (by rwa [Dd hσ] at hb),fun b hb=>h.nofz b (by rwa [Dd hσ] at hb)⟩
 ·simp only [rnM,Zo] at hx;obtain ⟨y,hy,rfl⟩:=hx;dsimp only;rw [hσ.inv];exact Qf hσ (h.roots y hy)
 ·have:(rnM σ m).map (·.1)=(m.map (·.1)).map σ:=by simp only [rnM,Y9]; rfl
  rw [this,List.nodup_iff_pairwise_ne,List.pairwise_map];exact (List.nodup_iff_pairwise_ne.1 h.keys).imp (fun hne e=>hne (hσ.inj e))
theorem Pm {x:AV1} {y:Value} (h:AR1 w H γ m x y):AR1 w H (rnG σ γ) (rnM σ m) (x.rn σ) y:=by
 cases x with
 | c t=>exact Qi hσ h
 | agg ts=>
  obtain ⟨cs,h1,h2,h3⟩:=h;exact ⟨cs,h1,by simpa using h2,VN hσ h3⟩
theorem Pt:∀ {xs:List AV1} {ys:List Value},ARs w H γ m xs ys->ARs w H (rnG σ γ) (rnM σ m) (xs.map (AV1.rn σ)) ys
 | [],[],_=>trivial
 | _::_,_::_,h=>⟨Pm hσ h.1,Pt h.2⟩
 | [],_::_,h=>h.elim
 | _::_,[],h=>h.elim
theorem VD {x:AV} {y:Value} (h:AR w H γ m x y):AR w H (rnG σ γ) (rnM σ m) (x.rn σ) y:=by
 cases x with
 | one x=>exact Pm hσ h
 | tup xs=>obtain ⟨l,h1,h2⟩:=h; exact ⟨l,h1,Pt hσ h2⟩
 | any=>trivial
theorem LK {g:G} {s:St} {a a':Act} {ds:List Deferred} {out:Nat->Option Nat} (h:RX g s.toS a w H γ F) (h1:a'.tmps=a.tmps) (h2:a'.defers=ds) (ho:∀ j b,out j=some b->γ (σ (.out j))=.blk b) :
  RX ⟨g.nt,g.w0,g.H0,g.own0,out,g.ex,ds⟩ (s.rn σ).toS a' w H (rnG σ γ) (fun n=>F (σ n)):=by
 rw [St.rn_toS];refine ⟨We hσ h.mem,?_,by rw [h1]; exact h.nt,⟨h2,fun j b hb=>ho j b hb,h.df.2.2⟩,fun i=>?_⟩
 ·show Fr g.w0 g.H0 g.own0 w H (tot (fun n=>F (σ n)) (rnM σ s.toS.m))
  rw [Dd hσ]; exact h.fr
 ·show AR w H (rnG σ γ) (rnM σ s.toS.m) (aG (s.toS.t.map fun x=>(x.1,x.2.rn σ)) i) _
  rw [Us];have e:G.tv ⟨g.nt,g.w0,g.H0,g.own0,out,g.ex,ds⟩ a' i=g.tv a i:=by
   unfold G.tv;rw [h1]
  rw [e];exact VD hσ (h.t i)
end
def u9 (i:Nat):Nat:=i % 1000000 / 1000
def Da (k i:Nat):Nat:=match Nat.beq (u9 i) 0 with
 | true=>i+k*1000
 | false=>match Nat.beq (u9 i) k with
  | true=>i-k*1000
  | false=>i
def Db (k:Nat):Nm->Nm
 | .loc i=>.loc (Da k i)
 | .gh i=>.gh (Da k i)
 | .out i=>.out i
theorem sq {k:Nat} (hk:1<=k/\k < 1000) (i:Nat):Da k (Da k i)=i/\Da k i / 1000000=i / 1000000:=by
 unfold Da;cases h0:Nat.beq (u9 i) 0 with
 | true=>
  have h:=Y1 h0
  unfold u9 at h;dsimp only;have h1:u9 (i+k*1000)=k:=by unfold u9; omega
  rw [h1];have h2:Nat.beq k 0=false:=by
   cases hb:Nat.beq k 0 with
   | false=>rfl
   | true=>have:=Y1 hb; omega
  rw [h2,aa1];dsimp only;omega
 | false=>
  dsimp only;cases hk2:Nat.beq (u9 i) k with
  | true=>
   have h:=Y1 hk2
   unfold u9 at h;dsimp only;have h1:u9 (i-k*1000)=0:=by unfold u9; omega
   rw [h1,aa1];dsimp only;omega
  | false=>
   dsimp only;rw [h0,hk2];exact ⟨rfl,rfl⟩
theorem Vn {k:Nat} (hk:1<=k/\k < 1000) (i:Nat):Da k i < 1000000 ↔ i < 1000000:=by
 have:=(sq hk i).2
 omega
theorem MH {k:Nat} (hk:1<=k/\k < 1000):NmR (Db k):=by
 refine ⟨fun n=>?_,fun n=>?_⟩
 ·cases n with
  | loc i=>exact congrArg Nm.loc (sq hk i).1
  | gh i=>exact congrArg Nm.gh (sq hk i).1
  | out i=>rfl
 ·cases n with
  | loc i=>
   show (if Da k i < 1000000 then none else some (Da k i / 1000000))=(if i < 1000000 then none else some (i / 1000000))
   have h1:=Vn hk i
   rw [(sq hk i).2];by_cases h:i < 1000000
   ·rw [if_pos (h1.2 h),if_pos h]
   ·rw [if_neg (fun e=>h (h1.1 e)),if_neg h]
  | gh i=>rfl
  | out i=>rfl
def XU (k:Nat) (n:Nm):Bool:=match n with
 | .loc i=>Nat.beq (u9 i) k
 | .gh i=>Nat.beq (u9 i) k
 | .out _=>false
def VV:Nat->Nat->List (Nm×Nat×Rt)->Nat
 | 0,k,_=>k
 | n+1,k,m=>match m.any (fun x=>XU k x.1) with
  | true=>VV n (k+1) m
  | false=>k
def apK (s:St):Option Nat:=match VV 900 1 s.m with
 | k=>match Nat.ble 1 k&&Nat.blt k 1000 with
  | true=>some k
  | false=>none
def apT (C:CKt):CKt:=fun pk s ops k=>match apK s with
 | some j=>C (fun v s'=>pk v (s'.rn (Db j))) (s.rn (Db j)) ops (fun s' v=>k (s'.rn (Db j)) (v.rn (Db j)))
 | none=>False
def apB (C:CKb):CKb:=fun s ops k=>match apK s with
 | some j=>C (s.rn (Db j)) ops (fun s' v=>k (s'.rn (Db j)) (v.rn (Db j)))
 | none=>false
theorem Pl.rn_rn {σ:Nm->Nm} (hσ:NmR σ) (p:Pl):(p.rn σ).rn σ=p:=by simp [Pl.rn,hσ.inv]
theorem Tt.rn_rn {σ:Nm->Nm} (hσ:NmR σ) (t:Tt):(t.rn σ).rn σ=t:=by cases t <;> simp [Tt.rn,Pl.rn_rn hσ]
theorem A1.rn_rn {σ:Nm->Nm} (hσ:NmR σ) (x:A1):(x.rn σ).rn σ=x:=by
 cases x with
 | c t=>simp [A1.rn,Tt.rn_rn hσ]
 | agg ts=>simp [A1.rn,Function.comp_def,Tt.rn_rn hσ]
theorem At.rn_rn {σ:Nm->Nm} (hσ:NmR σ) (x:At):(x.rn σ).rn σ=x:=by
 cases x with
 | one t=>simp [At.rn,A1.rn_rn hσ]
 | tup ts=>simp [At.rn,Function.comp_def,A1.rn_rn hσ]
 | any=>rfl
theorem Rt.rn_rn {σ:Nm->Nm} (hσ:NmR σ) (r:Rt):(r.rn σ).rn σ=r:=by
 cases r; simp [Rt.rn,Function.comp_def,Tt.rn_rn hσ]
theorem FY {σ:Nm->Nm} (t:List (Nat×Nat×At)) (k:Nat):bD (t.map fun x=>(x.1,x.2.1,x.2.2.rn σ)) k=(bD t k).map fun x=>(x.1,x.2.rn σ):=by
 induction t with
 | nil=>rfl
 | cons x r ih=>
  obtain ⟨i,j,v⟩:=x;simp only [List.map_cons,bD];split
  ·rfl
  ·exact ih
theorem FW {σ:Nm->Nm} (hσ:NmR σ) (m:List (Nm×Nat×Rt)) (n:Nm):bW (m.map fun x=>(σ x.1,x.2.1,x.2.2.rn σ)) (σ n)=(bW m n).map fun x=>(x.1,x.2.rn σ):=by
 induction m with
 | nil=>rfl
 | cons x r ih=>
  obtain ⟨i,j,v⟩:=x;simp only [List.map_cons,bW];by_cases h:i=n
  ·subst h; simp
  ·rw [if_neg (fun e=>h (hσ.inj e)),if_neg h]; exact ih
theorem Ext.rn {σ:Nm->Nm} (hσ:NmR σ) {s s':St} (h:Ext (s.rn σ) s'):Ext s (s'.rn σ):=by
 refine ⟨h.nx,fun k j v hk hj=>?_,fun n j r hn hj=>?_⟩
 ·rw [show (s'.rn σ).t=s'.t.map fun x=>(x.1,x.2.1,x.2.2.rn σ) from rfl,FY] at hk;cases h1:bD s'.t k with
  | none=>rw [h1] at hk; cases hk
  | some x=>
   rw [h1] at hk;obtain ⟨j',v'⟩:=x;simp only [Option.map_some,YT,Prod.mk.injEq] at hk;obtain ⟨rfl,rfl⟩:=hk;have h2:=h.t k j' v' h1 hj
   rw [show (s.rn σ).t=s.t.map fun x=>(x.1,x.2.1,x.2.2.rn σ) from rfl,FY] at h2;cases h3:bD s.t k with
   | none=>rw [h3] at h2; cases h2
   | some y=>
    rw [h3] at h2;obtain ⟨j2,v2⟩:=y;simp only [Option.map_some,YT,Prod.mk.injEq] at h2;rw [<- h2.1,<- h2.2,At.rn_rn hσ]
 ·rw [<- hσ.inv n,show (s'.rn σ).m=s'.m.map fun x=>(σ x.1,x.2.1,x.2.2.rn σ) from rfl,FW hσ] at hn;cases h1:bW s'.m (σ n) with
  | none=>rw [h1] at hn; cases hn
  | some x=>
   rw [h1] at hn;obtain ⟨j',v'⟩:=x;simp only [Option.map_some,YT,Prod.mk.injEq] at hn;obtain ⟨rfl,rfl⟩:=hn;have h2:=h.m (σ n) j' v' h1 hj
   rw [show (s.rn σ).m=s.m.map fun x=>(σ x.1,x.2.1,x.2.2.rn σ) from rfl,FW hσ] at h2;cases h3:bW s.m n with
   | none=>rw [h3] at h2; cases h2
   | some y=>
    rw [h3] at h2;obtain ⟨j2,v2⟩:=y;simp only [Option.map_some,YT,Prod.mk.injEq] at h2;rw [<- h2.1,<- h2.2,Rt.rn_rn hσ]
theorem Qw {s:St} {j:Nat} (h:apK s=some j):1<=j/\j < 1000:=by
 unfold apK at h;dsimp only at h;split at h
 ·rename_i hb;obtain rfl:=Option.some.inj h;simp only [YV] at hb;exact ⟨YZ hb.1,by simpa using hb.2⟩
 ·cases h
theorem aC {P:Program} {f:Nat} {C:CKt} (h:Cont P f C):Cont P f (apT C):=by
 refine ⟨h.run,fun pk s ops k k' hk hc=>?_,fun g pk s a w H γ F ops k hX hops hc=>?_⟩
 ·unfold apT at hc ⊢;split at hc
  ·rename_i j hj;have hσ:=MH (Qw hj)
   exact h.ext _ _ _ _ _ (fun s' v he=>hk _ _ (he.rn hσ)) hc
  ·exact hc.elim
 ·unfold apT at hc;split at hc
  ·rename_i j hj;have hσ:=MH (Qw hj)
   have hX2:=LK hσ (out:=g.out) (ds:=g.dfs) hX rfl hX.df.1 (fun i b hb=>hX.df.2.1 i b hb)
   refine (h.call _ _ _ a w H _ _ ops _ hX2 hops hc).mono ?_;rintro e w' (⟨r,s',av,H',γ',F',rfl,k1,k2,k3⟩ | ⟨v,s',rfl,k1,H',γ',F',k2⟩)
   ·refine .inl ⟨r,_,_,H',_,_,rfl,k1,?_,LK hσ (out:=g.out) (ds:=g.dfs) k3 rfl k3.df.1 (fun i b hb=>k3.df.2.1 i b hb)⟩;rw [At.rn_toV];show AR w' H' _ (s'.rn (Db j)).toS.m _ _
    rw [St.rn_toS];exact VD hσ k2
   ·exact .inr ⟨v,_,rfl,k1,H',_,_,LK hσ (out:=g.out) (ds:=g.dfs) k2 rfl k2.df.1 (fun i b hb=>k2.df.2.1 i b hb)⟩
  ·exact hc.elim
end Go.Am
end

section
namespace Go.Am
open Go Go.Proofs
def lky:U->Bool
 | .i _=>true
 | .bo=>true
 | .s=>true
 | _=>false
theorem RM {u:U} (h:lky u=true):leaf u=true:=by cases u <;> first | rfl | cases h
theorem UM {u:U} (h:lky u=true) (x:El u):(ah u x).toD.isKey=true:=by cases u <;> first | rfl | cases h
def RR (n:Nm):CKt:=fun _ s ops k=>match ops with
 | [x]=>
  let s0:=dV s (evA s x)
  let s1:=s0.fresh n
  match evA s1 x with
  | .one (.c (.d (.mp ku vu z)))=>match lky ku&&leaf vu with
   | true=>z.isSome=true/\k (s1.root n ⟨false,[.mp ku vu (z.getD [])],none⟩) (.one (.c (.rf ⟨n,0,[]⟩)))
   | false=>False
  | _=>False
 | _=>False
section
variable {P:Program}
theorem PF {f:Nat} {fn:Func} {n:Nm} (hno:n.isOut=false) (hf:P.funcs[f]? = some fn) (hname:(fn.name == "runtime.NumGoroutine")=false) (hb:fn.body.isSome=true)
  (hbody:∀ (b:Nat) (es:Array MapEntry) (ck:Nat) (w:World),w.heap[b]? = some (.map es ck)->Calls P f #[.map (some b)] w fun e w'=>e=.returned (.map (some w.heap.size))/\w'=w.alloc (.map es ck)):Cont P f (RR n):=by
 refine ⟨fun args w=>gE hf hname hb args w,fun pk s ops k k' hk hc=>?_,fun g pk s a w H γ F1 ops k hX hops hc=>?_⟩
 ·unfold RR at hc ⊢;split at hc
  ·dsimp only at hc ⊢;split at hc
   ·split at hc
    ·exact ⟨hc.1,hk _ _ ((fg _ _).trans ((bt _ _).trans (ce _ _ _))) hc.2⟩
    ·exact hc.elim
   ·exact hc.elim
  ·exact hc.elim
 ·unfold RR at hc;split at hc
  ·rename_i o;dsimp only at hc;have ho:au o=true:=by simpa using hops
   obtain ⟨H1,F2,h1⟩:=fh hX (evA s o);generalize dV s (evA s o)=s0 at hc h1;have h2:=bS h1 n
   have hn:=bB h1 n
   have e1:(s0.fresh n).toS=s0.toS.fresh n:=bk (dT h1)
   rw [<- e1] at h2 hn;generalize s0.fresh n=s1 at hc h2 hn;have hv:=az h2 ho
   rw [ac ho] at hv;split at hc
   ·rename_i ku vu z he;rw [he] at hv;split at hc
    ·rename_i hlf;rw [YV] at hlf;obtain ⟨hz,hc⟩:=hc;obtain ⟨l,rfl⟩:∃ l,z=some l:=by cases z with | none=>cases hz | some l=>exact ⟨l,rfl⟩
     have hd:FDx H1 (.mp (some (l.map fun x=>((ak ku x.1).headD .any,(ak vu x.2).headD .any)))) (a.eval o):=hv.2
     have el:(l.map fun x=>((ak ku x.1).headD .any,(ak vu x.2).headD .any))=l.map fun x=>((ah ku x.1).toD,(ah vu x.2).toD):=Zc fun x _=>by rw [gV (RM hlf.1),gV hlf.2]
     rw [el] at hd;obtain ⟨b,es,ck,c1,c2,c3,c4⟩:=PN h2.mem.agree (fun e he=>by
      obtain ⟨x,_,rfl⟩:=Zo.1 he;exact UM hlf.1 x.1) hd
     rw [Y9] at c4;have c4:MpO w H1 (l.map (tE ku vu)) es.toList (fun _=>0):=c4
     rw [show (([o].map a.eval).toArray:Array Value)=#[.map (some b)] by rw [List.map_cons,List.map_nil,c1]];refine Calls.mono (hbody b es ck w c2) ?_;rintro e w' ⟨rfl,rfl⟩
     have hold:∀ k,k<w.heap.size->(w.alloc (.map es ck)).heap[k]? = w.heap[k]? := fun k hk=>bO hk
     have h3:=nw h2 (w':=w.alloc (.map es ck)) (by simp) rfl rfl rfl (fun b hb=>.inl (hold b hb))
     have htz:tot F2 s1.toS.m w.heap.size=0:=by
      rcases Zj (tot F2 s1.toS.m w.heap.size) with h' | h'
      ·exact h'
      ·have:=h2.mem.lt w.heap.size (by omega); omega
     obtain ⟨γ',F',h4,hγ⟩:=cO h3 hno hn (v:=.map (some w.heap.size)) (t:=.mp (l.map (tE ku vu))) (f:=fun b=>if b=w.heap.size then 1 else 0) ⟨w.heap.size,es,ck,fun _=>0,rfl,bj,c3,i9 (fun _ _ _ h=>h) (fun b hb=>absurd rfl hb) c4,fun _=>(ZI _).symm⟩ (fun b=>by
       by_cases e:b=w.heap.size
       ·subst e; rw [htz]; simp
       ·rw [if_neg e]; have:=h2.mem.le1 b; omega) (fun b hb=>by
       have e:b=w.heap.size:=by
        by_cases e:b=w.heap.size
        ·exact e
        ·rw [if_neg e] at hb; exact absurd rfl hb
       subst e;refine ⟨by simp,fun o=>?_⟩;cases hc:H1 w.heap.size o with
       | none=>rfl
       | some y=>have:=(h2.mem.agree _ _ _ hc).lt; simp at this) (fun b hb=>by
       right
       have e:b=w.heap.size:=by
        by_cases e:b=w.heap.size
        ·exact e
        ·rw [if_neg e] at hb; exact absurd rfl hb
       have:=h2.fr.size
       omega)
     have e2:(s1.root n ⟨false,[.mp ku vu l],none⟩).toS=⟨s1.toS.t,(n,⟨false,[.mp (l.map (tE ku vu))]⟩)::s1.toS.m⟩:=rfl
     rw [<- e2] at h4;refine .inl ⟨_,_,_,H1,γ',F',rfl,hc,?_,h4⟩;exact sC (l:=l.map (tE ku vu)) (by show aa ((n,(⟨false,[.mp (l.map (tE ku vu))]⟩:Root))::s1.toS.m) n=_; simp [aa]) hγ
    ·exact hc.elim
   ·exact hc.elim
  ·exact hc.elim
end
end Go.Am
end

section
namespace Go.Am
open Go Go.RowKit Go.Maps Go.Sort Go.Shelf Go.Proofs
section
variable {P:Program}
theorem Bv {f:Nat} {φ:List AV->(AV->Prop)->Prop} {ps rs:List U} {pre:Fl ps->Prop} {post:Fl ps->Fl rs->Prop} (hφ:∀ x K,pre x->(∀ y,post x y->K (bw rs y).toV)->φ (dN ps x) K) (h:Con P f (n4 φ)):Cont P f (kH ps rs pre post):=by
 refine ⟨h.run,fun pk s ops k k' hk hcc=>?_,fun g pk s a w H γ F1 ops k hX hops hcc=>?_⟩
 ·unfold kH at hcc ⊢;dsimp only at hcc ⊢;split at hcc
  ·exact ⟨hcc.1,fun y hy=>hk _ _ (bz _ _) (hcc.2 y hy)⟩
  ·exact hcc.elim
 ·unfold kH at hcc;dsimp only at hcc;obtain ⟨H1,F2,h1⟩:=cg (ops.map (evA s)) s H F1 hX;generalize bm s (ops.map (evA s))=s1 at hcc h1;split at hcc
  ·rename_i x hx;obtain ⟨c1,c2,c3⟩:=cR hx;refine Calls.mono (h.call g s1.toS a w H1 γ F2 ops (fun s' av=>∃ t v',SEq s' t.toS/\av=v'.toV/\k t v') h1 hops ?_) ?_
   ·unfold n4;dsimp only;rw [cK hops,dc c1];have e:(ops.map fun x=>(ev s1.toS x).map T.canon)=(ops.map (ev s1.toS)).map (AV.map T.canon):=by rw [Y9]; rfl
    rw [e,cK hops];refine ⟨c2,?_⟩;rw [c3];exact hφ x _ hcc.1 fun y hy=>⟨s1,_,⟨fun _=>rfl,rfl⟩,rfl,hcc.2 y hy⟩
   ·rintro e w' ⟨r,s',av,H',γ',F',k1,⟨t,v',e1,rfl,k2⟩,k3,k4⟩
    refine .inl ⟨r,t,v',H',γ',F',k1,k2,?_,aR e1 k4⟩;rw [e1.2] at k3;exact k3
  ·exact hcc.elim
end
theorem xi:Cont prog 106 (RR (.gh 800000)):=PF rfl func106 (by kernel_rfl) (by kernel_rfl) (fun b es ck w hb=>AnyW.maps_Clone Tryz.clone106 b es ck w hb)
set_option maxHeartbeats 1000000 in
theorem Ke {H:Type} (b nn:Nat) (D0:DataW H) (R:Value->Option (DataW H×List MemPlace)) (w:World) (hown:w.ownsMap prog 9 R b nn D0) (hmax:Maps.size D0<=maxLen) (hbytes:Maps.size D0*16<=140737488355328) :
  Calls prog 175 #[.map (some b)] w fun e w'=>∃ (v:Value) (ss:List (List UInt8)),e=.returned v/\ss.Perm (strKeys D0) /\
   w'.ownsRow w.heap.size 9 1 v ss.length ((ss.mergeSort (fun x y=>decide (x<=y))).map encStr)/\(v=.slice none 0 0 ↔ ss=[])/\Below w.heap.size w w':=by
 refine (callsIn_wide (n:=6)).1 ?_;have hfK:Fence.wide.fn 210:=trivial
 have hfS:Fence.wide.fn 209:=trivial
 refine callsIn_of_wp func175 rfl trivial ?_ rfl;simp only [Tryz.ntmps175,List.size_toArray,Y5,Zg,Nat.reduceAdd,Nat.reduceSub,Array.replicate_succ,Array.replicate_zero,List.push_toArray,List.append_toArray,aaF,ZA]
 gi_wp2_with (first
  | (gi_at_call 210; refine (Tryz.maps_Keys_210 _ _).mono ?_; rintro e w' ⟨rfl,rfl⟩)
  | (gi_at_call 209; refine (Tryz.slices_Sorted_keys_209_210 b nn D0 R w hown hmax hbytes).mono ?_; rintro e w' ⟨v,ss,rfl,hS,hrow,hnil,hb⟩))
 go_ret
 exact ⟨v,ss,rfl,hS,ownsRow_base_a hrow (by simp),hnil,((Below.refl _ w).alloc (YY _) _).trans (hb.mono (by simp))⟩
section
variable {P:Program}
theorem DQ {f:Nat} {ps rs:List U} {pre:Fl ps->Prop} {post:Fl ps->Fl rs->Prop} (hrun:∀ args w,(callFunc f args).run P w=.ok (.enter f args) w)
  (hbody:∀ (x:Fl ps) (args:List Value) (w:World) (H:FH) (γ:Gam),pre x->args.length=(dN ps x).length->(∀ (i:Nat) v,(dN ps x)[i]? = some v->∃ y,args[i]? = some y/\AR w H γ [] v y)->Globs H ->
   (∀ b o y,H b o=some y->RdV w b o y) ->
   Calls P f args.toArray w (fun e w'=>∃ r H2 y,e=.returned r/\post x y/\Below w.heap.size w w'/\(∀ b o y,H b o=some y->H2 b o=some y)/\(∀ b o,H2 b o≠none->H b o=none->w.heap.size<=b)/\(∀ b o x l c,H2 b o=some (.c (.slice x l c))->H b o=none->Thawed w' b) /\
    (∀ b o y,H2 b o=some y->RdV w' b o y)/\AR w' H2 γ [] (bw rs y).toV r)):Cont P f (kH ps rs pre post):=
 Bv (φ:=fun avs K=>∃ x:Fl ps,avs=dN ps x/\pre x/\∀ y,post x y->K (bw rs y).toV) (fun x K hp hk=>⟨x,rfl,hp,hk⟩)
  (Aa hrun (fun avs K args w H γ ⟨x,hx,hp,hk⟩ hl ha hg hag=>by
   subst hx;refine (hbody x args w H γ hp hl ha hg hag).mono ?_;rintro e w' ⟨r,H2,y,h1,hy,h2,h3,h4,hz,h5,h6⟩
   exact ⟨r,_,H2,h1,hk y hy,h2,h3,h4,hz,h5,C1 rs y,h6⟩))
end
def Qv:Value->Option (DataW Unit×List MemPlace):=fun _=>some (.lit (.bool true),[])
theorem U0 {b ck:Nat} {es:Array MapEntry} {w:World} (hb:w.heap[b]? = some (.map es ck)) (hst:MapKept.Stamped es ck) (hsz:es.size<=1000000) (hk:∀ e∈es.toList,∃ l:List UInt8,e.key=.string ⟨l.toArray⟩/\l.length<=BIG) :
  ∃ D0:DataW Unit,w.ownsMap prog 9 Qv b es.size D0/\(∀ v,v∈strKeys D0 ↔ ∃ e∈es.toList,e.key=.string ⟨v.toArray⟩)/\Maps.size D0=es.size:=by
 have rdk:∀ e∈es.toList,∀ l:List UInt8,e.key=.string ⟨l.toArray⟩->l.length<=BIG->WideElems.rd prog 9 Qv e=some (.string l,.lit (.bool true)):=fun e he l h1 h2=>by
  unfold WideElems.rd;rw [h1,WideMaps.keyOf_string_mk underlying9 (by show l.toArray.size<=_; unfold BIG at h2; unfold maxLen; simp; omega)];simp [Qv]
 have hp:=WideShapes.sorted_perm (es.toList.map (WideElems.rg prog 9 Qv))
 refine ⟨_,⟨es,ck,hb,⟨by unfold maxLen; omega,hst,fun e he=>?_⟩,YY _,rfl⟩,fun v=>?_,?_⟩
 ·obtain ⟨l,h1,h2⟩:=hk e he;exact ⟨_,rdk e he l h1 h2⟩
 ·show v∈List.map _ _ ↔ _
  rw [(hp.map _).mem_iff];simp only [Zo];constructor
  ·rintro ⟨_,⟨e,he,rfl⟩,rfl⟩
   obtain ⟨l,h1,h2⟩:=hk e he;refine ⟨e,he,?_⟩;unfold WideElems.rg;rw [rdk e he l h1 h2,h1]; rfl
  ·rintro ⟨e,he,h1⟩
   obtain ⟨l,h3,h2⟩:=hk e he;refine ⟨_,⟨e,he,rfl⟩,?_⟩;unfold WideElems.rg;rw [rdk e he l h3 h2];rw [h3] at h1;have:l=v:=by simpa using h1
   rw [<- this]; rfl
 ·have e:∀ l:List (Lit×DataW Unit),Maps.size (DataW.map l)=l.length:=fun _=>rfl
  rw [e,hp.length_eq,YX,Array.length_toList]
def Iq:CKt:=kH [.mp .s .bo] [.sl .s] (fun x=>ig x) (fun x y=>fp x y)
theorem Jj:Cont prog 175 Iq:=DQ (gE (fn:=f175) (by kernel_rfl) (by kernel_rfl) (by kernel_rfl)) (fun x args w H γ hpre hl ha hg hag=>by
 obtain ⟨hs,hn⟩:=hpre;obtain ⟨L,rfl⟩:∃ L:List (List UInt8×Bool),x=some L:=by cases x with | none=>cases hs | some L=>exact ⟨L,rfl⟩
 have hn:L.length<=1000000:=hn
 obtain ⟨u,rfl⟩:∃ u,args=[u]:=List.length_eq_one_iff.1 hl
 obtain ⟨u',h0,h1⟩:=ha 0 _ rfl;obtain rfl:u=u':=by simpa using h0
 have hfd:FDx H (.mp (some (L.map fun x=>(.str x.1,.bool x.2)))) u:=h1.2
 obtain ⟨m,hfd⟩:=hfd;cases m with
 | zero=>exact hfd.elim
 | succ m=>
  obtain ⟨b,es,ck,rfl,k1,k2,k3⟩:=hfd;obtain ⟨k4,k5⟩:=hag b 0 _ k1;rw [YX] at k2;have hkey:∀ (i:Nat) (e:MapEntry),es.toList[i]? = some e->∃ z,L[i]? = some z/\e.key=.string ⟨z.1.toArray⟩/\z.1.length<=BIG:=fun i e he=>by
   have hi:i<L.length:=by rw [<- k2]; exact (Zr.1 he).1
   have hz:=YU hi
   have:=(k3 i (.str L[i].1,.bool L[i].2) e (by rw [YW,hz]; rfl) he).1
   have this:e.key=.string ⟨L[i].1.toArray⟩/\L[i].1.length<=BIG:=by cases m <;> exact this
   exact ⟨_,hz,this⟩
  obtain ⟨D0,hown,hmem,hsize⟩:=U0 k4 k5 (by rw [<- Array.length_toList,k2]; exact hn) (fun e he=>by
   obtain ⟨i,hi⟩:=aaJ.1 he;obtain ⟨z,_,h⟩:=hkey i e hi;exact ⟨z.1,h⟩)
  have hsz:es.size<=1000000:=by rw [<- Array.length_toList,k2]; exact hn
  have hkeys:∀ v,v∈strKeys D0 ↔ v∈L.map (·.1):=fun v=>by
   rw [hmem];constructor
   ·rintro ⟨e,he,h⟩
    obtain ⟨i,hi⟩:=aaJ.1 he;obtain ⟨z,hz,h2,_⟩:=hkey i e hi;rw [h2] at h;have:z.1=v:=by simpa using h
    exact Zo.2 ⟨z,aaJ.2 ⟨i,hz⟩,this⟩
   ·intro h;obtain ⟨z,hz,rfl⟩:=Zo.1 h;obtain ⟨i,hi⟩:=aaJ.1 hz;have hi2:i<es.toList.length:=by rw [k2]; exact (Zr.1 hi).1
    obtain ⟨z',hz',h2,_⟩:=hkey i _ (YU hi2);rw [hi] at hz';obtain rfl:=Option.some.inj hz';exact ⟨_,Zw hi2,h2⟩
  have hbig:∀ v∈L.map (·.1),v.length<=BIG:=fun v hv=>by
   obtain ⟨e,he,h⟩:=(hmem v).1 ((hkeys v).2 hv);obtain ⟨i,hi⟩:=aaJ.1 he;obtain ⟨z,_,h2,h3⟩:=hkey i e hi;rw [h2] at h;have:z.1=v:=by simpa using h
   rw [<- this]; exact h3
  refine (Ke b es.size D0 Qv w hown (by rw [hsize]; unfold maxLen; omega) (by rw [hsize]; omega)).mono ?_;rintro e w' ⟨v,ss,rfl,hS,hrow,hnil,hb⟩
  have hlen:=hS.length_eq
  have hmS:=List.mergeSort_perm ss fun x y=>decide (x<=y)
  have hml:=hmS.length_eq
  generalize ss.mergeSort (fun x y=>decide (x<=y))=Q at hrow hmS hml;have hQ:∀ v,v∈Q ↔ v∈L.map (·.1):=fun v=>(hmS.mem_iff.trans hS.mem_iff).trans (hkeys v)
  have hQl:Q.length<=1000000:=by
   rw [hml,hlen];have:(strKeys D0).length=Maps.size D0:=by
    unfold strKeys Maps.size;split <;> simp
   rw [this,hsize]; exact hsz
  obtain ⟨_,hrow⟩:=hrow;rcases hrow with ⟨rfl,hz⟩ | ⟨gb,cap,cur,rfl,r0,r1,r2,r3,r4,r5⟩
  ·obtain rfl:Q=[]:=Zy (by omega);refine ⟨_,H,[],rfl,hQ,hb,fun _ _ _ h=>h,fun b o h1 h2=>absurd h2 h1,fun b o x l c h1 h2=>by (rw [h2] at h1; cases h1),fun b o y h=>(hag b o y h).frame (hb.block b (hag b o y h).lt),fun _=>rfl,1,?_⟩;show FD _ 1 (.li []) _
   rw [lr];exact ⟨none,0,rfl,YY _,by simp,.inl rfl⟩
  ·have hHg:∀ o,H gb o=none:=fun o=>by
    cases hc:H gb o with
    | none=>rfl
    | some y=>have:=(hag _ _ _ hc).lt; omega
   rw [Nat.mul_one] at r4 r5;have hcell:∀ o (ho:o<Q.length),cur[o]? = some (encStr Q[o]):=fun o ho=>by
    have h9:(cur.toList.take ss.length)[o]? = some (encStr Q[o]):=by rw [r5,YW,YU ho]; rfl
    rw [Ze (by omega)] at h9;rw [<- Array.getElem?_toList]; exact h9
   refine ⟨_,fun b o=>if b=gb then (Q.map encStr)[o]?.map HV.c else H b o,Q,rfl,hQ,hb,fun b o y h=>?_,fun b o h1 h2=>?_,fun b o x l c h1 h2=>?_,fun b o y h=>?_,fun _=>rfl,1,?_⟩
   ·have:=(hag b o y h).lt
    dsimp only;rw [if_neg (by omega)]; exact h
   ·dsimp only at h1;split at h1
    ·omega
    ·exact absurd h2 h1
   ·dsimp only at h1;split at h1
    ·obtain ⟨z,hz,e⟩:=Y7.1 h1;obtain rfl:=HV.c.inj e;have h1:=Zi hz
     obtain ⟨q,_,e⟩:=Zo.1 h1;unfold encStr at e; cases e
    ·rw [h2] at h1; cases h1
   ·dsimp only at h;split at h
    ·rename_i hbb;subst hbb;obtain ⟨z,hz,rfl⟩:=Y7.1 h;rw [YW] at hz;obtain ⟨q,hq,rfl⟩:=Y7.1 hz;have ho:=(Zr.1 hq).1
     have hc:=hcell o ho
     rw [(Zr.1 hq).2] at hc;show World.cell? _ _=some _
     unfold World.cell?;rw [r1]; exact hc
    ·exact (hag b o y h).frame (hb.block b (hag b o y h).lt)
   ·show FD _ 1 (.li (Q.map (ak .s))) _
    rw [lr];unfold BIG;refine ⟨_,_,by rw [YX,hml],by rw [YX]; omega,by rw [YX]; omega,.inr ⟨gb,0,1,rfl,fun i hi=>?_⟩⟩;have hi:i<Q.length:=by simpa using hi
    have e:(Q.map (ak .s)).getD i []=[.str Q[i]]:=by
     rw [List.getD,YW,YU hi]; rfl
    rw [e];refine ⟨rfl,fun j hj=>?_⟩;have hj:j=0:=by omega
    subst hj;refine ⟨encStr Q[i],?_,?_⟩
    ·dsimp only;rw [if_pos rfl];simp [hi]
    ·exact ⟨rfl,hbig _ ((hQ _).1 (Zw hi))⟩)
end Go.Am
end

section
namespace Go.Am
theorem ba {p:Prop} [d:Decidable p] {b:Bool} (h:dand p b=true):p/\b=true:=by
 unfold dand at h;split at h
 ·rename_i hp; exact ⟨hp,h⟩
 ·cases h
section
variable {kb:At->Bool} {k:At->Prop} (hk:∀ v,kb v=true->k v)
include hk
theorem Sk {c x y:At} (h:Sj c x y kb=true):uN c x y k:=by
 unfold Sj at h; unfold uN;split at h
 ·split at h
  ·rename_i e; rw [if_pos e]; exact hk _ h
  ·rename_i e; rw [if_neg e]; exact hk _ h
 ·cases h
omit hk in
theorem UQ {op:BinOp} {κ:IntKind} {a b:Int} {kb:C->Bool} {k:C->Prop} (hk:∀ v,kb v=true->k v) (h:WZ op κ a b kb=true):Kf op κ a b k:=by
 unfold WZ at h; unfold Kf;cases op <;> first | exact hk _ h | exact ⟨(ba h).1,hk _ (ba h).2⟩
omit hk in
theorem QC {op:BinOp} {x y:C} {kb:C->Bool} {k:C->Prop} (hk:∀ v,kb v=true->k v) (h:QB op x y kb=true):yY op x y k:=by
 unfold QB at h; unfold yY;split at h
 ·cases op <;> first | exact hk _ h | exact ⟨(ba h).1,hk _ (ba h).2⟩ | (cases h; done)
 ·split at h
  ·split at h
   ·rename_i hc; rw [if_pos hc]; exact UQ hk h
   ·cases h
  ·cases h
theorem TI {P:Program} {op:BinOp} {t:TypeId} {x y:At} (h:Wp P op t x y kb=true):EA P op t x y k:=by
 unfold Wp at h; unfold EA
 (repeat' split at h) <;> first | (cases h; done) | exact hk _ h | exact QC (fun _=>hk _) h
theorem Xe {op:UnOp} {x:At} (h:unB op x kb=true):unT op x k:=by
 unfold unB at h; unfold unT;split at h
 ·exact hk _ h
 ·split at h
  ·exact hk _ h
  ·cases h
 ·split at h
  ·exact hk _ h
  ·cases h
 ·cases h
theorem EV {x:At} {i:Nat} (h:xx x i kb=true):gY x i k:=by
 unfold xx at h; unfold gY
 (repeat' split at h) <;> first | (cases h; done) | exact hk _ h
omit hk in
theorem Uv {gd:Option (Nat×Bool)} {n:Nat} {q:Prop} (h:q):gift gd n q:=by
 unfold gift;split
 ·exact fun _=>h
 ·exact h
omit hk in
theorem UH {gd:Option (Nat×Bool)} {m:List (Nm×Nat×Rt)} {x:At} {kb:Nat->Bool} {k:Nat->Prop} (hk:∀ v,kb v=true->k v) (h:WV gd m x kb=true):FQ gd m x k:=by
 unfold WV at h; unfold FQ
 (repeat' split at h) <;> first | (cases h; done) | exact hk _ h | exact Uv (hk _ h)
theorem O0 {x i:At} (h:KO x i kb=true):om x i k:=by
 unfold KO at h; unfold om
 (repeat' split at h) <;> first | (cases h; done) | exact ⟨(ba h).1,hk _ (ba h).2⟩
omit hk in
theorem oL {x:Option At} {d:Nat} {kb:Nat->Bool} {k:Nat->Prop} (hk:∀ v,kb v=true->k v) (h:nF x d kb=true):dY x d k:=by
 unfold nF at h; unfold dY
 (repeat' split at h) <;> first | (cases h; done) | exact hk _ h | exact ⟨(ba h).1,hk _ (ba h).2⟩
theorem OT {P:Program} {t:TypeId} {x:At} {lo hi:Option At} (h:KJ P t x lo hi kb=true):og P t x lo hi k:=by
 unfold KJ at h; unfold og
 (repeat' split at h) <;> first | (cases h; done) | exact oL (fun _=>oL fun _ h=>⟨(ba h).1,hk _ (ba h).2⟩) h | exact oL (fun _=>oL fun _ h=>⟨(ba h).1.1,(ba h).1.2,hk _ (ba h).2⟩) h
theorem y9 {P:Program} {m:List (Nm×Nat×Rt)} {t:TypeId} {x:At} {i:Nat} (h:qe P m t x i kb=true):dE P m t x i k:=by
 unfold qe at h; unfold dE
 (repeat' split at h) <;> first | (cases h; done) | exact hk _ h
theorem zc {P:Program} {m:List (Nm×Nat×Rt)} {t:TypeId} {x i:At} (h:qg P m t x i kb=true):dg P m t x i k:=by
 unfold qg at h; unfold dg
 (repeat' split at h) <;> first | (cases h; done) | exact ⟨(ba h).1,hk _ (ba h).2⟩
theorem FV {P:Program} {m:List (Nm×Nat×Rt)} {t:TypeId} {x:At} (h:Mq P m t x kb=true):jL P m t x k:=by
 unfold Mq at h; unfold jL
 (repeat' split at h) <;> first | (cases h; done) | exact hk _ h | exact ⟨(ba h).1,hk _ (ba h).2⟩
theorem N3 {P:Program} {t:TypeId} {x:At} {i:Nat} (h:Js P t x i kb=true):nM P t x i k:=by
 unfold Js at h; unfold nM
 (repeat' split at h) <;> first | (cases h; done) | exact hk _ h
theorem CD {x:At} (h:tS x kb=true):fo x k:=by
 unfold tS at h; unfold fo
 (repeat' split at h) <;> first | (cases h; done) | exact hk _ h
theorem Nv {P:Program} {t:TypeId} {ps:List (Nat×At)} (h:Je P t ps kb=true):nH P t ps k:=by
 unfold Je at h; unfold nH
 (repeat' split at h) <;> first | (cases h; done) | exact hk _ h
theorem Q7 {P:Program} {su du:TypeId} {x:At} (h:Q6 P su du x kb=true):uE P su du x k:=by
 unfold Q6 at h; unfold uE
 (repeat' split at h) <;> first | (cases h; done) | exact hk _ h
theorem JY {P:Program} {m:List (Nm×Nat×Rt)} {t:TypeId} {x key:At} {ok:Bool} (h:Cx P m t x key ok kb=true):kB P m t x key ok k:=by
 unfold Cx at h; unfold kB
 (repeat' split at h) <;> first | (cases h; done) | exact hk _ h
end
section
variable {s:St} {kb:St->Bool} {k:St->Prop} (hk:∀ s',kb s'=true->k s')
include hk
theorem Ni {P:Program} {t:TypeId} {d:Tmp} (h:I0 P s t d kb=true):nC P s t d k:=by
 unfold I0 at h; unfold nC
 (repeat' split at h) <;> first | (cases h; done) | exact hk _ h
theorem TO {x:Operand} {d:Tmp} (h:Wr s x d kb=true):EC s x d k:=by
 unfold Wr at h; unfold EC
 (repeat' split at h) <;> first | (cases h; done) | exact hk _ h
theorem xb {P:Program} {E:Ut} {t:TypeId} {n:Nat} {ps:Array (Nat×Operand)} {d:Tmp} (h:nG P E s t n ps d kb=true):cX P E s t n ps d k:=by
 unfold nG at h; unfold cX;dsimp only at h ⊢
 (repeat' split at h) <;> first | (cases h; done) | exact hk _ h
theorem tu {P:Program} {E:Ut} {sub:List Sh} {t:TypeId} {n:Nat} {ps:Array (Nat×Operand)} {d:Tmp} (h:kX P E sub s t n ps d kb=true):cw P E sub s t n ps d k:=by
 unfold kX at h; unfold cw;dsimp only at h ⊢
 (repeat' split at h) <;> first | (cases h; done) | exact hk _ h
theorem tx {P:Program} {E:Ut} {sub:List Sh} {t:TypeId} {n:Nat} {ps:Array (Nat×Operand)} {d:Tmp} (h:kY P E sub s t n ps d kb=true):cx P E sub s t n ps d k:=by
 unfold kY at h; unfold cx
 (repeat' split at h) <;> first | (cases h; done) | exact hk _ h
omit hk in
theorem rZ {q:Bool} {p:Prop} (hq:q=true->p):∀ (path:List Step) (sub:List Sh) (u:U) (l:List (El u)),Be sub u l path q=true->nW sub u l path p
 | [],_,_,_,h=>by cases h
 | [_],_,_,_,h=>⟨(ba h).1,hq (ba h).2⟩
 | st::st'::r,sub,u,l,h=>by
  unfold Be at h; unfold nW;split at h
  ·exact ⟨(ba h).1,rZ hq (st'::r) _ _ _ (ba h).2⟩
  ·cases h
omit hk in
theorem xu {q:Bool} {p:Prop} (hq:q=true->p):∀ (a b:List Step),vA a b q=true->mA a b p
 | [],[],h=>hq h
 | a::r,b::t,h=>by
  unfold vA at h; unfold mA;split at h
  ·exact ⟨(ba h).1,xu hq r t (ba h).2⟩
  ·cases h
 | [],_::_,h=>by cases h
 | _::_,[],h=>by cases h
theorem CW {p:Pl} {t:Tt} (h:U5 s p t kb=true):zy s p t k:=by
 unfold U5 at h; unfold zy
 (repeat' split at h) <;> first | (cases h; done) | exact hk _ h | exact rZ (hk _) _ _ _ _ h | exact rZ (xu (hk _) _ _) _ _ _ _ h
theorem Ky {p:Pl} {ts:List Tt} (h:CX s p ts kb=true):kJ s p ts k:=by
 unfold CX at h; unfold kJ
 (repeat' split at h) <;> first | (cases h; done) | exact rZ (hk _) _ _ _ _ h
omit hk in
theorem mO {kb:St->Bool} {k:St->Prop} (hk:∀ s',kb s'=true->k s'):∀ (ts:List Tt) (s:St) (p:Pl),sk s p ts kb=true->fP s p ts k
 | [],_,_,h=>hk _ h
 | t::ts,s,p,h=>by
  cases t with
  | rf q=>
   simp only [sk] at h; simp only [fP]
   (repeat' split at h) <;> first | (cases h; done) | exact CW (fun s' h'=>mO hk ts _ _ h') h
  | any=>cases h
  | d c=>cases c <;> first | (cases h; done) | exact CW (fun s' h'=>mO hk ts _ _ h') h
  | _=>exact CW (fun s' h'=>mO hk ts _ _ h') h
theorem OX {P:Program} {t:TypeId} {x v:At} (h:KL P s t x v kb=true):oh P s t x v k:=by
 unfold KL at h; unfold oh
 (repeat' split at h) <;> first | (cases h; done) | exact Ky hk h | exact mO hk _ _ _ h
theorem I3 {P:Program} {E:Ut} {t u:TypeId} {x y:Operand} {d:Tmp} (h:BU P E s t u x y d kb=true):ke P E s t u x y d k:=by
 unfold BU at h; unfold ke;dsimp only at h ⊢
 (repeat' split at h) <;> first | (cases h; done) | exact ⟨(ba h).1,hk _ (ba h).2⟩
theorem BV {P:Program} {E:Ut} {t u:TypeId} {x y:Operand} {d:Tmp} (h:tc P E s t u x y d kb=true):gM P E s t u x y d k:=by
 unfold tc at h; unfold gM
 (repeat' split at h) <;> first | (cases h; done) | exact ⟨(ba h).1,hk _ (ba h).2⟩
theorem uL {P:Program} {E:Ut} {own:Bool} {t:TypeId} {d:Tmp} (h:rU P E own s t d kb=true):en P E own s t d k:=by
 unfold rU at h; unfold en
 (repeat' split at h) <;> first | (cases h; done) | exact hk _ h
theorem JV {P:Program} {t:TypeId} {x key:At} (h:Cw P s t x key kb=true):kA P s t x key k:=by
 unfold Cw at h; unfold kA
 (repeat' split at h) <;> first | (cases h; done) | exact hk _ h
theorem Ka {P:Program} {t:TypeId} {x key v:At} (h:Cz P s t x key v kb=true):kD P s t x key v k:=by
 unfold Cz at h; unfold kD
 (repeat' split at h) <;> first | (cases h; done) | exact hk _ h
theorem zt {b:EnB} {pk:PKt} {t:TypeId} {n c:At} {f:Bool} {d:Tmp} (h:qi b s t n c f d kb=true):dF ⟨b.e.P,b.e.E,b.e.cs,b.e.sh,pk⟩ s t n c f d k:=by
 unfold qi at h; unfold dF;dsimp only
 (repeat' split at h) <;> first | (cases h; done) | exact ⟨(ba h).1,hk _ (ba h).2⟩
end
def uY (Cb:CKb) (C:CKt):Prop:=∀ (pk:PKt) (s:St) (ops:List Operand) (kb:St->At->Bool) (k:St->At->Prop),(∀ s' v,kb s' v=true->k s' v)->Cb s ops kb=true->C pk s ops k
def Bw:CBt->CTt->Prop
 | [],[]=>True
 | x::r,y::q=>(x.1=y.1/\uY x.2 y.2)/\Bw r q
 | _,_=>False
theorem Bw.get:∀ {cb:CBt} {cs:CTt},Bw cb cs->∀ {f:Nat} {Cb:CKb},CBt.get cb f=some Cb->∃ C,cs.get f=some C/\uY Cb C
 | [],[],_,f,Cb,h=>by cases h
 | (f0,c)::r,(f1,C)::q,⟨⟨e,h1⟩,h2⟩,f,Cb,h=>by
  dsimp only at e h1;subst e;simp only [CBt.get] at h;simp only [CTt.get];split at h
  ·simp only [YT] at h; subst h; exact ⟨C,rfl,h1⟩
  ·exact Bw.get h2 h
 | [],_::_,h,_,_,_=>h.elim
 | _::_,[],h,_,_,_=>h.elim
abbrev EnB.w (b:EnB) (pk:PKt):En:=⟨b.e.P,b.e.E,b.e.cs,b.e.sh,pk⟩
section
variable {b:EnB} (hc:Bw b.cs b.e.cs) {pk:PKt}
theorem SC {o:Oper} {s:St} {kb:At->Bool} {k:At->Prop} (hk:∀ v,kb v=true->k v) (h:qB b o s kb=true):qT (b.w pk) o s k:=by
 unfold qB at h; unfold qT;dsimp only [EnB.w];split at h
 ·exact hk _ h
 ·exact hk _ h
 ·exact Sk hk h
 ·exact TI hk h
 ·exact Xe hk h
 ·exact FV hk h
 ·exact N3 hk h
 ·exact y9 hk h
 ·exact zc hk h
 ·split at h
  ·exact O0 hk h
  ·cases h
 ·exact EV hk h
 ·exact Q7 hk h
 ·exact OT hk h
 ·exact CD hk h
 ·exact Nv hk h
 ·split at h
  ·split at h
   ·exact UH (fun _=>hk _) h
   ·cases h
  ·cases h
 ·cases h
include hc
theorem XV {o:Oper} {s:St} {kb:St->Bool} {k:St->Prop} (hk:∀ s',kb s'=true->k s') (h:lB b o s kb=true):lT (b.w pk) o s k:=by
 unfold lB at h; unfold lT;have esh:∀ t,Vg (b.w pk) t=Vg b.e t:=fun _=>rfl
 simp only [esh];dsimp only [EnB.w];split at h
 ·exact OX (fun _=>hk _) h
 ·split at h
  ·exact Ni hk h
  ·cases h
 ·split at h
  ·exact TO hk h
  ·cases h
 ·split at h
  ·split at h
   ·exact xb hk h
   ·split at h
    ·exact tx hk h
    ·exact tu hk h
  ·cases h
 ·split at h
  ·split at h
   ·split at h
    ·exact I3 hk h
    ·exact BV hk h
   ·cases h
  ·exact JV (fun _=>hk _) h
  ·split at h
   ·rename_i C hg hf;obtain ⟨C',h1,h2⟩:=hc.get hg;rw [h1,hf];exact h2 _ _ _ _ _ (fun _ _=>hk _) h
   ·cases h
  ·split at h
   ·split at h
    ·rename_i C hg hf;obtain ⟨C',h1,h2⟩:=hc.get hg;rw [h1,hf];exact h2 _ _ _ _ _ (fun _ _=>hk _) h
    ·cases h
   ·(repeat' split at h) <;> cases h
   ·cases h
  ·cases h
 ·split at h
  ·exact uL hk h
  ·split at h
   ·exact uL hk h
   ·cases h
  ·cases h
 ·split at h
  ·cases h
  ·exact JY (fun _=>hk _) h
 ·split at h
  ·cases h
  ·exact Ka (fun _=>hk _) h
 ·split at h
  ·exact zt hk h
  ·cases h
 all_goals ((repeat' split at h) <;> cases h)
theorem Mw {o:Oper} {s:St} {kb:St->Bool} {k:St->Prop} (hk:∀ s',kb s'=true->k s') (h:UV b o s kb=true):x8 (b.w pk) o s k:=by
 unfold UV at h; unfold x8;split at h
 ·exact SC (fun _=>hk _) h
 ·exact XV hc hk h
theorem Kl {o:Oper} {s:St} {kb:St->Bool} {k:St->Prop} (hk:∀ s',kb s'=true->k s') (h:opB b o s kb=true):opT (b.w pk) o s k:=by
 unfold opB at h; unfold opT;have e1:Kn (b.w pk) o=Kn b.e o:=by unfold Kn; rfl
 rw [e1];split at h
 ·cases h
 ·exact Mw hc hk h
theorem My {all:List Oper} {kb:St->Bool} {k:St->Prop} (hk:∀ s',kb s'=true->k s'):∀ (l:List Oper) (s:St),zw b all l s kb=true->j5 (b.w pk) all l s k
 | [],s,h=>hk s h
 | o::r,s,h=>by
  unfold zw at h; unfold j5;have ih:∀ s,zw b all r s kb=true->j5 (b.w pk) all r s k:=fun s h=>My hk r s h
  split at h
  ·exact Kl hc (fun s' h'=>ih s' h') h
  ·split at h
   ·split at h
    ·split at h
     ·split at h
      ·rename_i e; rw [if_pos e]; exact Kl hc (fun s' h'=>ih s' h') h
      ·rename_i e; rw [if_neg e]; exact ih _ h
     ·split at h
      ·rename_i e; rw [if_pos e]; exact ih _ h
      ·rename_i e; rw [if_neg e]; exact Kl hc (fun s' h'=>ih s' h') h
    ·exact ih _ h
    ·cases h
   ·cases h
omit hc in
theorem VW {ops:List Oper} {o:Oper} {s:St} {fb nb:St->Bool} {f no:St->Prop} (hf:∀ s',fb s'=true->f s') (hn:∀ s',nb s'=true->no s') (h:gB ops o s fb nb=true):gT ops o s f no:=by
 unfold gB at h; unfold gT
 (repeat' split at h) <;> first
  | (cases h; done)
  | exact hf _ h
  | exact hn _ h
  | (rename_i e; rw [if_pos e]; first | exact hf _ h | exact hn _ h)
  | (rename_i e; rw [if_neg e]; first | exact hf _ h | exact hn _ h)
omit hc in
theorem LR {fb:Nat->Bool} {f:Nat->Prop} (hf:∀ i,fb i=true->f i):∀ l:List Nat,Ty fb l=true->Nh f l
 | [],_=>trivial
 | [i],h=>hf i h
 | i::j::r,h=>by
  unfold Ty at h;split at h
  ·rename_i hi; exact ⟨hf i hi,LR hf (j::r) h⟩
  ·cases h
theorem EQ {ops:Array Oper} {kb:St->Bool} {k:St->Prop} (hk:∀ s',kb s'=true->k s'):∀ (n:Nat) (listed:Array Bool) (s:St),py b ops n listed s kb=true->fl (b.w pk) ops n listed s k
 | 0,listed,s,h=>by
  unfold py at h; unfold fl;split at h
  ·exact hk _ h
  ·cases h
 | n+1,listed,s,h=>by
  unfold py at h; unfold fl;have ih:∀ l s,py b ops n l s kb=true->fl (b.w pk) ops n l s k:=fun l s h=>EQ hk n l s h
  split at h
  ·exact hk _ h
  ·split at h
   ·split at h
    ·split at h
     ·exact SC (fun v h'=>ih _ _ h') h
     ·refine VW (fun s' h'=>?_) (fun s' h'=>ih _ _ h') h;split at h'
      ·exact SC (fun v h2=>ih _ _ h2) h'
      ·cases h'
    ·cases h
   ·refine LR (fun i h'=>?_) _ h;split at h'
    ·exact VW (fun s' h2=>Mw (pk:=(b.w pk).cl.pk) hc (fun s'' h3=>ih _ _ h3) h2) (fun s' h2=>ih _ _ h2) h'
    ·cases h'
def iK (n:Nat):Code->An
 | .seq a b=>.s (iK n a) (iK n b)
 | .cond _ a b=>.c (iK n a) (iK n b)
 | .block _ a=>.b (iK n a)
 | .loop a=>.un n (iK n a)
 | _=>.l
structure KtOk (Kb:KtB) (K:Kt):Prop where
 n:∀ s,Kb.n s=true->K.n s
 x:∀ i s,Kb.x i s=true->K.x i s
 r:∀ s,Kb.r s=true->K.r s
omit hc in
theorem Np (n:Nat) (c:Code) (s:St):(iK n c).pick s=iK n c:=by cases c <;> rfl
theorem jY (n:Nat):∀ (c:Code) (s:St) {Kb:KtB} {K:Kt},KtOk Kb K->wpB n b c s Kb=true->wpT (b.w pk) (iK n c) c s K
 | .skip,s,Kb,K,hK,h=>hK.n s h
 | .region i ops dr,s,Kb,K,hK,h=>by
  cases dr with
  | false=>exact My hc hK.n _ s h
  | true=>exact EQ hc hK.n _ _ s h
 | .seq x y,s,Kb,K,hK,h=>by
  show wpT (b.w pk) (iK n x) x s ⟨fun s'=>wpT (b.w pk) ((iK n y).pick s') y s' K,K.x,K.r⟩
  refine jY n x s (Kb:=⟨fun s'=>wpB n b y s' Kb,Kb.x,Kb.r⟩) ⟨fun s' h'=>?_,hK.x,hK.r⟩ h;show wpT (b.w pk) ((iK n y).pick s') y s' K
  rw [Np];exact jY n y s' hK h'
 | .cond o x y,s,Kb,K,hK,h=>by
  cases o with
  | tmp t=>
   unfold wpB at h;show (match gtA s.t t with | .one (.c (.d (.bo c)))=>if c=true then wpT (b.w pk) (iK n x) x s K else wpT (b.w pk) (iK n y) y s K | _=>False)
   split at h
   ·rename_i c e;rw [e];cases c with
    | true=>exact jY n x s hK h
    | false=>exact jY n y s hK h
   ·cases h
  | _=>unfold wpB at h; cases h
 | .block id x,s,Kb,K,hK,h=>by
  refine jY n x s (Kb:=⟨Kb.n,fun i s'=>match Nat.beq i id with | true=>Kb.n s' | false=>Kb.x i s',Kb.r⟩) ⟨hK.n,fun i s' h'=>?_,hK.r⟩ h;dsimp only at h' ⊢;split at h'
  ·rename_i e; rw [e]; exact hK.n _ h'
  ·rename_i e; rw [e]; exact hK.x _ _ h'
 | .loop x,s,Kb,K,hK,h=>by
  show pD (fun R s'=>wpT (b.w pk) (iK n x) x s' ⟨R,K.x,K.r⟩) n s
  have key:∀ m s,JU (fun R s'=>wpB n b x s' ⟨R,Kb.x,Kb.r⟩) m s=true->pD (fun R s'=>wpT (b.w pk) (iK n x) x s' ⟨R,K.x,K.r⟩) m s:=by
   intro m;induction m with
   | zero=>intro s h; cases h
   | succ m ih=>intro s h; exact jY n x s (Kb:=⟨_,Kb.x,Kb.r⟩) ⟨fun s' h'=>ih s' h',hK.x,hK.r⟩ h
  exact key n s h
 | .exit i,s,Kb,K,hK,h=>hK.x i s h
 | .ret,s,Kb,K,hK,h=>hK.r s h
 | .rangeFunc ..,_,_,_,_,h=>by unfold wpB at h; cases h
 | .scope ..,_,_,_,_,h=>by unfold wpB at h; cases h
 | .label ..,_,_,_,_,h=>by unfold wpB at h; cases h
 | .goto ..,_,_,_,_,h=>by unfold wpB at h; cases h
 | .refuse ..,_,_,_,_,h=>by unfold wpB at h; cases h
end
end Go.Am
end

section
namespace Go.Am
open Go Go.Proofs
theorem KC {P:Program} {s:St} {kb:At->Bool} {k:At->Prop} (hk:∀ v,kb v=true->k v) (r:ResultVar) (h:C2 P s kb r=true):kK P s k r:=by
 unfold C2 at h; unfold kK
 (repeat' split at h) <;> first | (cases h; done) | exact hk _ h | exact FV hk h
theorem oa {P:Program} {s:St}:∀ (rs:List ResultVar) {kb:List At->Bool} {k:List At->Prop},(∀ v,kb v=true->k v)->sg P s rs kb=true->cy P s rs k
 | [],_,_,hk,h=>hk _ h
 | r::rs,kb,k,hk,h=>KC (k:=fun v=>cy P s rs fun vs=>k (v::vs)) (fun v h'=>oa rs (kb:=fun vs=>kb (v::vs)) (fun vs h2=>hk _ h2) h') r h
theorem C6 {P:Program} {rs:List ResultVar} {us:List U} {KKb:Fl us->Bool} {KK:Fl us->Prop} (hk:∀ x,KKb x=true->KK x) {s:St} (h:GB P rs us KKb s=true):qy P rs us KK s:=by
 unfold GB at h; unfold qy;refine oa rs (fun vs h'=>?_) h;split at h'
 ·exact hk _ h'
 ·cases h'
theorem SF {P:Program} {res:List ResultVar} {sh:List Sh} {u:U} {rs:List U} {KKb:Fl rs×El u->Bool} {KK:Fl rs×El u->Prop} (hk:∀ x,KKb x=true->KK x) {s:St} (h:yp P res sh u rs KKb s=true):jW P res sh u rs KK s:=by
 unfold yp at h; unfold jW;dsimp only at h ⊢;refine oa res (fun vs h'=>?_) h
 (repeat' split at h') <;> first | (cases h'; done) | exact hk _ h'
theorem Fk {P:Program} {res:List ResultVar} {kb:St->At->Bool} {k:St->At->Prop} (hk:∀ s v,kb s v=true->k s v) (s:St) (h:Mj P res kb s=true):jG P res k s:=by
 unfold Mj at h; unfold jG;split at h
 ·exact hk _ _ h
 ·cases h
abbrev anF (n:Nat) (fn:Func):An:=iK n (fn.body.getD .skip)
section
variable {n:Nat} {b:EnB} (hc:Bw b.cs b.e.cs) {fn:Func} {ps rs:List U}
include hc
theorem xa {x:Fl ps} {KKb:Fl rs->Bool} {KK:Fl rs->Prop} (hk:∀ y,KKb y=true->KK y) (h:EB n b fn ps rs x KKb=true):ao b.e fn (anF n fn) ps rs x KK:=
 jY (pk:=fun _ _=>False) hc n _ _ (K:=⟨qy b.e.P fn.results.toList rs KK,fun _ _=>False,qy b.e.P fn.results.toList rs KK⟩) ⟨fun s h=>C6 hk h,fun _ _ h=>(by cases h),fun s h=>C6 hk h⟩ h
theorem SB:uY (SA n b fn ps rs) (Bh b.e fn (anF n fn) ps rs):=by
 intro pk s ops kb k hk h;unfold SA at h;unfold Bh;dsimp only at h ⊢;split at h
 ·rename_i x hx;exact ⟨fun y=>k _ (bw rs y),xa hc (fun y=>hk _ _) h,fun y hy=>hy⟩
 ·cases h
theorem RJ:uY (RG n b fn ps rs) (xM ps rs fun x KK=>ao b.e fn (anF n fn) ps rs x KK):=by
 intro pk s ops kb k hk h;unfold RG at h;unfold xM;split at h
 ·exact ⟨fun y=>k _ (bw rs y),xa hc (fun y=>hk _ _) h,fun y hy=>hy⟩
 ·cases h
theorem Uw:uY (WR n b fn) (cm b.e fn (anF n fn)):=by
 intro pk s ops kb k hk h;unfold WR at h;unfold cm;split at h
 ·exact jY hc n _ _ (K:=⟨jG b.e.P fn.results.toList k,fun _ _=>False,jG b.e.P fn.results.toList k⟩) ⟨fun s h=>Fk hk s h,fun _ _ h=>(by cases h),fun s h=>Fk hk s h⟩ h
 ·cases h
theorem U3 {sh:List Sh} {u:U}:uY (W5 n b fn sh u ps rs) (Bg b.e fn (anF n fn) sh u ps rs):=by
 intro pk s ops kb k hk h;have key:∀ (Sx:El u->St) (x:El u) (y:Fl ps),wpB n b (fn.body.getD .skip) ⟨1,(0,0,.one (.c (.pl ⟨.out 0,0,[]⟩)))::vg 1 ps y,[(.out 0,0,⟨true,aB sh (flat u x),none⟩)]⟩
   ⟨yp b.e.P fn.results.toList sh u rs (fun z=>kb (Sx z.2) (bw rs z.1)),fun _ _=>false,yp b.e.P fn.results.toList sh u rs (fun z=>kb (Sx z.2) (bw rs z.1))⟩=true ->
   ∃ (KK:Fl rs×El u->Prop) (KP:Value->El u->Prop),L4 b.e fn (anF n fn) sh u ps rs x y KK KP/\(∀ z x',KK (z,x')->k (Sx x') (bw rs z))/\∀ v x',KP v x'->pk v (Sx x'):=by
  intro Sx x y h;have rr:∀ s,yp b.e.P fn.results.toList sh u rs (fun z=>kb (Sx z.2) (bw rs z.1)) s=true->jW b.e.P fn.results.toList sh u rs (fun z=>k (Sx z.2) (bw rs z.1)) s:=fun s h=>SF (fun z=>hk (Sx z.2) (bw rs z.1)) h
  refine ⟨fun z=>k (Sx z.2) (bw rs z.1),fun _ _=>False,?_,fun z x' hz=>hz,fun _ _ h=>h.elim⟩;exact jY (pk:=MD sh u fun _ _=>False) hc n _ _ (K:=⟨jW b.e.P fn.results.toList sh u rs (fun z=>k (Sx z.2) (bw rs z.1)),fun _ _=>False,jW b.e.P fn.results.toList sh u rs (fun z=>k (Sx z.2) (bw rs z.1))⟩) ⟨rr,fun _ _ h=>(by cases h),rr⟩ h
 unfold W5 at h;unfold Bg;dsimp only at h ⊢
 (repeat' split at h) <;> first | (cases h; done) | exact key _ _ _ h
end
theorem XC {Cb:CKb} {C:CKt} (h:uY Cb C):uY (apB Cb) (apT C):=by
 intro pk s ops kb k hk hb;unfold apB at hb;unfold apT;split at hb
 ·exact h _ _ _ _ _ (fun s' v h'=>hk _ _ h') hb
 ·cases hb
theorem xz {ps rs:List U} {pb:Fl ps->Bool} {pre:Fl ps->Prop} {f:Fl ps->Fl rs} (hp:∀ x,pb x=true->pre x):uY (fnB ps rs pb f) (bg ps rs pre f):=by
 intro pk s ops kb k hk h;unfold fnB at h;unfold bg;dsimp only at h ⊢;split at h
 ·split at h
  ·rename_i hb; exact ⟨hp _ hb,hk _ _ h⟩
  ·cases h
 ·cases h
theorem Rf {ps rs:List U} {f:Fl ps->Fl rs}:uY (fnB ps rs (fun _=>true) f) (ay ps rs f):=by
 intro pk s ops kb k hk h;unfold fnB at h;unfold ay;dsimp only at h ⊢;split at h
 ·exact hk _ _ h
 ·cases h
theorem Xd {tab:List (List UInt8×Nat)} {df:Nat}:uY (swB tab df) (swT tab df):=by
 intro pk s ops kb k hk h;unfold swB at h;unfold swT;dsimp only at h ⊢;split at h
 ·rename_i x hx;have key:∀ (tab:List (List UInt8×Nat)) {K:Nat->Bool} {K':Nat->Prop},(∀ i,K i=true->K' i)->Vm x K df tab=true->swP x K' df tab:=by
   intro tab K K' hK;induction tab with
   | nil=>exact hK _
   | cons y r ih=>
    obtain ⟨w0,f⟩:=y;intro h;unfold Vm at h;unfold swP;split at h
    ·rename_i e; rw [if_pos e]; exact hK _ h
    ·rename_i e; rw [if_neg (by rw [e]; decide)]; exact ih h
  exact key tab (fun i=>hk _ _) h
 ·cases h
theorem Iv {e:En} (he:e.ok) (hm:e.P.follows .mixedOrders=true) {f:Nat} {fn:Func} (hf:e.P.funcs[f]? = some fn) (hname:(fn.name == "runtime.NumGoroutine")=false) (hb:fn.body.isSome=true) {an:An} {ps rs:List U}
  (hlen:Nat.ble ps.length fn.ntmps=true) (hc:eX fn.ntmps (fn.body.getD .skip)=true):Cont e.P f (Bh e fn an ps rs):=by
 have hb':fn.body=some (fn.body.getD .skip):=by cases h:fn.body with
  | none=>rw [h] at hb; cases hb
  | some c=>rfl
 have hcon:=wa (P:=e.P) hf hname hb' (fun avs K=>∃ (x:Fl ps) (KK:Fl rs->Prop),avs=dN ps x/\ao e fn an ps rs x KK/\∀ y,KK y->K (bw rs y).toV) (fun avs K ⟨x,_,hx,_⟩=>by rw [hx,cv]; exact YZ hlen) (fun g avs K hg ⟨x,KK,hx,h,hk⟩=>by
  subst hx;exact vQ he hm hg hc hk h)
 refine ⟨hcon.run,fun pk s ops k k' hk hcc=>?_,fun g pk s a w H γ F1 ops k hX hops hcc=>?_⟩
 ·unfold Bh at hcc ⊢;dsimp only at hcc ⊢;split at hcc
  ·obtain ⟨KK,h1,h2⟩:=hcc;exact ⟨KK,h1,fun y hy=>hk _ _ (bz _ _) (h2 y hy)⟩
  ·exact hcc.elim
 ·unfold Bh at hcc;dsimp only at hcc;obtain ⟨H1,F2,h1⟩:=cg (ops.map (evA s)) s H F1 hX;generalize bm s (ops.map (evA s))=s1 at hcc h1;split at hcc
  ·rename_i x hx;obtain ⟨KK,hbd,hk⟩:=hcc;obtain ⟨c1,c2,c3⟩:=cR hx;refine Calls.mono (hcon.call g s1.toS a w H1 γ F2 ops (fun s' av=>∃ t v',SEq s' t.toS/\av=v'.toV/\k t v') h1 hops ?_) ?_
   ·unfold n4;dsimp only;rw [cK hops,dc c1];have e:(ops.map fun x=>(ev s1.toS x).map T.canon)=(ops.map (ev s1.toS)).map (AV.map T.canon):=by rw [Y9]; rfl
    rw [e,cK hops];refine ⟨c2,?_⟩;rw [c3];exact ⟨x,KK,rfl,hbd,fun y hy=>⟨s1,_,⟨fun _=>rfl,rfl⟩,rfl,hk y hy⟩⟩
   ·rintro e w' ⟨r,s',av,H',γ',F',k1,⟨t,v',e1,rfl,k2⟩,k3,k4⟩
    refine .inl ⟨r,t,v',H',γ',F',k1,k2,?_,aR e1 k4⟩;rw [e1.2] at k3;exact k3
  ·exact hcc.elim
structure Cl (f:Nat) where
 B:CKb
 I:CKt
 ck:uY B I
 cont:Cont prog f I
abbrev ClS:=List ((f:Nat)×Cl f)
def clB:ClS->CBt
 | []=>[]
 | x::r=>(x.1,x.2.B)::clB r
def clI:ClS->CTt
 | []=>[]
 | x::r=>(x.1,x.2.I)::clI r
theorem xq:∀ l:ClS,Bw (clB l) (clI l)
 | []=>trivial
 | x::r=>⟨⟨rfl,x.2.ck⟩,xq r⟩
noncomputable abbrev clE (E:Ut) (sh:List (TypeId×List Sh)) (l:ClS):EnB:=⟨⟨prog,E,clI l,sh,noP⟩,clB l⟩
theorem Ug {P:Program} {f:Nat} {C:CKt} (h:Cont P f C):f<P.funcs.size:=by
 rcases Zf f P.funcs.size with h1 | h1
 ·exact h1
 ·have h2:=h.run #[] default
  have h3:P.funcs[f]? = none:=ZV h1
  simp [callFunc,Sem.run,Sem.run_bind,h3,stuck,Result.andThen] at h2
theorem Ud:Nat.ble (prog).funcs.size 1000000=true:=by kernel_rfl
theorem AJ (E:Ut) (sh:List (TypeId×List Sh)) (l:ClS):(clE E sh l).e.ok:=by
 intro x hx;have:∀ l:ClS,x∈clI l->Cont prog x.1 x.2:=by
  intro l;induction l with
  | nil=>intro h; cases h
  | cons y r ih=>
   intro h;rcases Y2.1 h with rfl | h
   ·exact y.2.cont
   ·exact ih h
 have hc:=this l hx
 have h1:=Ug hc
 have h2:=YZ Ud
 exact ⟨fun _=>hc,fun h=>by omega⟩
def Kg (n:Nat) (fn:Func):Bool:=fn.name != "runtime.NumGoroutine" && (fn.body.isSome&&(Nat.ble n fn.ntmps&&(eX fn.ntmps (fn.body.getD .skip)&&Nat.ble fn.ntmps 100000)))
theorem cU {n:Nat} {fn:Func} (h:Kg n fn=true):(fn.name == "runtime.NumGoroutine")=false/\fn.body.isSome=true/\Nat.ble n fn.ntmps=true/\eX fn.ntmps (fn.body.getD .skip)=true/\Nat.ble fn.ntmps 100000=true:=by
 unfold Kg at h;simp only [YV,bne,Z2] at h;exact h
theorem tR:prog.follows .mixedOrders=true:=by kernel_rfl
section
variable (E:Ut) (sh:List (TypeId×List Sh)) (l:ClS) (n:Nat) {f:Nat} (fn:Func) (ps rs:List U)
noncomputable def clP (hf:prog.funcs[f]? = some fn:=by kernel_rfl) (h:Kg ps.length fn=true:=by kernel_rfl):Cl f:=
 ⟨SA n (clE E sh l) fn ps rs,Bh (clE E sh l).e fn (anF n fn) ps rs,SB (xq l),Iv (AJ E sh l) tR hf (cU h).1 (cU h).2.1 (cU h).2.2.1 (cU h).2.2.2.1⟩
noncomputable def clL (hf:prog.funcs[f]? = some fn:=by kernel_rfl) (h:Kg ps.length fn=true:=by kernel_rfl):Cl f:=
 ⟨RG n (clE E sh l) fn ps rs,xM ps rs fun x KK=>ao (clE E sh l).e fn (anF n fn) ps rs x KK,RJ (xq l),wb (AJ E sh l) tR hf (cU h).1 (cU h).2.1 (cU h).2.2.1 (cU h).2.2.2.1 (fun _ _ h=>h)⟩
noncomputable def clN (hf:prog.funcs[f]? = some fn:=by kernel_rfl) (h:Kg 0 fn=true:=by kernel_rfl):Cl f:=
 ⟨apB (WR n (clE E sh l) fn),apT (cm (clE E sh l).e fn (anF n fn)),XC (Uw (xq l)),aC (DS (AJ E sh l) tR hf (cU h).1 (cU h).2.1 (cU h).2.2.2.1 (cU h).2.2.2.2)⟩
noncomputable def clM (shr:List Sh) (u:U) (hf:prog.funcs[f]? = some fn:=by kernel_rfl) (h:Kg (ps.length+1) fn=true:=by kernel_rfl):Cl f:=
 ⟨W5 n (clE E sh l) fn shr u ps rs,Bg (clE E sh l).e fn (anF n fn) shr u ps rs,U3 (xq l),Iu (AJ E sh l) tR hf (cU h).1 (cU h).2.1 (cU h).2.2.1 (cU h).2.2.2.1⟩
noncomputable def clF {pre:Fl ps->Prop} (F:Fl ps->Fl rs) (pb:Fl ps->Bool) (hp:∀ x,pb x=true->pre x) (h:Cont prog f (bg ps rs pre F)):Cl f:=⟨fnB ps rs pb F,_,xz hp,h⟩
theorem PD [DecidableEq (Fl rs)] (y:Fl rs) (hf:prog.funcs[f]? = some fn) (h:Kg 0 fn=true) (hb:EB n (clE E sh l) fn [] rs () (fun z=>decide (z=y))=true):Cont prog f (ay [] rs (fun _=>y)):=
 wc (e:=(clE E sh l).e) (AJ E sh l) tR hf (cU h).1 (cU h).2.1 (an:=anF n fn) (cU h).2.2.1 (cU h).2.2.2.1 (fun x KK hK=>xa (xq l) (KKb:=fun z=>decide (z=y)) (fun z hz=>by rw [of_decide_eq_true hz]; exact hK) hb)
end
end Go.Am
end

section
namespace Go.Am
def Nm.sw:Nm->Nm
 | .loc i=>.out i
 | .out i=>.loc i
 | .gh v=>.gh v
theorem Nm.sw_sw:∀ n:Nm,n.sw.sw=n
 | .loc _=>rfl
 | .out _=>rfl
 | .gh _=>rfl
theorem Nm.sw_tyd:∀ n:Nm,n.sw.tyd=n.tyd
 | .loc _=>rfl
 | .out _=>rfl
 | .gh _=>rfl
theorem X3:NmR Nm.sw:=⟨Nm.sw_sw,Nm.sw_tyd⟩
abbrev St.sw (s:St):St:=s.rn Nm.sw
abbrev swG (γ:Gam):Gam:=rnG Nm.sw γ
section
variable {w:World} {H:FH} {γ:Gam} {F:Nm->Fp}
def pE (γ:Gam):Nat->Option Nat:=fun i=>match γ (.loc i) with
 | .blk b=>some b
 | .gh _=>none
theorem Xp {g:G} {s:St} {a a':Act} (h:RX g s.toS a w H γ F) {ds:List Deferred} (h1:a'.tmps=a.tmps) (h2:a'.defers=ds):RX ⟨g.nt,g.w0,g.H0,g.own0,pE γ,g.ex,ds⟩ s.sw.toS a' w H (swG γ) (fun n=>F n.sw):=by
 refine LK X3 h h1 h2 (fun j b hb=>?_);show γ (.loc j)=.blk b
 unfold pE at hb;split at hb
 ·rename_i b' hb'; rw [hb']; simp only [YT] at hb; rw [hb]
 ·cases hb
end
end Go.Am
end

section
namespace Go.Am
open Go Go.RowKit Go.Proofs
end Go.Am
end
