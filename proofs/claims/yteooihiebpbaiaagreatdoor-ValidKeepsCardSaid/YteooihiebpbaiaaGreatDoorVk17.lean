/-
  Part 17: AmLibC · AmE14 · AmE15 · AmE13 · AmE16 · AmE18r · AmRen · AmE19 · AmKeys · AmB2 · AmB3 · AmSw · AmPan.
-/
import Derived.Test.YteooihiebpbaiaaGreatDoorVk16
import Derived.Test.YteooihiebpbaiaaGreatDoorChecked
set_option linter.unusedSimpArgs false
set_option linter.unusedVariables false
set_option linter.unusedSectionVars false
set_option linter.unnecessarySimpa false
open Lt
open Go.Proofs.Tryz
section
namespace Go.Am
open Go Go.RowKit Go.Proofs
theorem uo(w:World):Below w.heap.size w w:=Below.refl _ w
theorem Co(c:UInt8):∀l:List UInt8,-1<=Lib.indexByte l c/\Lib.indexByte l c<=(l.length:Int)
 |[]=>by simp[Lib.indexByte]
 |b::l=>by
  have:=Co c l
  unfold Lib.indexByte;simp only[WL];split
  ·omega
  ·split<;>omega
theorem tL{w:World}{H:FH}{γ:Gam}{m:Mm}{l:List UInt8}(h:l.length<=BIG):AR1 w H γ m (.c (.d (.str l))) (.string ⟨l.toArray⟩):=⟨fun _=>rfl,0,rfl,h⟩
theorem Mr{w:World}{H:FH}{γ:Gam}{k:IntKind}{n:Int}{y:Value}(h:AR w H γ [] (.one (.c (.d (.int k n)))) y):y=.int k n:=by
 obtain⟨_,m,h⟩:=h;cases m<;>exact h.1
def Mx:CKt:=gY [.s,.b8] [.i .i64] (fun x=>Ou x.1 x.2)
theorem NJ:Cont prog 255 Mx:=yE (iH (gp (fn:=f255) Z0 Z0 Z0) (fun x args w H γ _ hl ha hg hag=>by
 obtain⟨s,c⟩:=x;obtain⟨u,v,rfl,h1,h2⟩:=IK (x:=.one (.c (.d (.str s)))) (y:=.one (.c (.d (.int .u8 (UInt8.toNat c:Int))))) hl ha;obtain⟨rfl,hs⟩:=jh h1;have hs:List.length (α:=UInt8) s<=BIG:=hs
 obtain rfl:=Mr h2;refine(Tryz.strings_IndexByte ⟨s.toArray⟩ (c.toNat:Int) w).mono ?_;rintro e w' ⟨rfl,hw⟩
 rw[hw];refine⟨_,H,rfl,uo w,fun _ _ _ h=>h,fun b o h1 h2=>absurd h2 h1,fun b o x l c h1 h2=>by(rw[h2]at h1;cases h1),hag,?_⟩;have e1:((c.toNat:Int).toNat).toUInt8=c:=by simp
 have hi:=Co c s
 rw[nw,e1];unfold BIG at hs;show AR w H γ [] (.one (.c (.d (.int .i64 (Lib.indexByte s c))))) (.int .i64 (Lib.indexByte s c))
 refine⟨fun _=>rfl,0,rfl,?_⟩;simp only[Lit.wf,WI,decide_eq_true_eq,show IntKind.i64.min=-9223372036854775808 from rfl,show IntKind.i64.max=9223372036854775807 from rfl];omega))
def Qh:CKt:=gY [.s,.s] [.s,.bo] (fun x=>Tu x.1 x.2)
theorem QU:Cont prog 254 Qh:=yE (iH (gp (fn:=f254) Z0 Z0 Z0) (fun x args w H γ _ hl ha hg hag=>by
 obtain⟨s,p⟩:=x;obtain⟨u,v,rfl,h1,h2⟩:=IK (x:=.one (.c (.d (.str s)))) (y:=.one (.c (.d (.str p)))) hl ha;obtain⟨rfl,hs⟩:=jh h1;have hs:List.length (α:=UInt8) s<=BIG:=hs
 obtain⟨rfl,hp⟩:=jh h2;refine(Tryz.strings_CutPrefix ⟨s.toArray⟩ ⟨p.toArray⟩ w).mono ?_;rintro e w' ⟨rfl,hw⟩
 rw[hw];refine⟨_,H,rfl,uo w,fun _ _ _ h=>h,fun b o h1 h2=>absurd h2 h1,fun b o x l c h1 h2=>by(rw[h2]at h1;cases h1),hag,_,rfl,?_⟩;rw[nw,nw];have hl:(Lib.trimPrefix s p).length<=BIG:=by
  unfold Lib.trimPrefix;split
  ·rw[Yo];omega
  ·exact hs
 show ARs w H γ [] [.c (.d (.str (Lib.trimPrefix s p))),.c (.d (.bool (Lib.hasPrefix s p)))] [_,_]
 exact⟨(tL hl:AR1 w H γ [] _ _),⟨fun _=>rfl,0,rfl⟩,trivial⟩))
def TS:CKt:=cY [.s,.s] [.s,.s,.bo] (fun x=>UO x.1 x.2) (fun x=>VF x.1 x.2)
theorem Uj:Cont prog 81 TS:=iH (gp (fn:=f81) Z0 Z0 Z0) (fun x args w H γ hpre hl ha hg hag=>by
 obtain⟨s,p⟩:=x;obtain⟨u,v,rfl,h1,h2⟩:=IK (x:=.one (.c (.d (.str s)))) (y:=.one (.c (.d (.str p)))) hl ha;obtain⟨rfl,hs⟩:=jh h1;have hs:List.length (α:=UInt8) s<=BIG:=hs
 obtain⟨rfl,hp⟩:=jh h2;have hpre:s.length < 4294967281:=hpre
 obtain⟨m,hm⟩:=x7 hg hag (k:=1) (by rfl);refine(Tryz.strings_Cut ⟨s.toArray⟩ ⟨p.toArray⟩ m w (by rw[pM];exact hpre) hm).mono ?_;rintro e w' ⟨rfl,n,rfl⟩
 refine⟨_,H,rfl,Bx _ _ _,fun _ _ _ h=>h,fun b o h1 h2=>absurd h2 h1,fun b o x l c h1 h2=>by(rw[h2]at h1;cases h1),hag,_,rfl,?_⟩;rw[nw,nw];have hl:(Lib.cut s p).1.length<=BIG/\(Lib.cut s p).2.1.length<=BIG:=by
  unfold Lib.cut;split
  ·refine⟨?_,?_⟩
   ·show(s.take _).length<=_;rw[Xk];omega
   ·show(s.drop _).length<=_;rw[Yo];omega
  ·exact⟨hs,by unfold BIG;simp⟩
 show ARs _ H γ [] [.c (.d (.str (Lib.cut s p).1)),.c (.d (.str (Lib.cut s p).2.1)),.c (.d (.bool (Lib.cut s p).2.2))] [_,_,_]
 exact⟨(tL hl.1:AR1 (w.drewN n) H γ [] _ _),(tL hl.2:AR1 (w.drewN n) H γ [] _ _),⟨fun _=>rfl,0,rfl⟩,trivial⟩)
theorem sS(p:ByteArray):∀(k:Nat)(s:ByteArray),∀x∈Lib.splitB p 0 k s,x.size<=s.size
 |0,s,x,hx=>by rw[Lib.splitB_zero,WU]at hx;rw[hx];exact WN _
 |k+1,s,x,hx=>by
  unfold Lib.splitB at hx;split at hx
  ·rw[WU]at hx;rw[hx];exact WN _
  ·rcases WR.1 hx with rfl|hx
   ·simp only[ByteArray.size_extract];omega
   ·have:=sS p k _ x hx
    simp only[ByteArray.size_extract]at this;omega
def My:CKt:=cY [.s,.s] [.sl .s] (fun x=>Ps x.1 x.2) (fun x=>zk x.1 x.2)
theorem NK:Cont prog 80 My:=iH (gp (fn:=f80) Z0 Z0 Z0) (fun x args w H γ hpre hl ha hg hag=>by
 obtain⟨s,p⟩:=x;obtain⟨u,v,rfl,h1,h2⟩:=IK (x:=.one (.c (.d (.str s)))) (y:=.one (.c (.d (.str p)))) hl ha;obtain⟨rfl,hs⟩:=jh h1;have hs:List.length (α:=UInt8) s<=BIG:=hs
 obtain⟨rfl,hp⟩:=jh h2;obtain⟨hpre,hp1⟩:s.length < 4294967281/\1<=p.length:=hpre;obtain⟨m,hm⟩:=x7 hg hag (k:=1) (by rfl);have hsz:=pM s
 refine(Tryz.strings_Split ⟨s.toArray⟩ ⟨p.toArray⟩ m w (by rw[hsz];exact hpre) hm (by rw[pM];exact hp1)).mono ?_;rintro e w' ⟨rfl,rfl⟩
 have hlen:=Lib.splitB_all ⟨p.toArray⟩ (by rw[pM];exact hp1) 0 _ ⟨s.toArray⟩ rfl
 have hle:=Lib.countB_le ⟨p.toArray⟩ (by rw[pM];exact hp1) _ ⟨s.toArray⟩ (WN _)
 have hsm:=sS ⟨p.toArray⟩ (Lib.countB ⟨s.toArray⟩ ⟨p.toArray⟩) ⟨s.toArray⟩
 have hG:zk s p=(Lib.splitB ⟨p.toArray⟩ 0 (Lib.countB ⟨s.toArray⟩ ⟨p.toArray⟩) ⟨s.toArray⟩).map (·.data.toList):=rfl
 generalize Lib.splitB ⟨p.toArray⟩ 0 (Lib.countB ⟨s.toArray⟩ ⟨p.toArray⟩) ⟨s.toArray⟩=L at hlen hsm hG⊢;rw[<- hlen];rw[hsz]at hle hsm;refine⟨_,fun b o=>if b=w.heap.size then((L.map Value.string).toArray[o]?).map HV.c else H b o,rfl,(Below.refl _ w).alloc (WN _) _,fun b o y h=>?_,fun b o h1 h2=>?_,fun b o x l c h1 h2=>?_,fun b o y h=>?_,fun _=>rfl,1,?_⟩
 ·have:=(hag b o y h).lt
  dsimp only;rw[if_neg Z1];exact h
 ·dsimp only at h1;split at h1
  ·omega
  ·exact absurd h2 h1
 ·dsimp only at h1;split at h1
  ·obtain⟨z,hz,e⟩:=WW.1 h1;obtain rfl:=HV.c.inj e;have h1:=Array.mem_of_getElem? hz
   simp at h1
  ·rw[h2]at h1;cases h1
 ·dsimp only at h;split at h
  ·rename_i hb;subst hb;obtain⟨z,hz,rfl⟩:=WW.1 h;show World.cell? _ _=some z
   rw[World.cell?_alloc_new];exact hz
  ·exact(hag b o y h).frame (bU (hag b o y h).lt)
 ·show FD _ 1 (.li ((zk s p).map (al .s))) _
  rw[hG,kh];unfold BIG at hs⊢;refine⟨_,_,by rw[WJ,WJ],by simp,by simp;omega,.inr ⟨w.heap.size,0,1,rfl,fun i hi=>?_⟩⟩;have hi:i<L.length:=by simpa using hi
  have e:((L.map (·.data.toList)).map (al .s)).getD i []=[.str L[i].data.toList]:=by
   rw[List.getD,WK,WK,WH hi];rfl
  rw[e];refine⟨rfl,fun j hj=>?_⟩;have hj:j=0:=by omega
  subst hj;refine⟨.string L[i],?_,?_⟩
  ·dsimp only;rw[if_pos rfl];simp[hi]
  ·refine⟨by simp,?_⟩;have:=hsm L[i] (Xj hi)
   show L[i].data.toList.length<=BIG
   unfold BIG;rw[<- Lib.size_eq];omega)
end Go.Am
end

section
namespace Go.Am
theorem Ny(i k:Nat):Nat.beq (i+100000) (k+100000)=Nat.beq i k:=by
 cases h:Nat.beq i k with
 |true=>have:=WS h;subst this;exact Yq _
 |false=>
  cases h2:Nat.beq (i+100000) (k+100000)with
  |false=>rfl
  |true=>
   have:=WS h2
   have:i=k:=by omega
   subst this;rw[Yq]at h;cases h
theorem CY(k:Nat)(t:List (Nat×Nat×At)):bJ (shT t) (k+100000)=bJ t k:=by
 induction t with
 |nil=>rfl
 |cons x r ih=>
  obtain⟨i,j,v⟩:=x;simp only[shT,bJ,Ny];cases Nat.beq i k with
  |true=>rfl
  |false=>exact ih
theorem CZ{k:Nat}(hk:k < 100000)(t:List (Nat×Nat×At)):bJ (shT t) k=none:=by
 induction t with
 |nil=>rfl
 |cons x r ih=>
  obtain⟨i,j,v⟩:=x;have:Nat.beq (i+100000) k=false:=by
   cases h:Nat.beq (i+100000) k with
   |false=>rfl
   |true=>have:=WS h;omega
  simp only[shT,bJ,this];exact ih
theorem C0(k:Nat)(t:List (Nat×Nat×At)):bJ (qH t) k=bJ t (k+100000):=by
 induction t with
 |nil=>rfl
 |cons x r ih=>
  obtain⟨i,j,v⟩:=x;simp only[qH,bJ];cases hb:Nat.ble 100000 i with
  |true=>
   have hi:100000<=i:=WT hb
   have e:Nat.beq (i - 100000) k=Nat.beq i (k+100000):=by
    have:=Ny (i - 100000) k
    rw[Nat.sub_add_cancel hi]at this;exact this.symm
   dsimp only;rw[bJ,e];cases Nat.beq i (k+100000)with
   |true=>rfl
   |false=>exact ih
  |false=>
   have hi:¬ 100000<=i:=fun h=>by rw[Nat.ble_eq_true_of_le h]at hb;cases hb
   have e:Nat.beq i (k+100000)=false:=by
    cases h:Nat.beq i (k+100000)with
    |false=>rfl
    |true=>have:=WS h;omega
   rw[e];exact ih
theorem rK{nx k:Nat}{b:List (Nat×Nat×At)}:∀{l:List At}{i:Nat},i+l.length<=k->bJ (ul nx i l++b) k=bJ b k
 |[],_,_=>rfl
 |v::r,i,h=>by
  have e:Nat.beq i k=false:=by
   cases h2:Nat.beq i k with
   |false=>rfl
   |true=>have:=WS h2;simp only[WL]at h;omega
  simp only[ul,Xu,bJ,e];exact rK (by simp only[WL]at h;omega)
theorem sJ{nx k:Nat}{b:List (Nat×Nat×At)}:∀{l:List At}{i:Nat}{v:At},i<=k->l[k-i]? = some v->bJ (ul nx i l++b) k=some (nx,v)
 |[],_,_,_,h=>by simp at h
 |v::r,i,x,hi,h=>by
  simp only[ul,Xu,bJ];rcases Nat.lt_or_eq_of_le hi with hlt|rfl
  ·have e:Nat.beq i k=false:=by
    cases h2:Nat.beq i k with
    |false=>rfl
    |true=>have:=WS h2;omega
   rw[e];refine sJ Z1 ?_;rw[show k-i=(k - (i+1))+1 from by omega]at h;simpa using h
  ·rw[Yq];simp only[Nat.sub_self,Xi,WG]at h;subst h;rfl
abbrev inS(s:St)(vs:List At):St:=⟨s.nx+1,ul s.nx 0 vs++shT s.t,s.m⟩
theorem TT{s s':St}{vs:List At}(hl:vs.length<=100000)(h:Ext (inS s vs) s'):Ext s ⟨s'.nx,qH s'.t,s'.m⟩:=by
 refine⟨Xo (Xt _) h.nx,fun k j v hk hj=>?_,fun n j r hk hj=>h.m n j r hk (Nat.lt_succ_of_lt hj)⟩;rw[C0]at hk;have:=h.t _ j v hk (Nat.lt_succ_of_lt hj)
 rw[show(inS s vs).t=ul s.nx 0 vs++shT s.t from rfl,rK Z1,CY]at this;exact this
theorem Cq{P:Program}{s s':St}{vs:List At}{res:List ResultVar}{k k':St->At->Prop}(hl:vs.length<=100000)(hk:∀s' v,Ext s s'->k s' v->k' s' v)(hE:Ext (inS s vs) s')(h:nZ P res k s'):nZ P res k' s':=by
 unfold nZ at h⊢;split at h
 ·exact hk _ _ (TT hl hE) h
 ·exact h.elim
section
variable {g:G} {a:Act} {w:World} {H:FH} {γ:Gam} {F:Nm->Fp}
theorem KY{nt:Nat}{ops:List Operand}{i:Nat}{x:Operand}(hx:ops[i]? = some x):((ops.map a.eval).toArray++Array.replicate (nt - (ops.map a.eval).toArray.size) undef).getD i undef=a.eval x:=by
 rw[Xf,XD (by simp;exact ah hx)];simp[hx]
theorem Qp{s:St}(hX:RX g s.toS a w H γ F){vs:List At}{ys:List Value}(hl:ys.length=vs.length)(hv:∀(i:Nat) (v:At) (y:Value),vs[i]? = some v->ys[i]? = some y->AR w H γ s.toS.m v.toV y){nt:Nat}(hle:vs.length<=nt)(hnt:nt<=100000) :
  RX ⟨nt,g.w0,g.H0,g.own0,g.out,some (g.tv a),[]⟩ (inS s vs).toS ⟨ys.toArray++Array.replicate (nt-ys.toArray.size) undef,[]⟩ w H γ F:=by
 have hsz:(ys.toArray++Array.replicate (nt-ys.toArray.size) undef).size=nt:=by simp;omega
 refine⟨hX.mem,hX.fr,hsz,⟨rfl,hX.df.2⟩,fun i=>?_⟩;rw[show aL (inS s vs).toS.t i=(gtA (ul s.nx 0 vs++shT s.t) i).toV from cj i _,iC];rcases W4 i vs.length with hi|hi
 ·rw[sJ (Xq i) (v:=vs[i]) (by rw[Yp];exact WH hi)];have hyi:i<ys.length:=by omega
  rw[G.tv_lt (by rw[hsz];omega)];have e:(ys.toArray++Array.replicate (nt-ys.toArray.size) undef).getD i undef=ys[i]:=by
   rw[Xf,XD (by simpa using hyi)];simp[hyi]
  rw[e];exact hv i _ _ (WH hi) (WH hyi)
 ·rw[rK Z1];rcases W4 i 100000 with hb|hb
  ·rw[CZ hb];trivial
  ·obtain⟨j,rfl⟩:∃j,i=j+100000:=⟨i - 100000,by omega⟩
   rw[CY,<- iC];have e:G.tv ⟨nt,g.w0,g.H0,g.own0,g.out,some (g.tv a),[]⟩ ⟨ys.toArray++Array.replicate (nt-ys.toArray.size) undef,[]⟩ (j+100000)=g.tv a j:=by
    unfold G.tv;dsimp only;rw[if_neg (by rw[hsz];unfold TB;omega)];unfold TB;rw[Yl]
   rw[e,<- cj];exact hX.t j
theorem TX{s:St}(hX:RX g s.toS a w H γ F){ops:List Operand}(hops:ops.all ax=true){nt:Nat}(hle:ops.length<=nt)(hnt:nt<=100000) :
  RX ⟨nt,g.w0,g.H0,g.own0,g.out,some (g.tv a),[]⟩ (inS s (ops.map (evA s))).toS ⟨(ops.map a.eval).toArray++Array.replicate (nt - (ops.map a.eval).toArray.size) undef,[]⟩ w H γ F:=by
 refine Qp hX (by simp) (fun i v y hv hy=>?_) (by simpa using hle) hnt;rw[WK]at hv hy;obtain⟨x,hx,rfl⟩:=WW.1 hv;rw[hx]at hy;obtain rfl:=Option.some.inj hy;have hop:=WY.1 hops x (W9 hx)
 have:=aA hX hop
 rw[af hop]at this;exact this
theorem Bf{s0:S}(hX:RX g s0 a w H γ F){nt:Nat}(hnt:nt<=100000){a':Act}{s':St}{w':World}{H':FH}{γ':Gam}{F':Nm->Fp}(h:RX ⟨nt,g.w0,g.H0,g.own0,g.out,some (g.tv a),[]⟩ s'.toS a' w' H' γ' F') :
  RX g (⟨s'.nx,qH s'.t,s'.m⟩:St).toS a w' H' γ' F':=by
 refine⟨h.mem,h.fr,hX.nt,⟨hX.df.1,h.df.2⟩,fun i=>?_⟩;rw[show aL (⟨s'.nx,qH s'.t,s'.m⟩:St).toS.t i=(gtA (qH s'.t) i).toV from cj i _,iC,C0,<- iC,<- cj];have:=h.t (i+100000)
 have e:G.tv ⟨nt,g.w0,g.H0,g.own0,g.out,some (g.tv a),[]⟩ a' (i+100000)=g.tv a i:=by
  have hs:a'.tmps.size=nt:=h.nt
  unfold G.tv;dsimp only;rw[if_neg (by rw[hs];unfold TB;omega)];unfold TB;rw[Yl]
 rw[e]at this;exact this
theorem OY{P:Program}{m:List (Nm×Nat×Rt)}{t:TypeId}{x:At}{v:A1}(h:OX P m t x=some v):iU P m t x (fun w=>w=.one v):=by
 unfold OX at h;unfold iU;split at h
 ·rename_i p hok;rw[hok];dsimp only;split at h
  ·rename_i ha;rw[ha];dsimp only;split at h
   ·rename_i ts hts;rw[hts];exact congrArg At.one (Option.some.inj h)
   ·cases h
  ·rename_i ha;rw[ha];dsimp only;split at h
   ·rename_i t' ht;rw[ht];exact congrArg At.one (Option.some.inj h)
   ·cases h
 ·cases h
theorem Ad{P:Program}{s:St}(h:RX g s.toS a w H γ F):∀{rs:List ResultVar}{xs:List A1},Dv P s rs=some xs->∃ys,(rs.mapM (jb a.tmps)).run P w=.ok ys w/\ARs w H γ (toM s.m) (xs.map A1.toV) ys/\ys.length=rs.length/\xs.length=rs.length
 |[],xs,e=>by
  simp only[Dv,WG]at e;subst e;exact⟨[],rfl,trivial,rfl,rfl⟩
 |.tmp t::r,xs,e=>by
  simp only[Dv]at e;split at e
  ·rename_i x xs' h1 h2 h3;simp only[WG]at e;subst e;obtain⟨ys,k1,k2,k3,k4⟩:=Ad (P:=P) h h2;have ht:=h.t t
   rw[show aL s.toS.t t=(gtA s.t t).toV from cj t s.t,h1,G.tv_lo (show t<TB from WT h3)]at ht;have k1':((r.mapM (jb a.tmps)).run P w)=.ok ys w:=k1
   refine⟨a.tmps.getD t undef::ys,?_,⟨ht,k2⟩,by simp[k3],by simp[k4]⟩;simp[List.mapM_cons,jb,k1']
  ·cases e
 |.cell c t::r,xs,e=>by
  simp only[Dv]at e;split at e
  ·rename_i x xs' h1 h2 h3;simp only[WG]at e;subst e;obtain⟨ys,k1,k2,k3,k4⟩:=Ad (P:=P) h h2;have ht:=h.t c
   rw[show aL s.toS.t c=(gtA s.t c).toV from cj c s.t,G.tv_lo (show c<TB from WT h3)]at ht;have hl:iU P s.m t (gtA s.t c) (fun v=>v=.one x):=OY h1
   obtain⟨z,d,B,_,e1,e2,v',rfl,rfl⟩:=vh (P:=P) h.mem (vi (fun q hq=>by
    rw[hq]at ht;exact F6 ht.2.1) hl) ht
   replace e1:=e1 w (fun _ _=>rfl)
   have k1':((r.mapM (jb a.tmps)).run P w)=.ok ys w:=k1
   have hrun:(jb a.tmps (.cell c t)).run P w=.ok z w:=by
    simp only[jb];simp only[Instr.loadAt]at e1;generalize a.tmps.getD c undef=u at e1;cases u with
    |pointer ad=>
     cases ad with
     |some ad=>simpa[asAddr,Instr.sureAddr]using e1
     |none=>simp[Instr.sureAddr]at e1
    |_=>simp[Instr.sureAddr]at e1
   refine⟨z::ys,?_,⟨e2,k2⟩,by simp[k3],by simp[k4]⟩;simp[List.mapM_cons,hrun,k1',Sem.run_bind,Result.andThen]
  ·cases e
theorem RA{P:Program}{fn:Func}{s:St}{k:St->At->Prop}(h:RX g s.toS a w H γ F)(hk:nZ P fn.results.toList k s) :
  ∃y v,(results fn a.tmps).run P w=.ok y w/\AR w H γ (toM s.m) v.toV y/\k ⟨s.nx,qH s.t,s.m⟩ v:=by
 unfold nZ at hk;split at hk
 ·rename_i xs hx;obtain⟨ys,k1,k2,k3,k4⟩:=Ad (P:=P) h hx;have hrun:(results fn a.tmps).run P w=.ok (if h:ys.toArray.size=1 then ys.toArray[0]else .tuple ys.toArray) w:=by
   rw[gc,Ya];simp[k1]
  refine⟨_,_,hrun,?_,hk⟩
  match xs,ys,k2 with
  |[],[],_=>exact⟨#[],by simp,trivial⟩
  |[x],[y],k2=>exact k2.1
  |x1::x2::xs,y1::y2::ys,k2=>exact⟨(y1::y2::ys).toArray,by simp,by simpa using k2⟩
 ·exact hk.elim
end
theorem Gu{P:Program}{f:Nat}{fn:Func}(hf:P.funcs[f]? = some fn) (hname:(fn.name == "runtime.NumGoroutine")=false) (hb:fn.body.isSome=true):∀args w,(callFunc f args).run P w=.ok (.enter f args) w:=by
 intro args w;have h1:fn.name ≠ "runtime.NumGoroutine" := by simpa using hname
 obtain⟨c,h⟩:=Option.isSome_iff_exists.1 hb;simp[callFunc,hf,h1,h]
theorem AC{e:En}(he:e.ok)(hm:e.P.follows .mixedOrders=true){f:Nat}{fn:Func}(hf:e.P.funcs[f]? = some fn) (hname:(fn.name == "runtime.NumGoroutine")=false) (hb:fn.body.isSome=true) {an:An}
  (hc:fw fn.ntmps (fn.body.getD .skip)=true) (hnt:Nat.ble fn.ntmps 100000=true):Cont e.P f (E9 e fn an):=by
 have hb':fn.body=some (fn.body.getD .skip):=by cases h:fn.body with
  |none=>rw[h]at hb;cases hb
  |some c=>rfl
 have hnt':=WT hnt
 refine⟨Gu hf hname hb,fun pk s ops k k' hk hcc=>?_,fun g pk s a w H γ F ops k hX hops hcc=>?_⟩
 ·unfold E9 at hcc⊢;split at hcc
  ·rename_i hle;have hl:(ops.map (evA s)).length<=100000:=by rw[WJ];exact Xo (WT hle) hnt'
   exact Aq (e:=⟨e.P,e.E,e.cs,e.sh,fun v s=>pk v ⟨s.nx,qH s.t,s.m⟩⟩) he _ an _ ⟨nZ e.P fn.results.toList k,fun _ _=>False,nZ e.P fn.results.toList k⟩ ⟨nZ e.P fn.results.toList k',fun _ _=>False,nZ e.P fn.results.toList k'⟩ (fun s' hE h=>Cq hl hk hE h) (fun _ _ _ h=>h) (fun s' hE h=>Cq hl hk hE h) hcc
  ·exact hcc.elim
 ·unfold E9 at hcc;split at hcc
  ·rename_i hle;have hle':=WT hle
   refine calls_of_wp hf hb' (Code.wp_mono (fun x a' w' hl=>?_) (lf (e:=⟨e.P,e.E,e.cs,e.sh,fun v s=>pk v ⟨s.nx,qH s.t,s.m⟩⟩) he hm (g:=⟨fn.ntmps,g.w0,g.H0,g.own0,g.out,some (g.tv a),[]⟩) _ an _ _ hc hcc _ w ⟨H,γ,F,TX hX hops hle' hnt'⟩));obtain⟨s',hq,H',γ',F',hX'⟩:=hl;have fin:∀t:St,s'=t.toS->nZ e.P fn.results.toList k t->a'.defers=[]/\∃v,(results fn a'.tmps).run e.P w'=.ok v w'/\gF g a pk k (.returned v) w':=by
    rintro t rfl ht
    obtain⟨y,v,k1,k2,k3⟩:=RA (P:=e.P) hX' ht;exact⟨hX'.df.1,y,k1,.inl ⟨y,_,v,H',γ',F',rfl,k3,k2,Bf hX hnt' hX'⟩⟩
   cases x with
   |normal=>obtain⟨t,e1,ht⟩:=hq;exact fin t e1 ht
   |ret=>obtain⟨t,e1,ht⟩:=hq;exact fin t e1 ht
   |exit i=>obtain⟨t,e1,ht⟩:=hq;exact ht.elim
   |panic c=>
    obtain⟨v,t,rfl,rfl,hv⟩:=hq;exact⟨hX'.df.1,.inr ⟨v,_,rfl,hv,H',γ',F',Bf hX hnt' hX'⟩⟩
   |_=>exact hq.elim
  ·exact hcc.elim
theorem MD{P:Program}{f t:Nat}{C D:CKt}(h1:Cont P f C)(h2:Cont P f D):Cont P f (SF t C D):=by
 refine⟨h1.run,fun pk s ops k k' hk hc=>?_,fun g pk s a w H γ F ops k hX hops hc=>?_⟩
 ·unfold SF at hc⊢;split at hc
  ·split at hc
   ·exact h1.ext pk s _ k k' hk hc
   ·exact h2.ext pk s _ k k' hk hc
  ·exact h2.ext pk s _ k k' hk hc
 ·unfold SF at hc;split at hc
  ·split at hc
   ·exact h1.call g pk s a w H γ F _ k hX hops hc
   ·exact h2.call g pk s a w H γ F _ k hX hops hc
  ·exact h2.call g pk s a w H γ F _ k hX hops hc
section
variable {g:G} {s1:S} {a:Act} {w:World} {H1:FH} {γ:Gam} {F1:Nm->Fp}
theorem Qm(h1:RX g s1 a w H1 γ F1){w':World}{H2:FH}{tt:Fp}(hfr:Fr w H1 (fun _=>0) w' H2 tt)(hag:∀b o y,H2 b o=some y->RdV w' b o y):RX g s1 a w' H2 γ F1:=by
 have hold:∀b,b<w.heap.size->w'.heap[b]? = w.heap[b]? := fun b hb=>hfr.block b hb rfl
 have hnew:∀b,b<w.heap.size->H1 b=H2 b:=by
  intro b hb
  funext o
  cases hc:H1 b o with
  |some y=>rw[hfr.hold b o y hc]
  |none=>
   cases hc2:H2 b o with
   |none=>rfl
   |some y=>
    rcases hfr.hnew b o (by rw[hc2];simp) hc with h'|h'
    ·exact absurd rfl h'
    ·omega
 have hsame:∀b,tot F1 s1.m b≠0->w'.heap[b]? = w.heap[b]? := fun b hb=>hold b (h1.mem.lt b hb)
 have hKp:=cD (w':=w') h1.mem hsame
 have hmem:Mem w' H2 γ s1.m F1:=by
  refine⟨hag,fun x hx=>aN hKp hfr.hold rfl (fun b hb=>hsame b (by have:=aW (F:=F1) hx b;omega)) (h1.mem.roots x hx),h1.mem.keys,h1.mem.le1,fun b hb=>by have:=h1.mem.lt b hb;have:=hfr.size;omega,fun b hb o=>?_⟩;rw[<- hnew b (h1.mem.lt b hb)];exact h1.mem.nofz b hb o
 have hFr:Fr w H1 (tot F1 s1.m) w' H2 (tot F1 s1.m):=
  ⟨hfr.size,hfr.os,hfr.tape,hfr.output,fun b hb _=>hold b hb,hfr.hold,fun b o h2 h3=>by
   right
   rcases W4 b w.heap.size with h'|h'
   ·rw[<- hnew b h']at h2;exact absurd h3 h2
   ·exact h',fun b hb=>.inl hb,hfr.nz⟩
 exact fp h1 hmem hFr (fun i=>bV hKp hfr.hold (h1.t i)) (fun _=>rfl)
theorem M7{s1:St}(h1:RX g s1.toS a w H1 γ F1){ops:List Operand}(hops:ops.all ax=true){ps:List U}{x:Fl ps}(hx:bC ps (ops.map (evA s1))=some x){nt:Nat}(hle:ops.length<=nt) :
  RX ⟨nt,w,H1,fun _=>0,fun _=>none,none,[]⟩ ⟨bv 0 (eL ps x),[]⟩ ⟨(ops.map a.eval).toArray++Array.replicate (nt - (ops.map a.eval).toArray.size) undef,[]⟩ w H1 γ F1:=by
 obtain⟨c1,c2,c3⟩:=dl hx;refine⟨⟨h1.mem.agree,fun x hx=>by simp at hx,by simp,fun b=>Xq _,fun b hb=>absurd rfl hb,fun b hb=>absurd rfl hb⟩,⟨WN _,rfl,rfl,rfl,fun _ _ _=>rfl,fun _ _ _ h=>h,fun b o h2 h3=>absurd h3 h2,fun b hb=>absurd rfl hb,jE⟩,?_,⟨rfl,fun j b e=>by simp at e,ea h1⟩,fun i=>?_⟩
 ·simp;omega
 ·show AR w H1 γ [] (aL (bv 0 (eL ps x)) i) (Array.getD _ i undef)
  rw[<- c3,dF];simp only[Xq,if_true,Yp,WK];cases hi:ops[i]? with
  |none=>simp only[X3,Yh];trivial
  |some y=>
   have hop:=WY.1 hops y (W9 hi)
   have hy:=aA h1 hop
   rw[af hop]at hy;simp only[Option.map_some,Xb];have hz:(evA s1 y).toV.isFz=true:=by
    refine WY.1 c2 _ (Xg (Xg (W9 hi)))
   rw[KY hi];exact dW ct (l7 (fun _ _ _ h=>h) hz hy)
end
section
variable {g:G} {s1:S} {a:Act} {w:World} {H1:FH} {γ:Gam} {F1:Nm->Fp}
theorem Gj{j:Nat}(h1:RX g s1 a w H1 γ F1){o:Operand}{os:List Operand}{r:Nm}{cells:List T}(hops':ax o=true/\os.all ax=true)(heo:ev s1 o=.one (.c (.pl ⟨r,0,[]⟩)))(hroot:ab s1.m r=some ⟨true,cells⟩)
  (htyd:(Nm.out j).tyd=r.tyd) (hself:cells.all (T.self r)=true) (hfz:(os.map (ev s1)).all AV.isFz=true) {nt:Nat} (hle:os.length+1<=nt) :
  ∃b γc,γ r=.blk b/\RX ⟨nt,w,H1,F1 r,fun i=>if i=j then some b else none,none,[]⟩ ⟨bv 0 (.one (.c (.pl ⟨.out j,0,[]⟩))::os.map fun x=>(ev s1 x).map T.canon),[(.out j,⟨true,cells.map (T.ren r (.out j))⟩)]⟩
   ⟨((o::os).map a.eval).toArray++Array.replicate (nt - ((o::os).map a.eval).toArray.size) undef,[]⟩ w H1 γc (fun _=>F1 r):=by
 have hevo:=aA h1 hops'.1
 rw[heo]at hevo;obtain⟨_,hokp,ad,had,hval⟩:=hevo;have hR:=h1.mem.roots _ (ae hroot)
 obtain⟨b,hγr⟩:∃b,γ r=.blk b:=by
  have hR2:=hR
  unfold a8 at hR2;rw[if_pos rfl]at hR2;obtain⟨b,_,_,_,_,e,_⟩:=hR2;exact⟨b,e⟩
 have had':ad=⟨b,0,none⟩:=by
  simp only[plA,hγr,WG]at had;exact had.symm
 subst had';have hoff:0<cells.length:=by
  rw[ap]at hokp;obtain⟨r0,q1,q2⟩:=hokp;dsimp only at q1;rw[hroot]at q1;obtain rfl:=Option.some.inj q1;exact q2
 let γc:Gam:=fun n=>if n=.out j then .blk b else γ n
 let mc:Mm:=[(.out j,⟨true,cells.map (T.ren r (.out j))⟩)]
 let g1:G:=⟨nt,w,H1,F1 r,fun i=>if i=j then some b else none,none,[]⟩
 have hγc:γc (.out j)=.blk b:=by simp[γc]
 have hRc:a8 w H1 γc mc (.out j) ⟨true,cells.map (T.ren r (.out j))⟩ (F1 r):=
  qW hR htyd hself hγr hroot hγc ⟨cells.map (T.ren r (.out j)),by simp[mc,ab],by simp⟩
 have hge:∀c,F1 r c<=tot F1 s1.m c:=fun c=>aW (F:=F1) (ae hroot) c
 let Fc:Nm->Fp:=fun _=>F1 r
 have htc:∀c,tot Fc mc c=F1 r c:=fun c=>(Yn (F1 r c))
 have hmc:Mem w H1 γc mc Fc:=by
  refine⟨h1.mem.agree,fun x hx=>?_,by simp[mc],fun c=>by rw[htc];exact Xo (hge c) (h1.mem.le1 c),fun c hc=>by rw[htc]at hc;exact h1.mem.lt c (by have:=hge c;omega),fun c hc=>by rw[htc]at hc;exact h1.mem.nofz c (by have:=hge c;omega)⟩;simp only[mc,WU]at hx;subst hx;exact hRc
 refine⟨b,γc,hγr,?_⟩;refine⟨hmc,⟨WN _,rfl,rfl,rfl,fun _ _ _=>rfl,fun _ _ _ h=>h,fun b o h2 h3=>absurd h3 h2,fun c hc=>.inl (by rw[htc]at hc;exact hc),jE⟩,?_,⟨rfl,fun i b' e=>?_,ea h1⟩,fun i=>?_⟩
 ·simp[g1];omega
 ·simp only[g1]at e;split at e
  ·rename_i hj;subst hj;simp only[WG]at e;subst e;exact hγc
  ·simp at e
 ·have hget:∀x,(o::os)[i]? = some x->(((o::os).map a.eval).toArray++Array.replicate (nt - ((o::os).map a.eval).toArray.size) undef).getD i undef=a.eval x:=by
   intro x hx;rw[Xf,XD (by simp;have:=ah hx;simp at this;omega)];have e:((o::os).map a.eval)[i]? = some (a.eval x):=by rw[WK,hx];rfl
   rw[List.getElem?_toArray,e];rfl
  cases i with
  |zero=>
   rw[G.tv_none rfl,hget o rfl,hval];simp only[bv,aL,if_true];refine⟨fun _=>rfl,?_,⟨b,0,none⟩,?_,rfl⟩
   ·rw[ap];refine⟨⟨true,cells.map (T.ren r (.out j))⟩,by simp[mc,ab],?_⟩;show 0 < (cells.map (T.ren r (.out j))).length
    simpa using hoff
   ·simp only[plA,hγc]
  |succ i=>
   have hent:aL (bv 0 (.one (.c (.pl ⟨.out j,0,[]⟩))::os.map fun x=>(ev s1 x).map T.canon)) (i+1)=((os.map fun x=>(ev s1 x).map T.canon)[i]?).getD .any:=by
    simp only[bv,aL];rw[if_neg Z1];rw[dF];simp
   show AR w H1 γc mc (aL (bv 0 (.one (.c (.pl ⟨.out j,0,[]⟩))::os.map fun x=>(ev s1 x).map T.canon)) (i+1)) _
   rw[hent,WK];cases hi:os[i]? with
   |none=>simp only[X3,Yh];trivial
   |some x=>
    have hx:=aA h1 (WY.1 hops'.2 x (W9 hi))
    simp only[Option.map_some,Xb];have hz:(ev s1 x).isFz=true:=WY.1 hfz (ev s1 x) (Xg (W9 hi))
    rw[G.tv_none rfl,hget x (by simpa using hi)];exact dW ct (l7 (fun _ _ _ h=>h) hz hx)
theorem LW{j:Nat}(h1:RX g s1 a w H1 γ F1){r:Nm}{cells:List T}(hroot:ab s1.m r=some ⟨true,cells⟩)(htyd:(Nm.out j).tyd=r.tyd){b:Nat}(hγr:γ r=.blk b){nt:Nat}{s2:S}{a':Act}{w':World}{H2:FH}{γ':Gam}{F2:Nm->Fp}
  (e2:RX ⟨nt,w,H1,F1 r,fun i=>if i=j then some b else none,none,[]⟩ s2 a' w' H2 γ' F2) {cells':List T} (hout:ab s2.m (.out j)=some ⟨true,cells'⟩) (hl2:cells'.length=cells.length) (hs2:cells'.all (T.self (.out j))=true) :
  ∃F3,RX g ⟨kG (jR r) s1.t,(r,⟨true,cells'.map (T.ren (.out j) r)⟩)::aC (jR r) (bz s1.m r)⟩ a w' H2 γ F3:=by
 have hge:∀c,F1 r c<=tot F1 s1.m c:=fun c=>aW (F:=F1) (ae hroot) c
 have hfr:=e2.fr
 dsimp only at hfr;have hd:=pE h1 r
 have hmdm:(s1.drop r).m=aC (aX r) (bz s1.m r):=rfl
 have hdm:=hd.mem
 rw[hmdm]at hdm;generalize hmd0:aC (aX r) (bz s1.m r)=md at hdm;have tdel:∀c,tot F1 md c+F1 r c=tot F1 s1.m c:=fun c=>by
  rw[<- hmd0,aV];exact jO hroot c
 have hsame:∀c,tot F1 md c≠0->w'.heap[c]? = w.heap[c]? := fun c hc=>
  hfr.block c (h1.mem.lt c (by have:=tdel c;omega)) (by have:=tdel c;have:=h1.mem.le1 c;omega)
 have hnewc:∀c,c<w.heap.size->F1 r c=0->H1 c=H2 c:=by
  intro c hc h0
  funext o
  cases hh:H1 c o with
  |some y=>rw[hfr.hold c o y hh]
  |none=>
   cases hh2:H2 c o with
   |none=>rfl
   |some y=>
    rcases hfr.hnew c o (by rw[hh2];simp) hh with h'|h'
    ·exact absurd h0 h'
    ·omega
 have hKp:=cD (w':=w') hdm hsame
 have hmd:Mem w' H2 γ md F1:=by
  refine⟨e2.mem.agree,fun x hx=>aN hKp hfr.hold rfl (fun c hc=>hsame c (by have:=aW (F:=F1) hx c;omega)) (hdm.roots x hx),hdm.keys,hdm.le1,fun c hc=>by have:=hdm.lt c hc;have:=hfr.size;omega,fun c hc o=>?_⟩;rw[<- hnewc c (hdm.lt c hc) (by have:=tdel c;have:=h1.mem.le1 c;omega)];exact hdm.nofz c hc o
 have hRout:=e2.mem.roots _ (ae hout)
 have hγ':γ' (.out j)=.blk b:=e2.df.2.1 j b (by simp)
 have hnone:ab md r=none:=by rw[<- hmd0];exact Ci h1.mem.keys
 have hupd:upd γ r (.blk b)=γ:=by
  funext n
  by_cases hn:n=r
  ·subst hn;rw[cQ,hγr]
  ·rw[jd hn]
 have hRr:a8 w' H2 (upd γ r (.blk b)) ((r,⟨true,cells'.map (T.ren (.out j) r)⟩)::md) r ⟨true,cells'.map (T.ren (.out j) r)⟩ (F2 (.out j)):=
  qW hRout htyd.symm hs2 hγ' hout cQ ⟨cells'.map (T.ren (.out j) r),by simp only[ab,if_true],by simp⟩
 have hf1:∀c,F2 (.out j) c<=tot F2 s2.m c:=fun c=>aW (F:=F2) (ae hout) c
 have hf2:∀c,F2 (.out j) c≠0->F1 r c≠0\/w.heap.size<=c:=fun c hc=>hfr.tt c (by have:=hf1 c;omega)
 have hmd0':∀c,F2 (.out j) c≠0->tot F1 md c=0:=fun c hc=>by
  rcases hf2 c hc with h'|h'
  ·have:=tdel c;have:=h1.mem.le1 c;omega
  ·rcases W7 (tot F1 md c)with h0|h0
   ·exact h0
   ·have:=hdm.lt c Z1;omega
 obtain⟨hM,htot⟩:=tf hmd (n:=r) (rc:=.blk b) (r:=⟨true,cells'.map (T.ren (.out j) r)⟩) (f:=F2 (.out j)) hnone hRr (fun c=>by
   by_cases hc:F2 (.out j) c=0
   ·have:=hdm.le1 c;omega
   ·have:=hmd0' c hc;have:=e2.mem.le1 c;have:=hf1 c;omega)
  (fun c hc=>⟨e2.mem.lt c (by have:=hf1 c;omega),e2.mem.nofz c (by have:=hf1 c;omega)⟩)
 rw[hupd]at hM;have hFr:Fr w H1 (tot F1 s1.m) w' H2 (tot (upd F1 r (F2 (.out j))) ((r,⟨true,cells'.map (T.ren (.out j) r)⟩)::md)):=by
  refine⟨hfr.size,hfr.os,hfr.tape,hfr.output,fun c hc h0=>hfr.block c hc (by have:=hge c;omega),hfr.hold,fun c o h2 h3=>?_,fun c hc=>?_,hfr.nz⟩
  ·rcases hfr.hnew c o h2 h3 with h'|h'
   ·exact .inl (by have:=hge c;omega)
   ·exact .inr h'
  ·rw[htot]at hc;by_cases h0:F2 (.out j) c=0
   ·exact .inl (by have:=tdel c;omega)
   ·rcases hf2 c h0 with h'|h'
    ·exact .inl (by have:=hge c;omega)
    ·exact .inr h'
 have hKB:KeepsB (jR r) w γ s1.m w' γ ((r,⟨true,cells'.map (T.ren (.out j) r)⟩)::md):=by
  have hKa:=kj (w:=w') (γ:=γ) (rc:=.blk b) (r:=⟨true,cells'.map (T.ren (.out j) r)⟩) hnone
  rw[hupd]at hKa;have hKd:KeepsB (aX r) w γ s1.m w γ md:=by rw[<- hmd0];exact cZ
  constructor
  ·intro q hbq hq;by_cases hqr:q.root=r
   ·obtain⟨qr,qo,qp⟩:=q;dsimp only at hqr;subst hqr;simp only[jR,decide_true,Xn,XG,Bool.not_eq_false',List.isEmpty_iff]at hbq;subst hbq;refine⟨?_,by simp only[plA]⟩;rw[ap]at hq⊢;obtain⟨r0,q1,q2⟩:=hq;dsimp only at q1 q2;rw[hroot]at q1;obtain rfl:=Option.some.inj q1;refine⟨⟨true,cells'.map (T.ren (.out j) qr)⟩,by simp only[ab,if_true],?_⟩;have q2':qo<cells.length:=q2
    show qo < (cells'.map (T.ren (.out j) qr)).length
    simp;omega
   ·obtain⟨k1,k2⟩:=hKd.pl q (by simp[aX,hqr]) hq;obtain⟨k3,k4⟩:=hKp.pl q k1;obtain⟨k5,k6⟩:=hKa.pl q k3;exact⟨k5,k6.trans (k4.trans k2)⟩
  ·intro q hbq hq;have hqr:q.root≠r:=by
    intro e;simp[jR,e]at hbq
   obtain⟨k1,k2⟩:=hKd.rf q (by simp[aX,hqr]) hq;obtain⟨k3,k4⟩:=hKp.rf q k1;obtain⟨k5,k6⟩:=hKa.rf q k3;exact⟨k5,k6.trans (k4.trans k2)⟩
 have hmem2:ab ((r,(⟨true,cells'.map (T.ren (.out j) r)⟩:Root))::aC (jR r) (bz s1.m r)) r=some ⟨true,cells'.map (T.ren (.out j) r)⟩:=by simp only[ab,if_true]
 have hKB2:KeepsB (jR r) w γ s1.m w' γ ((r,⟨true,cells'.map (T.ren (.out j) r)⟩)::aC (jR r) (bz s1.m r)):=by
  constructor
  ·intro q hbq hq;refine⟨?_,(hKB.pl q hbq hq).2⟩;by_cases hqr:q.root=r
   ·have h:=(hKB.pl q hbq hq).1
    rw[ap]at h⊢;obtain⟨r0,q1,q2⟩:=h;refine⟨r0,?_,q2⟩;rw[hqr]at q1⊢;simpa only[ab,if_true]using q1
   ·have h2:bD (aC (jR r) (bz s1.m r)) q:=oZ (by rw[ap]at hq⊢;rw[iB hqr];exact hq)
    rw[ap]at h2⊢;obtain⟨r0,q1,q2⟩:=h2;exact⟨r0,by simp only[ab];rw[if_neg (fun e=>hqr e.symm)];exact q1,q2⟩
  ·intro q hbq hq;have hqr:q.root≠r:=by
    intro e;simp[jR,e]at hbq
   refine⟨?_,(hKB.rf q hbq hq).2⟩;have h2:fh (aC (jR r) (bz s1.m r)) q:=o5 (by unfold fh at hq⊢;rw[iB hqr];exact hq)
   unfold fh at h2⊢;simp only[ab];rw[if_neg (fun e=>hqr e.symm)];exact h2
 have ht2:∀Fu:Nm->Fp,tot Fu ((r,(⟨true,cells'.map (T.ren (.out j) r)⟩:Root))::aC (jR r) (bz s1.m r))=tot Fu ((r,⟨true,cells'.map (T.ren (.out j) r)⟩)::md):=fun Fu=>by
  funext c
  rw[be,be,<- hmd0,aV,aV]
 have hM2:Mem w' H2 γ ((r,⟨true,cells'.map (T.ren (.out j) r)⟩)::aC (jR r) (bz s1.m r)) (upd F1 r (F2 (.out j))):=by
  refine⟨hM.agree,fun x hx=>?_,?_,fun b=>by rw[ht2];exact hM.le1 b,fun b hb=>hM.lt b (by rwa [ht2]at hb),fun b hb=>hM.nofz b (by rwa [ht2]at hb)⟩
  ·rcases WR.1 hx with rfl|hx
   ·dsimp only;rw[cQ];exact qW hRout htyd.symm hs2 hγ' hout hγr ⟨_,hmem2,by simp⟩
   ·simp only[aC,Xa]at hx;obtain⟨x0,hx0,rfl⟩:=hx;dsimp only;have hne:x0.1≠r:=fun e=>nM (n:=r) h1.mem.keys (by have:=Xg (f:=(·.1)) hx0;rw[e]at this;exact this)
    rw[jd hne];refine oI hKB2 hfr.hold rfl (fun c hc=>hsame c ?_) (h1.mem.roots x0 (vn hx0));have:=aW (F:=F1) hx0 c
    rw[<- hmd0,aV];omega
  ·have:=hM.keys
   rw[<- hmd0]at this;simpa only[List.map_cons,lJ]using this
 refine⟨_,fp h1 hM2 (by rw[ht2];exact hFr) (fun i=>?_) (fun _=>rfl)⟩;rw[lE];exact pq hKB2 hfr.hold (h1.t i)
end
theorem Ea{e:En}(he:e.ok)(hm:e.P.follows .mixedOrders=true){f:Nat}{fn:Func}(hf:e.P.funcs[f]? = some fn) (hname:(fn.name == "runtime.NumGoroutine")=false) (hb:fn.body.isSome=true) {an:An} {sh:List Sh} {u:U} {ps rs:List U}
  (hlen:Nat.ble (ps.length+1) fn.ntmps=true) (hc:fw fn.ntmps (fn.body.getD .skip)=true):Cont e.P f (ym e fn an sh u ps rs):=by
 have hb':fn.body=some (fn.body.getD .skip):=by cases h:fn.body with
  |none=>rw[h]at hb;cases hb
  |some c=>rfl
 refine⟨Gu hf hname hb,fun pk s ops k k' hk hcc=>?_,fun g pk s a w H γ F1 ops k hX hops hcc=>?_⟩
 ·unfold ym at hcc⊢;split at hcc
  ·exact hcc.elim
  ·dsimp only at hcc⊢;split at hcc
   ·split at hcc
    ·split at hcc
     ·split at hcc
      ·split at hcc
       ·obtain⟨KK,KP,b1,b2,b3⟩:=hcc;refine⟨KK,KP,b1,fun z x' hz=>hk _ _ ?_ (b2 z x' hz),b3⟩;exact((bN _ _).trans (dv _ _ _ _ _)).trans ⟨Xt _,fM (WN _),((l9 _).trans (dt (WN _))).trans (kg _ _ _ (WN _))⟩
       ·exact hcc.elim
      ·exact hcc.elim
     ·exact hcc.elim
    ·exact hcc.elim
   ·exact hcc.elim
 ·unfold ym at hcc;cases ops with
  |nil=>exact hcc.elim
  |cons o os=>
   dsimp only at hcc;have hops':ax o=true/\os.all ax=true:=by simpa using hops
   obtain⟨H1,F2,h1⟩:=cE (os.map (evA s)) s H F1 hX;generalize bw s (os.map (evA s))=s1 at hcc h1;split at hcc
   ·rename_i r hro;obtain⟨H2,γ2,F3,h2⟩:=cT (g:=g) r (gU u) sh 0 (Ni h1);generalize bm s1 r (gU u) sh 0=s2 at hcc h2;split at hcc
    ·rename_i r' hev2;split at hcc
     ·rename_i cells hdr hty hroot;have hr':r'=r:=by simpa using hdr
      subst hr';split at hcc
      ·rename_i ts hts;split at hcc
       ·rename_i x y hx hy;have hn2:=d9 h2
        obtain⟨c1,c2,c3⟩:=dl hy;obtain⟨k1,_⟩:=tF hts (lu hx);have hrootS:ab s2.toS.m r'=some ⟨true,cells.map Tt.toT⟩:=by
         have:=aR hroot
         exact this
        have hlen2:os.length=ps.length:=by
         have:=congrArg List.length c3
         rw[cV]at this;simpa using this
        obtain⟨b,γc,hγr,hent⟩:=Gj (j:=0) h2 hops' (by rw[af hops'.1,hev2];rfl) hrootS (by rw[hty];rfl) (oM hts).1 (by rw[dR hops'.2];exact c2) (nt:=fn.ntmps) (by rw[hlen2];exact WT hlen);have hent2:=xE hent (.out 0)
        have e0:(⟨1,(0,0,.one (.c (.pl ⟨.out 0,0,[]⟩)))::wF 1 ps y,[(.out 0,0,⟨true,bh sh (flat u x),none⟩)]⟩:St).toS=⟨bv 0 (.one (.c (.pl ⟨.out 0,0,[]⟩))::os.map fun x=>(ev s2.toS x).map T.canon),[(Nm.out 0,(⟨true,(cells.map Tt.toT).map (T.ren r' (.out 0))⟩:Root))].map fun x=>(x.1,if x.1=.out 0 then jX x.2 else x.2)⟩:=by
         have e1:(os.map fun x=>(ev s2.toS x).map T.canon)=eL ps y:=by
          have e:(os.map fun x=>(ev s2.toS x).map T.canon)=(os.map (ev s2.toS)).map (AV.map T.canon):=by rw[WZ];rfl
          rw[e,dR hops'.2];exact c3
         rw[e1];refine bb.S_ext ?_ ?_
         ·simp only[St.toS,List.map_cons,bv,iN];rfl
         ·rw[(oM hts).2];simp only[St.toS,List.map_cons,List.map_nil,if_true,Rt.toR,holed,jX,k1]
        rw[<- e0]at hent2;obtain⟨KK,KP,h,hkk,hkp⟩:=hcc;have back:∀{s':S}{a':Act}{w':World}{H':FH}{γ':Gam}{F':Nm->Fp}{cells1 ts1:List Tt}{y1:El u},RX ⟨fn.ntmps,w,H2,F3 r',fun i=>if i=0 then some b else none,none,[]⟩ s' a' w' H' γ' F' ->
          ab s'.m (.out 0)=some ⟨true,cells1.map Tt.toT⟩->eX sh cells1=some ts1->jW u ts1=some y1 ->
          ∃F4,RX g (⟨s2.nx+1,kD (ko r') s2.nx s2.t,(r',s2.nx,⟨true,bh sh (flat u y1),none⟩)::bP (ko r') s2.nx (dC s2.m r')⟩:St).toS a w' H' γ2 F4:=by
         intro s' a' w' H' γ' F' cells1 ts1 y1 e2 hout q2 q3;obtain⟨k3,_⟩:=tF q2 (lu q3);have hl:(cells1.map Tt.toT).length=(cells.map Tt.toT).length:=by
          have l2:∀(sh:List Sh)(a b:List C),a.length=b.length->(bh sh a).length=(bh sh b).length:=by
           intro sh;induction sh with
           |nil=>intro a b _;cases a<;>cases b<;>rfl
           |cons s r ih=>
            intro a b hab;have hcons:∀(c:C)(cs:List C),(bh (s::r) (c::cs)).length=(bh r cs).length+1:=by
             intro c cs;cases s<;>cases c<;>rfl
            cases a with
            |nil=>cases b with
             |nil=>rfl
             |cons _ _=>cases hab
            |cons c cs=>cases b with
             |nil=>cases hab
             |cons d ds=>rw[hcons,hcons,ih cs ds (by simpa using hab)]
          have a1:=congrArg List.length k3
          have a2:=congrArg List.length k1
          have a3:=l2 sh (flat u y1) (flat u x) (by rw[mC,mC])
          simp only[WJ]at a1 a2⊢;omega
         obtain⟨F4,hX'⟩:=LW (j:=0) h2 hrootS (by rw[hty];rfl) hγr e2 hout hl (oM q2).1;refine⟨F4,?_⟩;have hcn:=xE hX' r'
         have hlist:((r',(⟨true,(cells1.map Tt.toT).map (T.ren (.out 0) r')⟩:Root))::aC (jR r') (bz s2.toS.m r')).map (fun x=>(x.1,if x.1=r' then jX x.2 else x.2))=(r',⟨true,(bh sh (flat u y1)).map Tt.toT⟩)::aC (jR r') (bz s2.toS.m r'):=by
          simp only[List.map_cons,if_true]
          congr 1
          ·rw[yq k3.symm];simp only[jX,k3]
          ·refine(W1 fun z hz=>?_).trans (List.map_id _);have hne:z.1≠r':=by
            intro e;have hz1:z.1∈(aC (jR r') (bz s2.toS.m r')).map (·.1):=Xg (f:=(·.1)) hz
            have e2:(aC (jR r') (bz s2.toS.m r')).map (·.1)=(bz s2.toS.m r').map (·.1):=by simp only[aC,WZ];rfl
            rw[e2,e]at hz1;exact nM h2.mem.keys hz1
           rw[if_neg hne];rfl
         have hfin:(⟨s2.nx+1,kD (ko r') s2.nx s2.t,(r',s2.nx,⟨true,bh sh (flat u y1),none⟩)::bP (ko r') s2.nx (dC s2.m r')⟩:St).toS=⟨kG (jR r') s2.toS.t,(r',⟨true,(bh sh (flat u y1)).map Tt.toT⟩)::aC (jR r') (bz s2.toS.m r')⟩:=by
          refine bb.S_ext (kE _ _ _) ?_;simp only[St.toS,List.map_cons]
          congr 1
          have:=dc (ko r') s2.nx (dC s2.m r')
          rw[kz _ _ hn2]at this;exact this
         rw[hfin];dsimp only at hcn;rw[hlist]at hcn;exact hcn
        refine calls_of_wp hf hb' (Code.wp_mono (fun ex a' w' hl=>?_) (lf (e:=⟨e.P,e.E,e.cs,e.sh,Jr sh u KP⟩) he hm (g:=⟨fn.ntmps,w,H2,F3 r',fun i=>if i=0 then some b else none,none,[]⟩) _ an _ _ hc h _ w ⟨H2,γc,_,hent2⟩));obtain⟨s',hq,hR⟩:=hl;have fin:∀t:St,s'=t.toS->qw e.P fn.results.toList sh u rs KK t ->
          a'.defers=[]/\∃v,(results fn a'.tmps).run e.P w'=.ok v w'/\gF g a pk k (.returned v) w':=by
         rintro t rfl ht
         unfold qw at ht;dsimp only at ht;have hR1:=cT (.out 0) (gU u) sh 0 (oH fn.results.toList hR)
         generalize bm (iP t fn.results.toList) (.out 0) (gU u) sh 0=s3 at ht hR1;have hid:=oS (us:=rs) (k:=fun vs=>match bC rs vs,bj s3.m (.out 0)with
          |some x_1,some ⟨true,cells,none⟩=>match eX sh cells with
           |some ts=>match jW u ts with
            |some y_1=>KK (x_1,y_1)
            |none=>False
           |none=>False
          |_,_=>False) (by
           intro vs hvs;split at hvs
           ·rename_i h1 _;exact⟨_,h1⟩
           ·exact hvs.elim) ht
         have hg2:=jL (us:=rs) (K:=fun r=>∃cells ts y1,bj s3.m (.out 0)=some ⟨true,cells,none⟩/\eX sh cells=some ts/\jW u ts=some y1/\KK (r,y1)) (TG hR1) (by
           intro vs hvs;split at hvs
           ·rename_i x1 cells1 h1 h2;split at hvs
            ·rename_i ts h3;split at hvs
             ·rename_i y1 h4;exact⟨x1,h1,cells1,ts,y1,h2,h3,h4,hvs⟩
             ·exact hvs.elim
            ·exact hvs.elim
           ·exact hvs.elim) ht
         obtain⟨Hs,γs,Fs,hXs⟩:=hR1;obtain⟨y0,v,H4,F4,e1,e2,e3,e4,r0,e5,cells1,ts1,y1,q1,q2,q3,q4⟩:=PE hXs rfl (Jp hid (K:=fun v=>∃r,v=(bL rs r).toV/\∃cells ts y1,bj s3.m (.out 0)=some ⟨true,cells,none⟩/\eX sh cells=some ts/\jW u ts=some y1/\KK (r,y1)) (fun r hr=>⟨r,rfl,hr⟩) hg2);rw[hid]at e2 e3;obtain⟨F5,hX5⟩:=back e2 (aR q1) q2 q3;refine⟨e2.df.1,y0,e1,.inl ⟨y0,_,bL rs r0,H4,γ2,F5,rfl,hkk _ _ q4,?_,hX5⟩⟩;rw[<- e5];exact dW ct (l7 (fun _ _ _ h=>h) e4 e3)
        cases ex with
        |normal=>obtain⟨t,e1,ht⟩:=hq;exact fin t e1 ht
        |ret=>obtain⟨t,e1,ht⟩:=hq;exact fin t e1 ht
        |exit i=>obtain⟨t,e1,ht⟩:=hq;exact ht.elim
        |panic c=>
         obtain⟨v,t,rfl,rfl,hv⟩:=hq;unfold Jr at hv;dsimp only at hv;have hR1:=cT (.out 0) (gU u) sh 0 hR
         have hdf:a'.defers=[]:=by obtain⟨_,_,_,hX'⟩:=hR;exact hX'.df.1
         generalize bm t (.out 0) (gU u) sh 0=s3 at hv hR1;split at hv
         ·rename_i cells1 q1;split at hv
          ·rename_i ts1 q2;split at hv
           ·rename_i y1 q3;obtain⟨Hs,γs,Fs,hXs⟩:=hR1;obtain⟨F5,hX5⟩:=back hXs (aR q1) q2 q3;exact⟨hdf,.inr ⟨v,_,rfl,hkp _ _ hv,Hs,γ2,F5,hX5⟩⟩
           ·exact hv.elim
          ·exact hv.elim
         ·exact hv.elim
        |_=>exact hq.elim
       ·exact hcc.elim
      ·exact hcc.elim
     ·exact hcc.elim
    ·exact hcc.elim
   ·exact hcc.elim
theorem tN{e:En}(he:e.ok)(hm:e.P.follows .mixedOrders=true){fn:Func}{an:An}{ps rs:List U}{g:G}(hg:g.nt=fn.ntmps)(hc:fw fn.ntmps (fn.body.getD .skip)=true){x:Fl ps}{KK:Fl rs->Prop}{K:AV->Prop}
  (hK:∀r,KK r->K (bL rs r).toV) (h:ib e fn an ps rs x KK):AW e.P g (fn.body.getD .skip) (Sz e.P fn.results.toList K) ⟨bv 0 (eL ps x),[]⟩:=by
 have h1:=lf (e:=⟨e.P,e.E,e.cs,e.sh,fun _ _=>False⟩) he hm (g:=g) _ an (uM ps x) _ (by rw[hg];exact hc) h
 have e0:(uM ps x).toS=⟨bv 0 (eL ps x),[]⟩:=bb.S_ext (iN 0 ps x) rfl
 rw[e0]at h1;refine l8 h1 (fun ex s' a w h' hR=>?_);cases ex with
 |normal=>
  obtain⟨t,rfl,ht⟩:=h';exact lN hK ht hR
 |ret=>
  obtain⟨t,rfl,ht⟩:=h';exact lN hK ht hR
 |exit i=>exact h'.elim (fun t ht=>ht.2.elim)
 |panic c=>obtain⟨_,_,_,_,hf⟩:=h';exact hf.elim
 |_=>exact h'.elim
theorem VN{u:U}(hu:scU u=true)(x:El u):∀{H H':FH}{y:Value},FDx H (aj u x).toD y->FDx H' (aj u x).toD y:=by
 intro H H' y h;cases u with
 |i k=>obtain⟨rfl,h2⟩:=dL h;exact⟨0,rfl,h2⟩
 |b8=>obtain⟨rfl,h2⟩:=dL h;exact⟨0,rfl,h2⟩
 |bo=>obtain rfl:=gu h;exact⟨0,rfl⟩
 |s=>obtain⟨rfl,h2⟩:=fm h;exact⟨0,rfl,h2⟩
 |_=>cases hu
theorem SC{u:U}(hu:scU u=true)(x:El u):xb u x=.c (.d (aj u x)):=by cases u<;>first|rfl|cases hu
theorem VL{w w':World}{H H':FH}{γ γ':Gam}{m m':Mm}:∀{rs:List U}{y:Fl rs}{z:Value},rs.all scU=true->AR w H γ m (bL rs y).toV z->AR w' H' γ' m' (bL rs y).toV z:=by
 have one:∀{u:U}{x:El u}{z:Value},scU u=true->AR1 w H γ m (xb u x).toV z->AR1 w' H' γ' m' (xb u x).toV z:=by
  intro u x z hu h;rw[SC hu]at h⊢;exact⟨h.1,VN hu x h.2⟩
 have all:∀(rs:List U)(y:Fl rs)(zs:List Value),rs.all scU=true->ARs w H γ m ((bL.resL rs y).map A1.toV) zs->ARs w' H' γ' m' ((bL.resL rs y).map A1.toV) zs:=by
  intro rs;induction rs with
  |nil=>intro y zs _ h;cases zs with
   |nil=>trivial
   |cons _ _=>exact h.elim
  |cons u r ih=>
   intro y zs hs h;simp only[W0,WI]at hs;cases zs with
   |nil=>exact h.elim
   |cons z zs=>exact⟨one hs.1 h.1,ih _ zs hs.2 h.2⟩
 intro rs y z hs h
 match rs,y with
 |[],_=>obtain⟨l,h1,h2⟩:=h;exact⟨l,h1,all [] () _ rfl h2⟩
 |[u],y=>
  simp only[W0,List.all_nil,XZ]at hs;have e:(bL [u] y).toV=.one (xb u y).toV:=by show(wn u y).toV=_;rw[qE];rfl
  rw[e]at h⊢;exact one hs h
 |u::v::r,y=>obtain⟨l,h1,h2⟩:=h;exact⟨l,h1,all (u::v::r) y _ hs h2⟩
section
variable {P:Program} {g:G} {a:Act} {w:World} {H:FH} {γ:Gam} {F:Nm->Fp}
theorem DI{s:St}{p:Pl}{sh:List Sh}{u:U}{l:List (El u)}{r:Rt}(hr:bj s.m p.root=some r)(hh:r.hole=none)(h:sliceAt s.m p=some ⟨sh,u,l⟩)(hp:okP s.toS.m p):aQ s.toS.m p=some (.ow sh (l.map (al u))):=by
 unfold sliceAt at h;split at h
 ·rename_i sh' u' l' ht;cases h;have e:r.toR=⟨r.blk,r.cells.map Tt.toT⟩:=by unfold Rt.toR;rw[hh];rfl
  have hg:ab s.toS.m p.root=some ⟨r.blk,r.cells.map Tt.toT⟩:=by rw[<- e];exact aR hr
  unfold atT at ht;rw[hr]at ht;dsimp only at ht;unfold aQ;rw[hg];dsimp only;cases hpath:p.path with
  |nil=>
   rw[hpath]at ht;dsimp only at ht⊢;split at ht
   ·simp only[WG]at ht;have:(r.cells.drop p.off)[0]? = some (.ow sh u l):=by
     have h2:=congrArg (·[0]?) ht
     simp only[Xi]at h2;rw[W3 Z1]at h2;exact h2
    rw[Xc,Yn]at this;rw[WK,this];rfl
   ·cases ht
  |cons st q=>
   rw[hpath]at ht;dsimp only at ht⊢;split at ht
   ·rename_i sub u2 l2 _ hc;unfold okP at hp;rw[hpath]at hp;obtain⟨r',sub',l',e1,e2,e3⟩:=hp;rw[hg]at e1;obtain rfl:=Option.some.inj e1;dsimp only at e2;have hc':(r.cells.map Tt.toT)[p.off]? = some (.ow sub (l2.map (al u2))):=by rw[WK,hc];rfl
    rw[hc']at e2;have e2':=Option.some.inj e2
    simp only[T.ow.injEq]at e2';obtain⟨rfl,rfl⟩:=e2';rw[hc'];dsimp only;rw[u5 e3 ht]
   ·cases ht
 ·cases h
def kH(w:World)(H:FH)(t:Fp):FH:=fun b o=>if t b≠0 then(w.cell? ⟨b,o,none⟩).map HV.c else H b o
theorem pZ{s:S}(h:RX g s a w H γ F):∀b o y,H b o=some y->kH w H (tot F s.m) b o=some y:=by
 intro b o y hy;unfold kH;split
 ·rename_i hb;rw[h.mem.nofz b hb o]at hy;cases hy
 ·exact hy
theorem CS{s:S}(h:RX g s a w H γ F):∀b o y,kH w H (tot F s.m) b o=some y->RdV w b o y:=by
 intro b o y hy;unfold kH at hy;split at hy
 ·obtain⟨z,hz,rfl⟩:=WW.1 hy;exact hz
 ·exact h.mem.agree b o y hy
theorem FI(s:St)(v:At):lent s v=v\/∃p r sh u l,v=.one (.c (.rf p))/\lent s v=sct (.li u l)/\bj s.m p.root=some r/\r.hole=none/\sliceAt s.m p=some ⟨sh,u,l⟩:=by
 unfold lent;split
 ·rename_i p;split
  ·rename_i r hr;split
   ·rename_i sh u l hh hs;exact .inr ⟨p,r,sh,u,l,rfl,rfl,hr,hh,hs⟩
   ·exact .inl rfl
  ·exact .inl rfl
 ·exact .inl rfl
theorem RU{s:St}(h:RX g s.toS a w H γ F){v:At}{z:Value}(hv:AR w H γ s.toS.m v.toV z)(hz:(lent s v).toV.isFz=true):AR w (kH w H (tot F s.toS.m)) γ [] (lent s v).toV z:=by
 rcases FI s v with e|⟨p,r,sh,u,l,rfl,e,hr,hh,hs⟩
 ·rw[e]at hz⊢;exact l7 (pZ h) hz hv
 ·rw[e];have hg:=DI hr hh hs (mK hv.2.1)
  obtain⟨f,y,e1,⟨k,e4⟩,e5,_⟩:=t8 h.mem (dH hv.2.1) hg;rw[hv.2.2]at e1;obtain rfl:=Option.some.inj e1;refine⟨fun _=>rfl,M3 (pZ h) k _ _ f _ e4 (fun b hb o x hx=>?_)⟩;unfold kH;have hbt:tot F s.toS.m b≠0:=by
   have h1:=e5 b
   have h2:=aW (F:=F) (ae (aR hr)) b
   dsimp only at h2;have h3:tot F s.toS.m b=tot F (toM s.m) b:=rfl
   omega
  rw[if_pos hbt,hx];rfl
theorem OV{s:St}(h:RX g s.toS a w H γ F){ops:List Operand}(hops:ops.all ax=true){ps:List U}{x:Fl ps}(hx:bC ps (ops.map fun x=>lent s (evA s x))=some x){nt:Nat}(hle:ops.length<=nt) :
  RX ⟨nt,w,kH w H (tot F s.toS.m),fun _=>0,fun _=>none,none,[]⟩ ⟨bv 0 (eL ps x),[]⟩ ⟨(ops.map a.eval).toArray++Array.replicate (nt - (ops.map a.eval).toArray.size) undef,[]⟩ w (kH w H (tot F s.toS.m)) γ F:=by
 obtain⟨c1,c2,c3⟩:=dl hx;refine⟨⟨CS h,fun x hx=>by simp at hx,by simp,fun b=>Xq _,fun b hb=>absurd rfl hb,fun b hb=>absurd rfl hb⟩,⟨WN _,rfl,rfl,rfl,fun _ _ _=>rfl,fun _ _ _ h=>h,fun b o h2 h3=>absurd h3 h2,fun b hb=>absurd rfl hb,jE⟩,?_,⟨rfl,fun j b e=>by simp at e,tZ (pZ h) (ea h)⟩,fun i=>?_⟩
 ·simp;omega
 ·show AR w _ γ [] (aL (bv 0 (eL ps x)) i) (Array.getD _ i undef)
  rw[<- c3,dF];simp only[Xq,if_true,Yp,WK];cases hi:ops[i]? with
  |none=>simp only[X3,Yh];trivial
  |some y=>
   have hop:=WY.1 hops y (W9 hi)
   have hy:=aA h hop
   rw[af hop]at hy;simp only[Option.map_some,Xb];have hz:(lent s (evA s y)).toV.isFz=true:=by
    refine WY.1 c2 _ (Xg ?_);exact Xg (f:=fun x=>lent s (evA s x)) (W9 hi)
   have hget:((ops.map a.eval).toArray++Array.replicate (nt - (ops.map a.eval).toArray.size) undef).getD i undef=a.eval y:=by
    rw[Xf,XD (by simp;exact ah hi)];simp[hi]
   rw[hget];exact dW ct (RU h hy hz)
theorem JS{s1:S}(h1:RX g s1 a w H γ F){w':World}{H2:FH}{tt:Fp}(hfr:Fr w (kH w H (tot F s1.m)) (fun _=>0) w' H2 tt)(hag:∀b o y,H2 b o=some y->RdV w' b o y) :
  RX g s1 a w' (fun b o=>if tot F s1.m b≠0 then none else H2 b o) γ F:=by
 have hold:∀b,b<w.heap.size->w'.heap[b]? = w.heap[b]? := fun b hb=>hfr.block b hb rfl
 have hsame:∀b,tot F s1.m b≠0->w'.heap[b]? = w.heap[b]? := fun b hb=>hold b (h1.mem.lt b hb)
 have hKp:=cD (w':=w') h1.mem hsame
 have hle:∀b o y,H b o=some y->(if tot F s1.m b≠0 then none else H2 b o)=some y:=by
  intro b o y hy;split
  ·rename_i hb;rw[h1.mem.nofz b hb o]at hy;cases hy
  ·exact hfr.hold b o y (pZ h1 b o y hy)
 have hnew:∀b o,(if tot F s1.m b≠0 then none else H2 b o)≠none->H b o=none->w.heap.size<=b:=by
  intro b o h2 h3;split at h2
  ·exact absurd rfl h2
  ·rename_i hb;have h4:kH w H (tot F s1.m) b o=none:=by unfold kH;rw[if_neg hb];exact h3
   rcases hfr.hnew b o h2 h4 with h'|h'
   ·exact absurd rfl h'
   ·exact h'
 have hmem:Mem w' (fun b o=>if tot F s1.m b≠0 then none else H2 b o) γ s1.m F:=by
  refine⟨fun b o y hy=>?_,fun x hx=>aN hKp hle rfl (fun b hb=>hsame b (by have:=aW (F:=F) hx b;omega)) (h1.mem.roots x hx),h1.mem.keys,h1.mem.le1,fun b hb=>by have:=h1.mem.lt b hb;have:=hfr.size;omega,fun b hb o=>?_⟩
  ·split at hy
   ·cases hy
   ·exact hag b o y hy
  ·rw[if_pos hb]
 have hFr:Fr w H (tot F s1.m) w' (fun b o=>if tot F s1.m b≠0 then none else H2 b o) (tot F s1.m):=
  ⟨hfr.size,hfr.os,hfr.tape,hfr.output,fun b hb _=>hold b hb,hle,fun b o h2 h3=>.inr (hnew b o h2 h3),fun b hb=>.inl hb,hfr.nz.1,fun b o x l c h2 h3=>by
   have h5:=hnew b o (by rw[h2];simp) h3
   split at h2
   ·cases h2
   ·rename_i hb;exact hfr.nz.2 b o x l c h2 (by unfold kH;rw[if_neg hb];exact h3)⟩
 exact fp h1 hmem hFr (fun i=>bV hKp hle (h1.t i)) (fun _=>rfl)
theorem tQ{e:En}(he:e.ok)(hm:e.P.follows .mixedOrders=true){f:Nat}{fn:Func}(hf:e.P.funcs[f]? = some fn) (hname:(fn.name == "runtime.NumGoroutine")=false) (hb:fn.body.isSome=true) {an:An} {ps rs:List U} {Φ:Fl ps->(Fl rs->Prop)->Prop}
  (hlen:Nat.ble ps.length fn.ntmps=true) (hc:fw fn.ntmps (fn.body.getD .skip)=true) (law:∀x KK,Φ x KK->ib e fn an ps rs x KK):Cont e.P f (vf ps rs Φ):=by
 have hb':fn.body=some (fn.body.getD .skip):=by cases h:fn.body with
  |none=>rw[h]at hb;cases hb
  |some c=>rfl
 refine⟨Gu hf hname hb,fun pk s ops k k' hk hcc=>?_,fun g pk s a w H γ F ops k hX hops hcc=>?_⟩
 ·unfold vf at hcc⊢;split at hcc
  ·obtain⟨KK,h1,h2⟩:=hcc;exact⟨KK,h1,fun y hy=>hk _ _ (Ext.refl s) (h2 y hy)⟩
  ·exact hcc.elim
 ·unfold vf at hcc;split at hcc
  rotate_left
  ·exact hcc.elim
  rename_i x hx hs;obtain⟨KK,h1,hk⟩:=hcc;have hlx:ops.length=ps.length:=by
   obtain⟨_,_,c3⟩:=dl hx;have:=congrArg List.length c3
   rw[cV]at this;simpa using this
  have hA:=tN (g:=⟨fn.ntmps,w,kH w H (tot F s.toS.m),fun _=>0,fun _=>none,none,[]⟩) he hm rfl hc (K:=fun r=>∃y,KK y/\r=(bL rs y).toV) (fun r hr=>⟨r,hr,rfl⟩) (law x KK h1)
  refine calls_of_wp hf hb' (Code.wp_mono (fun ex a' w' hl=>?_) (hA _ w ⟨_,γ,F,OV hX hops hx (nt:=fn.ntmps) (by rw[hlx];exact WT hlen)⟩));obtain⟨s',hq,H',γ',F',hX'⟩:=hl;have fin:qv e.P s' fn.results.toList (fun r=>∃y,KK y/\r=(bL rs y).toV)->a'.defers=[]/\∃v,(results fn a'.tmps).run e.P w'=.ok v w'/\gF g a pk k (.returned v) w':=by
   intro hq;obtain⟨z,v,s2,H2,F2,e1,e2,e3,e4,y,e5,e6⟩:=tC hX' rfl hq;refine⟨e2.df.1,z,e1,.inl ⟨z,s,bL rs y,_,γ,F,rfl,hk y e5,?_,JS hX e2.fr e2.mem.agree⟩⟩;have:=dW ct e3
   rw[e6]at this;exact VL hs this
  cases ex with
  |normal=>exact fin hq
  |ret=>exact fin hq
  |_=>exact hq.elim
theorem JF{e:En}(he:e.ok)(hm:e.P.follows .mixedOrders=true){f:Nat}{fn:Func}(hf:e.P.funcs[f]? = some fn) (hname:(fn.name == "runtime.NumGoroutine")=false) (hb:fn.body.isSome=true) {an:An} {ps rs:List U} {pre:Fl ps->Prop} {Fn:Fl ps->Fl rs}
  (hlen:Nat.ble ps.length fn.ntmps=true) (hc:fw fn.ntmps (fn.body.getD .skip)=true) (law:∀x,pre x->∀KK:Fl rs->Prop,KK (Fn x)->ib e fn an ps rs x KK):Cont e.P f (I9 ps rs pre Fn):=by
 have h:=tQ he hm hf hname hb (rs:=rs) (Φ:=fun x KK=>pre x/\KK=fun y=>y=Fn x) hlen hc (fun x KK⟨h1,h2⟩=>law x h1 KK (by rw[h2]))
 refine⟨h.run,fun pk s ops k k' hk hcc=>?_,fun g pk s a w H γ F ops k hX hops hcc=>h.call g pk s a w H γ F ops k hX hops ?_⟩
 ·unfold I9 at hcc⊢;split at hcc
  ·exact⟨hcc.1,hk _ _ (Ext.refl s) hcc.2⟩
  ·exact hcc.elim
 ·unfold I9 at hcc;unfold vf;split at hcc
  ·exact⟨_,⟨hcc.1,rfl⟩,fun y hy=>by rw[hy];exact hcc.2⟩
  ·exact hcc.elim
end
def qi(ps rs:List U)(pre:Fl ps->Prop)(post:Fl ps->Fl rs->Prop):CKt:=fun _ s ops k=>
 let s1:=bw s (ops.map (evA s))
 match bC ps (ops.map (evA s1))with
 |some x=>pre x/\∀y,post x y->k s1 (bL rs y)
 |none=>False
theorem MC{e:En}(he:e.ok)(hm:e.P.follows .mixedOrders=true){f:Nat}{fn:Func}(hf:e.P.funcs[f]? = some fn) (hname:(fn.name == "runtime.NumGoroutine")=false) (hb:fn.body.isSome=true) {an:An} {ps rs:List U} {pre:Fl ps->Prop} {post:Fl ps->Fl rs->Prop}
  (hlen:Nat.ble ps.length fn.ntmps=true) (hc:fw fn.ntmps (fn.body.getD .skip)=true) (law:∀x,pre x->∀KK:Fl rs->Prop,(∀y,post x y->KK y)->ib e fn an ps rs x KK):Cont e.P f (qi ps rs pre post):=by
 have hb':fn.body=some (fn.body.getD .skip):=by cases h:fn.body with
  |none=>rw[h]at hb;cases hb
  |some c=>rfl
 have hcon:=tP hf hname hb' (fun avs K=>∃x:Fl ps,avs=eL ps x/\pre x/\∀y,post x y->K (bL rs y).toV) (fun avs K⟨x,hx,_,_⟩=>by rw[hx,cV];exact WT hlen) (fun g avs K hg⟨x,hx,hp,hk⟩=>by
  subst hx;have h:=law x hp (post x) (fun _ h=>h)
  have h1:=lf (e:=⟨e.P,e.E,e.cs,e.sh,fun _ _=>False⟩) he hm (g:=g) _ an (uM ps x) _ (by rw[hg];exact hc) h
  have e0:(uM ps x).toS=⟨bv 0 (eL ps x),[]⟩:=bb.S_ext (iN 0 ps x) rfl
  rw[e0]at h1;refine l8 h1 (fun ex s' a w h' hR=>?_);cases ex with
  |normal=>
   obtain⟨t,rfl,ht⟩:=h';exact lN (fun r hr=>hk r hr) ht hR
  |ret=>
   obtain⟨t,rfl,ht⟩:=h';exact lN (fun r hr=>hk r hr) ht hR
  |exit i=>exact h'.elim (fun t ht=>ht.2.elim)
  |panic c=>obtain⟨_,_,_,_,hf⟩:=h';exact hf.elim
  |_=>exact h'.elim)
 refine⟨hcon.run,fun pk s ops k k' hk hcc=>?_,fun g pk s a w H γ F1 ops k hX hops hcc=>?_⟩
 ·unfold qi at hcc⊢;dsimp only at hcc⊢;split at hcc
  ·exact⟨hcc.1,fun y hy=>hk _ _ (bN _ _) (hcc.2 y hy)⟩
  ·exact hcc.elim
 ·unfold qi at hcc;dsimp only at hcc;obtain⟨H1,F2,h1⟩:=cE (ops.map (evA s)) s H F1 hX;generalize bw s (ops.map (evA s))=s1 at hcc h1;split at hcc
  ·rename_i x hx;obtain⟨c1,c2,c3⟩:=dl hx;refine Calls.mono (hcon.call g s1.toS a w H1 γ F2 ops (fun s' av=>∃t v',SEq s' t.toS/\av=v'.toV/\k t v') h1 hops ?_) ?_
   ·unfold mQ;dsimp only;rw[dR hops,dE c1];have e:(ops.map fun x=>(ev s1.toS x).map T.canon)=(ops.map (ev s1.toS)).map (AV.map T.canon):=by rw[WZ];rfl
    rw[e,dR hops];refine⟨c2,?_⟩;rw[c3];exact⟨x,rfl,hcc.1,fun y hy=>⟨s1,_,⟨fun _=>rfl,rfl⟩,rfl,hcc.2 y hy⟩⟩
   ·rintro e w' ⟨r,s',av,H',γ',F',k1,⟨t,v',e1,rfl,k2⟩,k3,k4⟩
    refine .inl ⟨r,t,v',H',γ',F',k1,k2,?_,aS e1 k4⟩;rw[e1.2]at k3;exact k3
  ·exact hcc.elim
structure NmR (σ:Nm->Nm):Prop where
 inv:∀n,σ (σ n)=n
 tyd:∀n,(σ n).tyd=n.tyd
theorem NmR.inj{σ:Nm->Nm}(h:NmR σ){n n':Nm}(e:σ n=σ n'):n=n':=by rw[<- h.inv n,<- h.inv n',e]
def Pl.rn(σ:Nm->Nm)(p:Pl):Pl:=⟨σ p.root,p.off,p.path⟩
def T.rn(σ:Nm->Nm):T->T
 |.pl p=>.pl (p.rn σ)
 |.rf p=>.rf (p.rn σ)
 |t=>t
def AV1.rn(σ:Nm->Nm):AV1->AV1
 |.c t=>.c (t.rn σ)
 |.agg ts=>.agg (ts.map (T.rn σ))
def AV.rn(σ:Nm->Nm):AV->AV
 |.one x=>.one (x.rn σ)
 |.tup xs=>.tup (xs.map (AV1.rn σ))
 |.any=>.any
def Root.rn(σ:Nm->Nm)(r:Root):Root:=⟨r.blk,r.cells.map (T.rn σ)⟩
def rnM(σ:Nm->Nm)(m:Mm):Mm:=m.map fun x=>(σ x.1,x.2.rn σ)
def S.rn(σ:Nm->Nm)(s:S):S:=⟨s.t.map fun x=>(x.1,x.2.rn σ),rnM σ s.m⟩
def Tt.rn(σ:Nm->Nm):Tt->Tt
 |.pl p=>.pl (p.rn σ)
 |.rf p=>.rf (p.rn σ)
 |t=>t
def A1.rn(σ:Nm->Nm):A1->A1
 |.c t=>.c (t.rn σ)
 |.agg ts=>.agg (ts.map (Tt.rn σ))
def At.rn(σ:Nm->Nm):At->At
 |.one x=>.one (x.rn σ)
 |.tup xs=>.tup (xs.map (A1.rn σ))
 |.any=>.any
def Rt.rn(σ:Nm->Nm)(r:Rt):Rt:=⟨r.blk,r.cells.map (Tt.rn σ),r.hole⟩
def St.rn(σ:Nm->Nm)(s:St):St:=⟨s.nx,s.t.map fun x=>(x.1,x.2.1,x.2.2.rn σ),s.m.map fun x=>(σ x.1,x.2.1,x.2.2.rn σ)⟩
section
variable {σ:Nm->Nm}
theorem Tt.rn_toT:∀t:Tt,(t.rn σ).toT=t.toT.rn σ
 |.d _=>rfl
 |.nil=>rfl
 |.ow _ _ _=>rfl
 |.mp _ _ _=>rfl
 |.it _ _ _ _=>rfl
 |.mo _ _ _ _=>rfl
 |.el _ _=>rfl
 |.ga _ _ _=>rfl
 |.pl _=>rfl
 |.rf _=>rfl
 |.any=>rfl
theorem Np(ts:List Tt):(ts.map (Tt.rn σ)).map Tt.toT=(ts.map Tt.toT).map (T.rn σ):=by
 rw[WZ,WZ];exact W1 fun t _=>Tt.rn_toT t
theorem A1.rn_toV:∀x:A1,(x.rn σ).toV=x.toV.rn σ
 |.c t=>congrArg AV1.c t.rn_toT
 |.agg ts=>congrArg AV1.agg (Np ts)
theorem At.rn_toV:∀x:At,(x.rn σ).toV=x.toV.rn σ
 |.one x=>congrArg AV.one x.rn_toV
 |.tup xs=>congrArg AV.tup (by
  rw[WZ,WZ];exact W1 fun t _=>A1.rn_toV t)
 |.any=>rfl
theorem Oy(ts:List T)(h:Option (Nat×Step×List Step)):holed (ts.map (T.rn σ)) h=(holed ts h).map (T.rn σ):=by
 cases h with
 |none=>rfl
 |some x=>
  obtain⟨off,st,q⟩:=x;simp only[holed,WK];cases ts[off]? with
  |none=>rfl
  |some t=>
   cases t with
   |ow sub l=>simp only[Option.map_some,T.rn,Xp]
   |_=>rfl
theorem Rt.rn_toR(r:Rt):(r.rn σ).toR=r.toR.rn σ:=by
 unfold Rt.toR Rt.rn Root.rn;dsimp only;rw[Np,Oy]
theorem St.rn_toS(s:St):(s.rn σ).toS=s.toS.rn σ:=by
 unfold St.toS St.rn S.rn rnM;simp only[WZ]
 congr 1
 ·exact W1 fun x _=>by simp only[Function.comp,At.rn_toV]
 ·exact W1 fun x _=>by simp only[Function.comp,Rt.rn_toR]
theorem Rv(t:List (Nat×AV))(i:Nat):aL (t.map fun x=>(x.1,x.2.rn σ)) i=(aL t i).rn σ:=by
 induction t with
 |nil=>rfl
 |cons x r ih=>
  obtain⟨k,v⟩:=x;simp only[List.map_cons,aL];split
  ·rfl
  ·exact ih
theorem za{cells:List T}{o:Nat}{sub:List Sh}{l:List (List D)}:(cells.map (T.rn σ))[o]? = some (.ow sub l) ↔ cells[o]? = some (.ow sub l):=by
 rw[WK];cases cells[o]? with
 |none=>simp
 |some t=>cases t<;>simp[T.rn]
variable (hσ:NmR σ)
include hσ
theorem I3(m:Mm)(n:Nm):ab (rnM σ m) (σ n)=(ab m n).map (Root.rn σ):=by
 induction m with
 |nil=>rfl
 |cons x r ih=>
  obtain⟨k,v⟩:=x;simp only[rnM,List.map_cons,ab];by_cases hk:k=n
  ·subst hk;rw[if_pos rfl,if_pos rfl];rfl
  ·rw[if_neg hk,if_neg (fun e=>hk (hσ.inj e))];exact ih
theorem Sc{m:Mm}{p:Pl}(h:bD m p):bD (rnM σ m) (p.rn σ):=by
 unfold bD at h⊢;simp only[Pl.rn,I3 hσ];cases hr:ab m p.root with
 |none=>simp[hr]at h
 |some r=>
  simp only[hr,Option.map_some]at h⊢;split
  ·rename_i hp;simp only[hp]at h;simpa[Root.rn]using h
  ·rename_i st q hp;simp only[hp]at h;split at h
   ·rename_i sub l hc;rw[show(Root.rn σ r).cells[p.off]? = some (.ow sub l)from za.2 hc];exact h
   ·exact h.elim
theorem Sd{m:Mm}{p:Pl}(h:fh m p):fh (rnM σ m) (p.rn σ):=by
 unfold fh at h⊢;simp only[Pl.rn,I3 hσ];cases hr:ab m p.root with
 |none=>simp[hr]at h
 |some r=>
  simp only[hr,Option.map_some]at h⊢;split at h
  ·rename_i sub l hc hp;rw[show(Root.rn σ r).cells[p.off]? = some (.ow sub l)from za.2 hc,hp];trivial
  ·rename_i l hc hp;rw[show(Root.rn σ r).cells[p.off]? = some (.mp l)from by show(r.cells.map (T.rn σ))[p.off]? = _;rw[WK,hc];rfl,hp];trivial
  ·rename_i cur l hc hp;rw[show(Root.rn σ r).cells[p.off]? = some (.it cur l)from by show(r.cells.map (T.rn σ))[p.off]? = _;rw[WK,hc];rfl,hp];trivial
  ·rename_i sub l st q hc hp;rw[show(Root.rn σ r).cells[p.off]? = some (.ow sub l)from za.2 hc];simpa[hp]using h
  ·exact h.elim
variable {w:World} {H:FH} {γ:Gam} {m:Mm} {F:Nm->Fp}
abbrev rnG(σ:Nm->Nm)(γ:Gam):Gam:=fun n=>γ (σ n)
theorem UM(p:Pl):plA w (rnG σ γ) (p.rn σ)=plA w γ p:=by
 unfold plA;simp only[Pl.rn,rnG,hσ.inv]
theorem UN(p:Pl):plV w (rnG σ γ) (p.rn σ)=plV w γ p:=by
 unfold plV;simp only[Pl.rn,rnG,hσ.inv]
theorem No{t:T}{f:Fp}{y:Value}(h:TR w H γ m t f y):TR w H (rnG σ γ) (rnM σ m) (t.rn σ) f y:=by
 cases t with
 |pl p=>
  obtain⟨h1,h2,a,h3,h4⟩:=h;exact⟨h1,Sc hσ h2,a,(UM hσ p).trans h3,h4⟩
 |rf p=>
  obtain⟨h1,h2,h3⟩:=h;exact⟨h1,Sd hσ h2,(UN hσ p).trans h3⟩
 |_=>exact h
theorem Ti{ts:List T}{f:Fp}{vs:List Value}(h:Ts (TR w H γ m) ts f vs):Ts (TR w H (rnG σ γ) (rnM σ m)) (ts.map (T.rn σ)) f vs:=by
 unfold Ts at h⊢;rw[WJ];have key:∀(ss:List Unit)(xs:List T)(f:Fp)(vs:List Value),Cs (fun _ t=>TR w H γ m t) ss xs f vs->Cs (fun _ t=>TR w H (rnG σ γ) (rnM σ m) t) ss (xs.map (T.rn σ)) f vs:=by
  intro ss xs;induction xs generalizing ss with
  |nil=>intro f vs h;cases ss<;>exact h
  |cons x xs ih=>
   intro f vs h;cases ss with
   |nil=>exact h.elim
   |cons u ss=>
    obtain⟨v,r,f1,f2,hv,hf,k1,k2⟩:=h;exact⟨v,r,f1,f2,hv,hf,No hσ k1,ih ss f2 r k2⟩
 exact key _ _ _ _ h
theorem Nk{n:Nm}{r:Root}{f:Fp}(h:a8 w H γ m n r f):a8 w H (rnG σ γ) (rnM σ m) (σ n) (r.rn σ) f:=by
 unfold a8 at h⊢;by_cases hb:r.blk=true
 ·rw[if_pos hb]at h;rw[if_pos (show(r.rn σ).blk=true from hb)];obtain⟨b,cs,ty,fz,g,h1,h2,h3,h4,h5,h6⟩:=h;exact⟨b,cs,ty,fz,g,by rw[rnG,hσ.inv];exact h1,h2,⟨h3.1,fun t ht=>h3.2 t (by rw[<- hσ.tyd n];exact ht)⟩,by simpa[Root.rn]using h4,Ti hσ h5,h6⟩
 ·rw[if_neg hb]at h;rw[if_neg (show ¬ (r.rn σ).blk=true from hb)];obtain⟨v,t,h1,h2,h3⟩:=h;exact⟨v,t.rn σ,by rw[rnG,hσ.inv];exact h1,by simp[Root.rn,h2],No hσ h3⟩
theorem Al(m:Mm):tot (fun n=>F (σ n)) (rnM σ m)=tot F m:=by
 funext b
 induction m with
 |nil=>rfl
 |cons x r ih=>
  simp only[rnM,List.map_cons,tot,hσ.inv]at ih⊢;rw[ih]
theorem TU(h:Mem w H γ m F):Mem w H (rnG σ γ) (rnM σ m) (fun n=>F (σ n)):=by
 refine⟨h.agree,fun x hx=>?_,?_,fun b=>by rw[Al hσ];exact h.le1 b,fun b hb=>h.lt b (by rwa [Al hσ]at hb),fun b hb=>h.nofz b (by rwa [Al hσ]at hb)⟩
 ·simp only[rnM,Xa]at hx;obtain⟨y,hy,rfl⟩:=hx;dsimp only;rw[hσ.inv];exact Nk hσ (h.roots y hy)
 ·have:(rnM σ m).map (·.1)=(m.map (·.1)).map σ:=by simp only[rnM,WZ];rfl
  rw[this,List.nodup_iff_pairwise_ne,List.pairwise_map];exact(List.nodup_iff_pairwise_ne.1 h.keys).imp (fun hne e=>hne (hσ.inj e))
theorem Mp{x:AV1}{y:Value}(h:AR1 w H γ m x y):AR1 w H (rnG σ γ) (rnM σ m) (x.rn σ) y:=by
 cases x with
 |c t=>exact No hσ h
 |agg ts=>
  obtain⟨cs,h1,h2,h3⟩:=h;exact⟨cs,h1,by simpa using h2,Ti hσ h3⟩
theorem Mu:∀{xs:List AV1}{ys:List Value},ARs w H γ m xs ys->ARs w H (rnG σ γ) (rnM σ m) (xs.map (AV1.rn σ)) ys
 |[],[],_=>trivial
 |_::_,_::_,h=>⟨Mp hσ h.1,Mu h.2⟩
 |[],_::_,h=>h.elim
 |_::_,[],h=>h.elim
theorem S6{x:AV}{y:Value}(h:AR w H γ m x y):AR w H (rnG σ γ) (rnM σ m) (x.rn σ) y:=by
 cases x with
 |one x=>exact Mp hσ h
 |tup xs=>obtain⟨l,h1,h2⟩:=h;exact⟨l,h1,Mu hσ h2⟩
 |any=>trivial
theorem IA{g:G}{s:St}{a a':Act}{ds:List Deferred}{out:Nat->Option Nat}(h:RX g s.toS a w H γ F)(h1:a'.tmps=a.tmps)(h2:a'.defers=ds)(ho:∀j b,out j=some b->γ (σ (.out j))=.blk b) :
  RX ⟨g.nt,g.w0,g.H0,g.own0,out,g.ex,ds⟩ (s.rn σ).toS a' w H (rnG σ γ) (fun n=>F (σ n)):=by
 rw[St.rn_toS];refine⟨TU hσ h.mem,?_,by rw[h1];exact h.nt,⟨h2,fun j b hb=>ho j b hb,h.df.2.2⟩,fun i=>?_⟩
 ·show Fr g.w0 g.H0 g.own0 w H (tot (fun n=>F (σ n)) (rnM σ s.toS.m))
  rw[Al hσ];exact h.fr
 ·show AR w H (rnG σ γ) (rnM σ s.toS.m) (aL (s.toS.t.map fun x=>(x.1,x.2.rn σ)) i) _
  rw[Rv];have e:G.tv ⟨g.nt,g.w0,g.H0,g.own0,out,g.ex,ds⟩ a' i=g.tv a i:=by
   unfold G.tv;rw[h1]
  rw[e];exact S6 hσ (h.t i)
end
def sZ(i:Nat):Nat:=i % 1000000 / 1000
def Ai(k i:Nat):Nat:=match Nat.beq (sZ i) 0 with
 |true=>i+k*1000
 |false=>match Nat.beq (sZ i) k with
  |true=>i-k*1000
  |false=>i
def Aj(k:Nat):Nm->Nm
 |.loc i=>.loc (Ai k i)
 |.gh i=>.gh (Ai k i)
 |.out i=>.out i
theorem qA{k:Nat}(hk:1<=k/\k < 1000)(i:Nat):Ai k (Ai k i)=i/\Ai k i / 1000000=i / 1000000:=by
 unfold Ai;cases h0:Nat.beq (sZ i) 0 with
 |true=>
  have h:=WS h0
  unfold sZ at h;dsimp only;have h1:sZ (i+k*1000)=k:=by unfold sZ;omega
  rw[h1];have h2:Nat.beq k 0=false:=by
   cases hb:Nat.beq k 0 with
   |false=>rfl
   |true=>have:=WS hb;omega
  rw[h2,Yq];dsimp only;omega
 |false=>
  dsimp only;cases hk2:Nat.beq (sZ i) k with
  |true=>
   have h:=WS hk2
   unfold sZ at h;dsimp only;have h1:sZ (i-k*1000)=0:=by unfold sZ;omega
   rw[h1,Yq];dsimp only;omega
  |false=>
   dsimp only;rw[h0,hk2];exact⟨rfl,rfl⟩
theorem SQ{k:Nat}(hk:1<=k/\k < 1000)(i:Nat):Ai k i < 1000000 ↔ i < 1000000:=by
 have:=(qA hk i).2
 omega
theorem Ju{k:Nat}(hk:1<=k/\k < 1000):NmR (Aj k):=by
 refine⟨fun n=>?_,fun n=>?_⟩
 ·cases n with
  |loc i=>exact congrArg Nm.loc (qA hk i).1
  |gh i=>exact congrArg Nm.gh (qA hk i).1
  |out i=>rfl
 ·cases n with
  |loc i=>
   show(if Ai k i < 1000000 then none else some (Ai k i / 1000000))=(if i < 1000000 then none else some (i / 1000000))
   have h1:=SQ hk i
   rw[(qA hk i).2];by_cases h:i < 1000000
   ·rw[if_pos (h1.2 h),if_pos h]
   ·rw[if_neg (fun e=>h (h1.1 e)),if_neg h]
  |gh i=>rfl
  |out i=>rfl
def VG(k:Nat)(n:Nm):Bool:=match n with
 |.loc i=>Nat.beq (sZ i) k
 |.gh i=>Nat.beq (sZ i) k
 |.out _=>false
def Tq:Nat->Nat->List (Nm×Nat×Rt)->Nat
 |0,k,_=>k
 |n+1,k,m=>match m.any (fun x=>VG k x.1)with
  |true=>Tq n (k+1) m
  |false=>k
def apK(s:St):Option Nat:=match Tq 900 1 s.m with
 |k=>match Nat.ble 1 k&&Nat.blt k 1000 with
  |true=>some k
  |false=>none
def apT(C:CKt):CKt:=fun pk s ops k=>match apK s with
 |some j=>C (fun v s'=>pk v (s'.rn (Aj j))) (s.rn (Aj j)) ops (fun s' v=>k (s'.rn (Aj j)) (v.rn (Aj j)))
 |none=>False
def apB(C:CKb):CKb:=fun s ops k=>match apK s with
 |some j=>C (s.rn (Aj j)) ops (fun s' v=>k (s'.rn (Aj j)) (v.rn (Aj j)))
 |none=>false
theorem Pl.rn_rn{σ:Nm->Nm}(hσ:NmR σ)(p:Pl):(p.rn σ).rn σ=p:=by simp[Pl.rn,hσ.inv]
theorem Tt.rn_rn{σ:Nm->Nm}(hσ:NmR σ)(t:Tt):(t.rn σ).rn σ=t:=by cases t<;>simp[Tt.rn,Pl.rn_rn hσ]
theorem A1.rn_rn{σ:Nm->Nm}(hσ:NmR σ)(x:A1):(x.rn σ).rn σ=x:=by
 cases x with
 |c t=>simp[A1.rn,Tt.rn_rn hσ]
 |agg ts=>simp[A1.rn,Function.comp_def,Tt.rn_rn hσ]
theorem At.rn_rn{σ:Nm->Nm}(hσ:NmR σ)(x:At):(x.rn σ).rn σ=x:=by
 cases x with
 |one t=>simp[At.rn,A1.rn_rn hσ]
 |tup ts=>simp[At.rn,Function.comp_def,A1.rn_rn hσ]
 |any=>rfl
theorem Rt.rn_rn{σ:Nm->Nm}(hσ:NmR σ)(r:Rt):(r.rn σ).rn σ=r:=by
 cases r;simp[Rt.rn,Function.comp_def,Tt.rn_rn hσ]
theorem CX{σ:Nm->Nm}(t:List (Nat×Nat×At))(k:Nat):bJ (t.map fun x=>(x.1,x.2.1,x.2.2.rn σ)) k=(bJ t k).map fun x=>(x.1,x.2.rn σ):=by
 induction t with
 |nil=>rfl
 |cons x r ih=>
  obtain⟨i,j,v⟩:=x;simp only[List.map_cons,bJ];split
  ·rfl
  ·exact ih
theorem CV{σ:Nm->Nm}(hσ:NmR σ)(m:List (Nm×Nat×Rt))(n:Nm):bZ (m.map fun x=>(σ x.1,x.2.1,x.2.2.rn σ)) (σ n)=(bZ m n).map fun x=>(x.1,x.2.rn σ):=by
 induction m with
 |nil=>rfl
 |cons x r ih=>
  obtain⟨i,j,v⟩:=x;simp only[List.map_cons,bZ];by_cases h:i=n
  ·subst h;simp
  ·rw[if_neg (fun e=>h (hσ.inj e)),if_neg h];exact ih
theorem Ext.rn{σ:Nm->Nm}(hσ:NmR σ){s s':St}(h:Ext (s.rn σ) s'):Ext s (s'.rn σ):=by
 refine⟨h.nx,fun k j v hk hj=>?_,fun n j r hn hj=>?_⟩
 ·rw[show(s'.rn σ).t=s'.t.map fun x=>(x.1,x.2.1,x.2.2.rn σ)from rfl,CX]at hk;cases h1:bJ s'.t k with
  |none=>rw[h1]at hk;cases hk
  |some x=>
   rw[h1]at hk;obtain⟨j',v'⟩:=x;simp only[Option.map_some,WG,Prod.mk.injEq]at hk;obtain⟨rfl,rfl⟩:=hk;have h2:=h.t k j' v' h1 hj
   rw[show(s.rn σ).t=s.t.map fun x=>(x.1,x.2.1,x.2.2.rn σ)from rfl,CX]at h2;cases h3:bJ s.t k with
   |none=>rw[h3]at h2;cases h2
   |some y=>
    rw[h3]at h2;obtain⟨j2,v2⟩:=y;simp only[Option.map_some,WG,Prod.mk.injEq]at h2;rw[<- h2.1,<- h2.2,At.rn_rn hσ]
 ·rw[<- hσ.inv n,show(s'.rn σ).m=s'.m.map fun x=>(σ x.1,x.2.1,x.2.2.rn σ)from rfl,CV hσ]at hn;cases h1:bZ s'.m (σ n)with
  |none=>rw[h1]at hn;cases hn
  |some x=>
   rw[h1]at hn;obtain⟨j',v'⟩:=x;simp only[Option.map_some,WG,Prod.mk.injEq]at hn;obtain⟨rfl,rfl⟩:=hn;have h2:=h.m (σ n) j' v' h1 hj
   rw[show(s.rn σ).m=s.m.map fun x=>(σ x.1,x.2.1,x.2.2.rn σ)from rfl,CV hσ]at h2;cases h3:bZ s.m n with
   |none=>rw[h3]at h2;cases h2
   |some y=>
    rw[h3]at h2;obtain⟨j2,v2⟩:=y;simp only[Option.map_some,WG,Prod.mk.injEq]at h2;rw[<- h2.1,<- h2.2,Rt.rn_rn hσ]
theorem Nw{s:St}{j:Nat}(h:apK s=some j):1<=j/\j < 1000:=by
 unfold apK at h;dsimp only at h;split at h
 ·rename_i hb;obtain rfl:=Option.some.inj h;simp only[WI]at hb;exact⟨WT hb.1,by simpa using hb.2⟩
 ·cases h
theorem GY{P:Program}{f:Nat}{C:CKt}(h:Cont P f C):Cont P f (apT C):=by
 refine⟨h.run,fun pk s ops k k' hk hc=>?_,fun g pk s a w H γ F ops k hX hops hc=>?_⟩
 ·unfold apT at hc⊢;split at hc
  ·rename_i j hj;have hσ:=Ju (Nw hj)
   exact h.ext _ _ _ _ _ (fun s' v he=>hk _ _ (he.rn hσ)) hc
  ·exact hc.elim
 ·unfold apT at hc;split at hc
  ·rename_i j hj;have hσ:=Ju (Nw hj)
   have hX2:=IA hσ (out:=g.out) (ds:=g.dfs) hX rfl hX.df.1 (fun i b hb=>hX.df.2.1 i b hb)
   refine(h.call _ _ _ a w H _ _ ops _ hX2 hops hc).mono ?_;rintro e w' (⟨r,s',av,H',γ',F',rfl,k1,k2,k3⟩|⟨v,s',rfl,k1,H',γ',F',k2⟩)
   ·refine .inl ⟨r,_,_,H',_,_,rfl,k1,?_,IA hσ (out:=g.out) (ds:=g.dfs) k3 rfl k3.df.1 (fun i b hb=>k3.df.2.1 i b hb)⟩;rw[At.rn_toV];show AR w' H' _ (s'.rn (Aj j)).toS.m _ _
    rw[St.rn_toS];exact S6 hσ k2
   ·exact .inr ⟨v,_,rfl,k1,H',_,_,IA hσ (out:=g.out) (ds:=g.dfs) k2 rfl k2.df.1 (fun i b hb=>k2.df.2.1 i b hb)⟩
  ·exact hc.elim
end Go.Am
end

section
namespace Go.Am
open Go Go.Proofs
def lky:U->Bool
 |.i _=>true
 |.bo=>true
 |.s=>true
 |_=>false
theorem OW{u:U}(h:lky u=true):leaf u=true:=by cases u<;>first|rfl|cases h
theorem RV{u:U}(h:lky u=true)(x:El u):(aj u x).toD.isKey=true:=by cases u<;>first|rfl|cases h
def RZ(n:Nm):CKt:=fun _ s ops k=>match ops with
 |[x]=>
  let s0:=dV s (evA s x)
  let s1:=s0.fresh n
  match evA s1 x with
  |.one (.c (.d (.mp ku vu z)))=>match lky ku&&leaf vu with
   |true=>z.isSome=true/\k (s1.root n ⟨false,[.mp ku vu (z.getD [])],none⟩) (.one (.c (.rf ⟨n,0,[]⟩)))
   |false=>False
  |_=>False
 |_=>False
section
variable {P:Program}
theorem MA{f:Nat}{fn:Func}{n:Nm}(hno:n.isOut=false)(hf:P.funcs[f]? = some fn) (hname:(fn.name == "runtime.NumGoroutine")=false) (hb:fn.body.isSome=true)
  (hbody:∀(b:Nat)(es:Array MapEntry)(ck:Nat)(w:World),w.heap[b]? = some (.map es ck)->Calls P f #[.map (some b)] w fun e w'=>e=.returned (.map (some w.heap.size))/\w'=w.alloc (.map es ck)):Cont P f (RZ n):=by
 refine⟨fun args w=>gp hf hname hb args w,fun pk s ops k k' hk hc=>?_,fun g pk s a w H γ F1 ops k hX hops hc=>?_⟩
 ·unfold RZ at hc⊢;split at hc
  ·dsimp only at hc⊢;split at hc
   ·split at hc
    ·exact⟨hc.1,hk _ _ ((eY _ _).trans ((bB _ _).trans (cf _ _ _))) hc.2⟩
    ·exact hc.elim
   ·exact hc.elim
  ·exact hc.elim
 ·unfold RZ at hc;split at hc
  ·rename_i o;dsimp only at hc;have ho:ax o=true:=by simpa using hops
   obtain⟨H1,F2,h1⟩:=e9 hX (evA s o);generalize dV s (evA s o)=s0 at hc h1;have h2:=bX h1 n
   have hn:=bH h1 n
   have e1:(s0.fresh n).toS=s0.toS.fresh n:=bk (d9 h1)
   rw[<- e1]at h2 hn;generalize s0.fresh n=s1 at hc h2 hn;have hv:=aA h2 ho
   rw[af ho]at hv;split at hc
   ·rename_i ku vu z he;rw[he]at hv;split at hc
    ·rename_i hlf;rw[WI]at hlf;obtain⟨hz,hc⟩:=hc;obtain⟨l,rfl⟩:∃l,z=some l:=by cases z with|none=>cases hz|some l=>exact⟨l,rfl⟩
     have hd:FDx H1 (.mp (some (l.map fun x=>((al ku x.1).headD .any,(al vu x.2).headD .any)))) (a.eval o):=hv.2
     have el:(l.map fun x=>((al ku x.1).headD .any,(al vu x.2).headD .any))=l.map fun x=>((aj ku x.1).toD,(aj vu x.2).toD):=W1 fun x _=>by rw[gI (OW hlf.1),gI hlf.2]
     rw[el]at hd;obtain⟨b,es,ck,c1,c2,c3,c4⟩:=MI h2.mem.agree (fun e he=>by
      obtain⟨x,_,rfl⟩:=Xa.1 he;exact RV hlf.1 x.1) hd
     rw[WZ]at c4;have c4:MpO w H1 (l.map (rv ku vu)) es.toList (fun _=>0):=c4
     rw[show(([o].map a.eval).toArray:Array Value)=#[.map (some b)]by rw[List.map_cons,List.map_nil,c1]];refine Calls.mono (hbody b es ck w c2) ?_;rintro e w' ⟨rfl,rfl⟩
     have hold:∀k,k<w.heap.size->(w.alloc (.map es ck)).heap[k]? = w.heap[k]? := fun k hk=>bU hk
     have h3:=mg h2 (w':=w.alloc (.map es ck)) (by simp) rfl rfl rfl (fun b hb=>.inl (hold b hb))
     have htz:tot F2 s1.toS.m w.heap.size=0:=by
      rcases W7 (tot F2 s1.toS.m w.heap.size)with h'|h'
      ·exact h'
      ·have:=h2.mem.lt w.heap.size Z1;omega
     obtain⟨γ',F',h4,hγ⟩:=cG h3 hno hn (v:=.map (some w.heap.size)) (t:=.mp (l.map (rv ku vu))) (f:=fun b=>if b=w.heap.size then 1 else 0) ⟨w.heap.size,es,ck,fun _=>0,rfl,bi,c3,ix (fun _ _ _ h=>h) (fun b hb=>absurd rfl hb) c4,fun _=>(Xy _).symm⟩ (fun b=>by
       by_cases e:b=w.heap.size
       ·subst e;rw[htz];simp
       ·rw[if_neg e];have:=h2.mem.le1 b;omega) (fun b hb=>by
       have e:b=w.heap.size:=by
        by_cases e:b=w.heap.size
        ·exact e
        ·rw[if_neg e]at hb;exact absurd rfl hb
       subst e;refine⟨by simp,fun o=>?_⟩;cases hc:H1 w.heap.size o with
       |none=>rfl
       |some y=>have:=(h2.mem.agree _ _ _ hc).lt;simp at this) (fun b hb=>by
       right
       have e:b=w.heap.size:=by
        by_cases e:b=w.heap.size
        ·exact e
        ·rw[if_neg e]at hb;exact absurd rfl hb
       have:=h2.fr.size
       omega)
     have e2:(s1.root n ⟨false,[.mp ku vu l],none⟩).toS=⟨s1.toS.t,(n,⟨false,[.mp (l.map (rv ku vu))]⟩)::s1.toS.m⟩:=rfl
     rw[<- e2]at h4;refine .inl ⟨_,_,_,H1,γ',F',rfl,hc,?_,h4⟩;exact qN (l:=l.map (rv ku vu)) (by show ab ((n,(⟨false,[.mp (l.map (rv ku vu))]⟩:Root))::s1.toS.m) n=_;simp[ab]) hγ
    ·exact hc.elim
   ·exact hc.elim
  ·exact hc.elim
end
end Go.Am
end

section
namespace Go.Am
open Go Go.RowKit Go.Maps Go.Sort Go.Shelf Go.Proofs
section
variable {P:Program}
theorem yF{f:Nat}{φ:List AV->(AV->Prop)->Prop}{ps rs:List U}{pre:Fl ps->Prop}{post:Fl ps->Fl rs->Prop}(hφ:∀x K,pre x->(∀y,post x y->K (bL rs y).toV)->φ (eL ps x) K)(h:Con P f (mQ φ)):Cont P f (qi ps rs pre post):=by
 refine⟨h.run,fun pk s ops k k' hk hcc=>?_,fun g pk s a w H γ F1 ops k hX hops hcc=>?_⟩
 ·unfold qi at hcc⊢;dsimp only at hcc⊢;split at hcc
  ·exact⟨hcc.1,fun y hy=>hk _ _ (bN _ _) (hcc.2 y hy)⟩
  ·exact hcc.elim
 ·unfold qi at hcc;dsimp only at hcc;obtain⟨H1,F2,h1⟩:=cE (ops.map (evA s)) s H F1 hX;generalize bw s (ops.map (evA s))=s1 at hcc h1;split at hcc
  ·rename_i x hx;obtain⟨c1,c2,c3⟩:=dl hx;refine Calls.mono (h.call g s1.toS a w H1 γ F2 ops (fun s' av=>∃t v',SEq s' t.toS/\av=v'.toV/\k t v') h1 hops ?_) ?_
   ·unfold mQ;dsimp only;rw[dR hops,dE c1];have e:(ops.map fun x=>(ev s1.toS x).map T.canon)=(ops.map (ev s1.toS)).map (AV.map T.canon):=by rw[WZ];rfl
    rw[e,dR hops];refine⟨c2,?_⟩;rw[c3];exact hφ x _ hcc.1 fun y hy=>⟨s1,_,⟨fun _=>rfl,rfl⟩,rfl,hcc.2 y hy⟩
   ·rintro e w' ⟨r,s',av,H',γ',F',k1,⟨t,v',e1,rfl,k2⟩,k3,k4⟩
    refine .inl ⟨r,t,v',H',γ',F',k1,k2,?_,aS e1 k4⟩;rw[e1.2]at k3;exact k3
  ·exact hcc.elim
end
theorem uB:Cont prog 166 (RZ (.gh 800000)):=MA rfl func166 Z0 Z0 (fun b es ck w hb=>AnyW.maps_Clone Tryz.clone106 b es ck w hb)
set_option maxHeartbeats 1000000 in
theorem FV{H:Type}(b nn:Nat)(D0:DataW H)(R:Value->Option (DataW H×List MemPlace))(w:World)(hown:w.ownsMap prog 9 R b nn D0)(hmax:Maps.size D0<=maxLen)(hbytes:Maps.size D0*16<=140737488355328) :
  Calls prog 206 #[.map (some b)] w fun e w'=>∃(v:Value)(ss:List (List UInt8)),e=.returned v/\ss.Perm (strKeys D0) /\
   w'.ownsRow w.heap.size 9 1 v ss.length ((ss.mergeSort (fun x y=>decide (x<=y))).map encStr)/\(v=.slice none 0 0 ↔ ss=[])/\Below w.heap.size w w':=by
 refine(callsIn_wide (n:=6)).1 ?_;have hfK:Fence.wide.fn 234:=trivial
 have hfS:Fence.wide.fn 233:=trivial
 refine callsIn_of_wp func206 rfl trivial ?_ rfl;simp only[Tryz.ntmps206,List.size_toArray,WL,WQ,Nat.reduceAdd,Nat.reduceSub,Array.replicate_succ,Array.replicate_zero,List.push_toArray,List.append_toArray,X2,Xu]
 gi_wp2_with (first
  |(gi_at_call 234;refine(Tryz.maps_Keys_210 _ _).mono ?_;rintro e w' ⟨rfl,rfl⟩)
  |(gi_at_call 233;refine(Tryz.slices_Sorted_keys_209_210 b nn D0 R w hown hmax hbytes).mono ?_;rintro e w' ⟨v,ss,rfl,hS,hrow,hnil,hb⟩))
 go_ret
 exact⟨v,ss,rfl,hS,ownsRow_base_a hrow (by simp),hnil,((Below.refl _ w).alloc (WN _) _).trans (hb.mono (by simp))⟩
section
variable {P:Program}
theorem AA{f:Nat}{ps rs:List U}{pre:Fl ps->Prop}{post:Fl ps->Fl rs->Prop}(hrun:∀args w,(callFunc f args).run P w=.ok (.enter f args) w)
  (hbody:∀(x:Fl ps)(args:List Value)(w:World)(H:FH)(γ:Gam),pre x->args.length=(eL ps x).length->(∀(i:Nat)v,(eL ps x)[i]? = some v->∃y,args[i]? = some y/\AR w H γ [] v y)->Globs H ->
   (∀b o y,H b o=some y->RdV w b o y) ->
   Calls P f args.toArray w (fun e w'=>∃r H2 y,e=.returned r/\post x y/\Below w.heap.size w w'/\(∀b o y,H b o=some y->H2 b o=some y)/\(∀b o,H2 b o≠none->H b o=none->w.heap.size<=b)/\(∀b o x l c,H2 b o=some (.c (.slice x l c))->H b o=none->Thawed w' b) /\
    (∀b o y,H2 b o=some y->RdV w' b o y)/\AR w' H2 γ [] (bL rs y).toV r)):Cont P f (qi ps rs pre post):=
 yF (φ:=fun avs K=>∃x:Fl ps,avs=eL ps x/\pre x/\∀y,post x y->K (bL rs y).toV) (fun x K hp hk=>⟨x,rfl,hp,hk⟩)
  (xe hrun (fun avs K args w H γ⟨x,hx,hp,hk⟩hl ha hg hag=>by
   subst hx;refine(hbody x args w H γ hp hl ha hg hag).mono ?_;rintro e w' ⟨r,H2,y,h1,hy,h2,h3,h4,hz,h5,h6⟩
   exact⟨r,_,H2,h1,hk y hy,h2,h3,h4,hz,h5,Jo rs y,h6⟩))
end
def Nv:Value->Option (DataW Unit×List MemPlace):=fun _=>some (.lit (.bool true),[])
theorem Sl{b ck:Nat}{es:Array MapEntry}{w:World}(hb:w.heap[b]? = some (.map es ck))(hst:MapKept.Stamped es ck)(hsz:es.size<=1000000)(hk:∀e∈es.toList,∃l:List UInt8,e.key=.string ⟨l.toArray⟩/\l.length<=BIG) :
  ∃D0:DataW Unit,w.ownsMap prog 9 Nv b es.size D0/\(∀v,v∈strKeys D0 ↔ ∃e∈es.toList,e.key=.string ⟨v.toArray⟩)/\Maps.size D0=es.size:=by
 have rdk:∀e∈es.toList,∀l:List UInt8,e.key=.string ⟨l.toArray⟩->l.length<=BIG->WideElems.rd prog 9 Nv e=some (.string l,.lit (.bool true)):=fun e he l h1 h2=>by
  unfold WideElems.rd;rw[h1,WideMaps.keyOf_string_mk underlying9 (by show l.toArray.size<=_;unfold BIG at h2;unfold maxLen;simp;omega)];simp[Nv]
 have hp:=WideShapes.sorted_perm (es.toList.map (WideElems.rg prog 9 Nv))
 refine⟨_,⟨es,ck,hb,⟨by unfold maxLen;omega,hst,fun e he=>?_⟩,WN _,rfl⟩,fun v=>?_,?_⟩
 ·obtain⟨l,h1,h2⟩:=hk e he;exact⟨_,rdk e he l h1 h2⟩
 ·show v∈List.map _ _ ↔ _
  rw[(hp.map _).mem_iff];simp only[Xa];constructor
  ·rintro⟨_,⟨e,he,rfl⟩,rfl⟩
   obtain⟨l,h1,h2⟩:=hk e he;refine⟨e,he,?_⟩;unfold WideElems.rg;rw[rdk e he l h1 h2,h1];rfl
  ·rintro⟨e,he,h1⟩
   obtain⟨l,h3,h2⟩:=hk e he;refine⟨_,⟨e,he,rfl⟩,?_⟩;unfold WideElems.rg;rw[rdk e he l h3 h2];rw[h3]at h1;have:l=v:=by simpa using h1
   rw[<- this];rfl
 ·have e:∀l:List (Lit×DataW Unit),Maps.size (DataW.map l)=l.length:=fun _=>rfl
  rw[e,hp.length_eq,WJ,Array.length_toList]
def D7:CKt:=qi [.mp .s .bo] [.sl .s] (fun x=>iZ x) (fun x y=>fY x y)
theorem ET:Cont prog 206 D7:=AA (gp (fn:=f206) Z0 Z0 Z0) (fun x args w H γ hpre hl ha hg hag=>by
 obtain⟨hs,hn⟩:=hpre;obtain⟨L,rfl⟩:∃L:List (List UInt8×Bool),x=some L:=by cases x with|none=>cases hs|some L=>exact⟨L,rfl⟩
 have hn:L.length<=1000000:=hn
 obtain⟨u,rfl⟩:∃u,args=[u]:=List.length_eq_one_iff.1 hl
 obtain⟨u',h0,h1⟩:=ha 0 _ rfl;obtain rfl:u=u':=by simpa using h0
 have hfd:FDx H (.mp (some (L.map fun x=>(.str x.1,.bool x.2)))) u:=h1.2
 obtain⟨m,hfd⟩:=hfd;cases m with
 |zero=>exact hfd.elim
 |succ m=>
  obtain⟨b,es,ck,rfl,k1,k2,k3⟩:=hfd;obtain⟨k4,k5⟩:=hag b 0 _ k1;rw[WJ]at k2;have hkey:∀(i:Nat)(e:MapEntry),es.toList[i]? = some e->∃z,L[i]? = some z/\e.key=.string ⟨z.1.toArray⟩/\z.1.length<=BIG:=fun i e he=>by
   have hi:i<L.length:=by rw[<- k2];exact(Xh.1 he).1
   have hz:=WH hi
   have:=(k3 i (.str L[i].1,.bool L[i].2) e (by rw[WK,hz];rfl) he).1
   have this:e.key=.string ⟨L[i].1.toArray⟩/\L[i].1.length<=BIG:=by cases m<;>exact this
   exact⟨_,hz,this⟩
  obtain⟨D0,hown,hmem,hsize⟩:=Sl k4 k5 (by rw[<- Array.length_toList,k2];exact hn) (fun e he=>by
   obtain⟨i,hi⟩:=X7.1 he;obtain⟨z,_,h⟩:=hkey i e hi;exact⟨z.1,h⟩)
  have hsz:es.size<=1000000:=by rw[<- Array.length_toList,k2];exact hn
  have hkeys:∀v,v∈strKeys D0 ↔ v∈L.map (·.1):=fun v=>by
   rw[hmem];constructor
   ·rintro⟨e,he,h⟩
    obtain⟨i,hi⟩:=X7.1 he;obtain⟨z,hz,h2,_⟩:=hkey i e hi;rw[h2]at h;have:z.1=v:=by simpa using h
    exact Xa.2 ⟨z,X7.2 ⟨i,hz⟩,this⟩
   ·intro h;obtain⟨z,hz,rfl⟩:=Xa.1 h;obtain⟨i,hi⟩:=X7.1 hz;have hi2:i<es.toList.length:=by rw[k2];exact(Xh.1 hi).1
    obtain⟨z',hz',h2,_⟩:=hkey i _ (WH hi2);rw[hi]at hz';obtain rfl:=Option.some.inj hz';exact⟨_,Xj hi2,h2⟩
  have hbig:∀v∈L.map (·.1),v.length<=BIG:=fun v hv=>by
   obtain⟨e,he,h⟩:=(hmem v).1 ((hkeys v).2 hv);obtain⟨i,hi⟩:=X7.1 he;obtain⟨z,_,h2,h3⟩:=hkey i e hi;rw[h2]at h;have:z.1=v:=by simpa using h
   rw[<- this];exact h3
  refine(FV b es.size D0 Nv w hown (by rw[hsize];unfold maxLen;omega) (by rw[hsize];omega)).mono ?_;rintro e w' ⟨v,ss,rfl,hS,hrow,hnil,hb⟩
  have hlen:=hS.length_eq
  have hmS:=List.mergeSort_perm ss fun x y=>decide (x<=y)
  have hml:=hmS.length_eq
  generalize ss.mergeSort (fun x y=>decide (x<=y))=Q at hrow hmS hml;have hQ:∀v,v∈Q ↔ v∈L.map (·.1):=fun v=>(hmS.mem_iff.trans hS.mem_iff).trans (hkeys v)
  have hQl:Q.length<=1000000:=by
   rw[hml,hlen];have:(strKeys D0).length=Maps.size D0:=by
    unfold strKeys Maps.size;split<;>simp
   rw[this,hsize];exact hsz
  obtain⟨_,hrow⟩:=hrow;rcases hrow with⟨rfl,hz⟩|⟨gb,cap,cur,rfl,r0,r1,r2,r3,r4,r5⟩
  ·obtain rfl:Q=[]:=Xw Z1;refine⟨_,H,[],rfl,hQ,hb,fun _ _ _ h=>h,fun b o h1 h2=>absurd h2 h1,fun b o x l c h1 h2=>by(rw[h2]at h1;cases h1),fun b o y h=>(hag b o y h).frame (hb.block b (hag b o y h).lt),fun _=>rfl,1,?_⟩;show FD _ 1 (.li []) _
   rw[kh];exact⟨none,0,rfl,WN _,by simp,.inl rfl⟩
  ·have hHg:∀o,H gb o=none:=fun o=>by
    cases hc:H gb o with
    |none=>rfl
    |some y=>have:=(hag _ _ _ hc).lt;omega
   rw[Nat.mul_one]at r4 r5;have hcell:∀o(ho:o<Q.length),cur[o]? = some (encStr Q[o]):=fun o ho=>by
    have h9:(cur.toList.take ss.length)[o]? = some (encStr Q[o]):=by rw[r5,WK,WH ho];rfl
    rw[W3 Z1]at h9;rw[<- Array.getElem?_toList];exact h9
   refine⟨_,fun b o=>if b=gb then(Q.map encStr)[o]?.map HV.c else H b o,Q,rfl,hQ,hb,fun b o y h=>?_,fun b o h1 h2=>?_,fun b o x l c h1 h2=>?_,fun b o y h=>?_,fun _=>rfl,1,?_⟩
   ·have:=(hag b o y h).lt
    dsimp only;rw[if_neg Z1];exact h
   ·dsimp only at h1;split at h1
    ·omega
    ·exact absurd h2 h1
   ·dsimp only at h1;split at h1
    ·obtain⟨z,hz,e⟩:=WW.1 h1;obtain rfl:=HV.c.inj e;have h1:=W9 hz
     obtain⟨q,_,e⟩:=Xa.1 h1;unfold encStr at e;cases e
    ·rw[h2]at h1;cases h1
   ·dsimp only at h;split at h
    ·rename_i hbb;subst hbb;obtain⟨z,hz,rfl⟩:=WW.1 h;rw[WK]at hz;obtain⟨q,hq,rfl⟩:=WW.1 hz;have ho:=(Xh.1 hq).1
     have hc:=hcell o ho
     rw[(Xh.1 hq).2]at hc;show World.cell? _ _=some _
     unfold World.cell?;rw[r1];exact hc
    ·exact(hag b o y h).frame (hb.block b (hag b o y h).lt)
   ·show FD _ 1 (.li (Q.map (al .s))) _
    rw[kh];unfold BIG;refine⟨_,_,by rw[WJ,hml],by rw[WJ];omega,by rw[WJ];omega,.inr ⟨gb,0,1,rfl,fun i hi=>?_⟩⟩;have hi:i<Q.length:=by simpa using hi
    have e:(Q.map (al .s)).getD i []=[.str Q[i]]:=by
     rw[List.getD,WK,WH hi];rfl
    rw[e];refine⟨rfl,fun j hj=>?_⟩;have hj:j=0:=by omega
    subst hj;refine⟨encStr Q[i],?_,?_⟩
    ·dsimp only;rw[if_pos rfl];simp[hi]
    ·exact⟨rfl,hbig _ ((hQ _).1 (Xj hi))⟩)
end Go.Am
end

section
namespace Go.Am
theorem ba{p:Prop}[d:Decidable p]{b:Bool}(h:dand p b=true):p/\b=true:=by
 unfold dand at h;split at h
 ·rename_i hp;exact⟨hp,h⟩
 ·cases h
section
variable {kb:At->Bool} {k:At->Prop} (hk:∀v,kb v=true->k v)
include hk
theorem Pj{c x y:At}(h:Pi c x y kb=true):sM c x y k:=by
 unfold Pi at h;unfold sM;split at h
 ·split at h
  ·rename_i e;rw[if_pos e];exact hk _ h
  ·rename_i e;rw[if_neg e];exact hk _ h
 ·cases h
omit hk in
theorem R6{op:BinOp}{κ:IntKind}{a b:Int}{kb:C->Bool}{k:C->Prop}(hk:∀v,kb v=true->k v)(h:UJ op κ a b kb=true):FW op κ a b k:=by
 unfold UJ at h;unfold FW;cases op<;>first|exact hk _ h|exact⟨(ba h).1,hk _ (ba h).2⟩
omit hk in
theorem NA{op:BinOp}{x y:C}{kb:C->Bool}{k:C->Prop}(hk:∀v,kb v=true->k v)(h:Nz op x y kb=true):wB op x y k:=by
 unfold Nz at h;unfold wB;split at h
 ·cases op<;>first|exact hk _ h|exact⟨(ba h).1,hk _ (ba h).2⟩|(cases h;done)
 ·split at h
  ·split at h
   ·rename_i hc;rw[if_pos hc];exact R6 hk h
   ·cases h
  ·cases h
theorem QB{P:Program}{op:BinOp}{t:TypeId}{x y:At}(h:T5 P op t x y kb=true):By P op t x y k:=by
 unfold T5 at h;unfold By
 (repeat' split at h)<;>first|(cases h;done)|exact hk _ h|exact NA (fun _=>hk _) h
theorem UZ{op:UnOp}{x:At}(h:unB op x kb=true):unT op x k:=by
 unfold unB at h;unfold unT;split at h
 ·exact hk _ h
 ·split at h
  ·exact hk _ h
  ·cases h
 ·split at h
  ·exact hk _ h
  ·cases h
 ·cases h
theorem BX{x:At}{i:Nat}(h:uQ x i kb=true):gL x i k:=by
 unfold uQ at h;unfold gL
 (repeat' split at h)<;>first|(cases h;done)|exact hk _ h
omit hk in
theorem Ry{gd:Option (Nat×Bool)}{n:Nat}{q:Prop}(h:q):gift gd n q:=by
 unfold gift;split
 ·exact fun _=>h
 ·exact h
omit hk in
theorem RQ{gd:Option (Nat×Bool)}{m:List (Nm×Nat×Rt)}{x:At}{kb:Nat->Bool}{k:Nat->Prop}(hk:∀v,kb v=true->k v)(h:UF gd m x kb=true):CR gd m x k:=by
 unfold UF at h;unfold CR
 (repeat' split at h)<;>first|(cases h;done)|exact hk _ h|exact Ry (hk _ h)
theorem Mc{x i:At}(h:GD x i kb=true):m5 x i k:=by
 unfold GD at h;unfold m5
 (repeat' split at h)<;>first|(cases h;done)|exact⟨(ba h).1,hk _ (ba h).2⟩
omit hk in
theorem nv{x:Option At}{d:Nat}{kb:Nat->Bool}{k:Nat->Prop}(hk:∀v,kb v=true->k v)(h:mn x d kb=true):dX x d k:=by
 unfold mn at h;unfold dX
 (repeat' split at h)<;>first|(cases h;done)|exact hk _ h|exact⟨(ba h).1,hk _ (ba h).2⟩
theorem L5{P:Program}{t:TypeId}{x:At}{lo hi:Option At}(h:Gz P t x lo hi kb=true):mZ P t x lo hi k:=by
 unfold Gz at h;unfold mZ
 (repeat' split at h)<;>first|(cases h;done)|exact nv (fun _=>nv fun _ h=>⟨(ba h).1,hk _ (ba h).2⟩) h|exact nv (fun _=>nv fun _ h=>⟨(ba h).1.1,(ba h).1.2,hk _ (ba h).2⟩) h
theorem wH{P:Program}{m:List (Nm×Nat×Rt)}{t:TypeId}{x:At}{i:Nat}(h:oR P m t x i kb=true):dD P m t x i k:=by
 unfold oR at h;unfold dD
 (repeat' split at h)<;>first|(cases h;done)|exact hk _ h
theorem wK{P:Program}{m:List (Nm×Nat×Rt)}{t:TypeId}{x i:At}(h:oU P m t x i kb=true):db P m t x i k:=by
 unfold oU at h;unfold db
 (repeat' split at h)<;>first|(cases h;done)|exact⟨(ba h).1,hk _ (ba h).2⟩
theorem CU{P:Program}{m:List (Nm×Nat×Rt)}{t:TypeId}{x:At}(h:Jb P m t x kb=true):iU P m t x k:=by
 unfold Jb at h;unfold iU
 (repeat' split at h)<;>first|(cases h;done)|exact hk _ h|exact⟨(ba h).1,hk _ (ba h).2⟩
theorem K2{P:Program}{t:TypeId}{x:At}{i:Nat}(h:E2 P t x i kb=true):mA P t x i k:=by
 unfold E2 at h;unfold mA
 (repeat' split at h)<;>first|(cases h;done)|exact hk _ h
theorem zK{x:At}(h:rO x kb=true):fg x k:=by
 unfold rO at h;unfold fg
 (repeat' split at h)<;>first|(cases h;done)|exact hk _ h
theorem Kr{P:Program}{t:TypeId}{ps:List (Nat×At)}(h:EP P t ps kb=true):mr P t ps k:=by
 unfold EP at h;unfold mr
 (repeat' split at h)<;>first|(cases h;done)|exact hk _ h
theorem N9{P:Program}{su du:TypeId}{x:At}(h:N8 P su du x kb=true):sD P su du x k:=by
 unfold N8 at h;unfold sD
 (repeat' split at h)<;>first|(cases h;done)|exact hk _ h
theorem FO{P:Program}{m:List (Nm×Nat×Rt)}{t:TypeId}{x key:At}{ok:Bool}(h:zE P m t x key ok kb=true):jC P m t x key ok k:=by
 unfold zE at h;unfold jC
 (repeat' split at h)<;>first|(cases h;done)|exact hk _ h
end
section
variable {s:St} {kb:St->Bool} {k:St->Prop} (hk:∀s',kb s'=true->k s')
include hk
theorem Kc{P:Program}{t:TypeId}{d:Tmp}(h:EC P s t d kb=true):ml P s t d k:=by
 unfold EC at h;unfold ml
 (repeat' split at h)<;>first|(cases h;done)|exact hk _ h
theorem QG{x:Operand}{d:Tmp}(h:T7 s x d kb=true):BB s x d k:=by
 unfold T7 at h;unfold BB
 (repeat' split at h)<;>first|(cases h;done)|exact hk _ h
theorem ut{P:Program}{E:Ut}{t:TypeId}{n:Nat}{ps:Array (Nat×Operand)}{d:Tmp}(h:mq P E s t n ps d kb=true):cW P E s t n ps d k:=by
 unfold mq at h;unfold cW;dsimp only at h⊢
 (repeat' split at h)<;>first|(cases h;done)|exact hk _ h
theorem rh{P:Program}{E:Ut}{sub:List Sh}{t:TypeId}{n:Nat}{ps:Array (Nat×Operand)}{d:Tmp}(h:jS P E sub s t n ps d kb=true):cu P E sub s t n ps d k:=by
 unfold jS at h;unfold cu;dsimp only at h⊢
 (repeat' split at h)<;>first|(cases h;done)|exact hk _ h
theorem rj{P:Program}{E:Ut}{sub:List Sh}{t:TypeId}{n:Nat}{ps:Array (Nat×Operand)}{d:Tmp}(h:jU P E sub s t n ps d kb=true):cv P E sub s t n ps d k:=by
 unfold jU at h;unfold cv
 (repeat' split at h)<;>first|(cases h;done)|exact hk _ h
omit hk in
theorem qc{q:Bool}{p:Prop}(hq:q=true->p):∀(path:List Step)(sub:List Sh)(u:U)(l:List (El u)),yj sub u l path q=true->mL sub u l path p
 |[],_,_,_,h=>by cases h
 |[_],_,_,_,h=>⟨(ba h).1,hq (ba h).2⟩
 |st::st'::r,sub,u,l,h=>by
  unfold yj at h;unfold mL;split at h
  ·exact⟨(ba h).1,qc hq (st'::r) _ _ _ (ba h).2⟩
  ·cases h
omit hk in
theorem uN{q:Bool}{p:Prop}(hq:q=true->p):∀(a b:List Step),tw a b q=true->ly a b p
 |[],[],h=>hq h
 |a::r,b::t,h=>by
  unfold tw at h;unfold ly;split at h
  ·exact⟨(ba h).1,uN hq r t (ba h).2⟩
  ·cases h
 |[],_::_,h=>by cases h
 |_::_,[],h=>by cases h
theorem zX{p:Pl}{t:Tt}(h:Ss s p t kb=true):wZ s p t k:=by
 unfold Ss at h;unfold wZ
 (repeat' split at h)<;>first|(cases h;done)|exact hk _ h|exact qc (hk _) _ _ _ _ h|exact qc (uN (hk _) _ _) _ _ _ _ h
theorem Gk{p:Pl}{ts:List Tt}(h:zY s p ts kb=true):jI s p ts k:=by
 unfold zY at h;unfold jI
 (repeat' split at h)<;>first|(cases h;done)|exact qc (hk _) _ _ _ _ h
omit hk in
theorem lP{kb:St->Bool}{k:St->Prop}(hk:∀s',kb s'=true->k s'):∀(ts:List Tt)(s:St)(p:Pl),qx s p ts kb=true->fH s p ts k
 |[],_,_,h=>hk _ h
 |t::ts,s,p,h=>by
  cases t with
  |rf q=>
   simp only[qx]at h;simp only[fH]
   (repeat' split at h)<;>first|(cases h;done)|exact zX (fun s' h'=>lP hk ts _ _ h') h
  |any=>cases h
  |d c=>cases c<;>first|(cases h;done)|exact zX (fun s' h'=>lP hk ts _ _ h') h
  |_=>exact zX (fun s' h'=>lP hk ts _ _ h') h
theorem L9{P:Program}{t:TypeId}{x v:At}(h:GA P s t x v kb=true):m0 P s t x v k:=by
 unfold GA at h;unfold m0
 (repeat' split at h)<;>first|(cases h;done)|exact Gk hk h|exact lP hk _ _ _ h
theorem EF{P:Program}{E:Ut}{t u:TypeId}{x y:Operand}{d:Tmp}(h:yU P E s t u x y d kb=true):jl P E s t u x y d k:=by
 unfold yU at h;unfold jl;dsimp only at h⊢
 (repeat' split at h)<;>first|(cases h;done)|exact⟨(ba h).1,hk _ (ba h).2⟩
theorem yV{P:Program}{E:Ut}{t u:TypeId}{x y:Operand}{d:Tmp}(h:qZ P E s t u x y d kb=true):gA P E s t u x y d k:=by
 unfold qZ at h;unfold gA
 (repeat' split at h)<;>first|(cases h;done)|exact⟨(ba h).1,hk _ (ba h).2⟩
theorem sK{P:Program}{E:Ut}{own:Bool}{t:TypeId}{d:Tmp}(h:p7 P E own s t d kb=true):eh P E own s t d k:=by
 unfold p7 at h;unfold eh
 (repeat' split at h)<;>first|(cases h;done)|exact hk _ h
theorem FL{P:Program}{t:TypeId}{x key:At}(h:zD P s t x key kb=true):jB P s t x key k:=by
 unfold zD at h;unfold jB
 (repeat' split at h)<;>first|(cases h;done)|exact hk _ h
theorem FSx{P:Program}{t:TypeId}{x key v:At}(h:zG P s t x key v kb=true):jD P s t x key v k:=by
 unfold zG at h;unfold jD
 (repeat' split at h)<;>first|(cases h;done)|exact hk _ h
theorem wV{b:EnB}{pk:PKt}{t:TypeId}{n c:At}{f:Bool}{d:Tmp}(h:oX b s t n c f d kb=true):dG ⟨b.e.P,b.e.E,b.e.cs,b.e.sh,pk⟩ s t n c f d k:=by
 unfold oX at h;unfold dG;dsimp only
 (repeat' split at h)<;>first|(cases h;done)|exact⟨(ba h).1,hk _ (ba h).2⟩
end
def sW(Cb:CKb)(C:CKt):Prop:=∀(pk:PKt)(s:St)(ops:List Operand)(kb:St->At->Bool)(k:St->At->Prop),(∀s' v,kb s' v=true->k s' v)->Cb s ops kb=true->C pk s ops k
def yG:CBt->CTt->Prop
 |[],[]=>True
 |x::r,y::q=>(x.1=y.1/\sW x.2 y.2)/\yG r q
 |_,_=>False
theorem yG.get:∀{cb:CBt}{cs:CTt},yG cb cs->∀{f:Nat}{Cb:CKb},CBt.get cb f=some Cb->∃C,cs.get f=some C/\sW Cb C
 |[],[],_,f,Cb,h=>by cases h
 |(f0,c)::r,(f1,C)::q,⟨⟨e,h1⟩,h2⟩,f,Cb,h=>by
  dsimp only at e h1;subst e;simp only[CBt.get]at h;simp only[CTt.get];split at h
  ·simp only[WG]at h;subst h;exact⟨C,rfl,h1⟩
  ·exact yG.get h2 h
 |[],_::_,h,_,_,_=>h.elim
 |_::_,[],h,_,_,_=>h.elim
abbrev EnB.w(b:EnB)(pk:PKt):En:=⟨b.e.P,b.e.E,b.e.cs,b.e.sh,pk⟩
section
variable {b:EnB} (hc:yG b.cs b.e.cs) {pk:PKt}
theorem Pz{o:Oper}{s:St}{kb:At->Bool}{k:At->Prop}(hk:∀v,kb v=true->k v)(h:qB b o s kb=true):qT (b.w pk) o s k:=by
 unfold qB at h;unfold qT;dsimp only[EnB.w];split at h
 ·exact hk _ h
 ·exact hk _ h
 ·exact Pj hk h
 ·exact QB hk h
 ·exact UZ hk h
 ·exact CU hk h
 ·exact K2 hk h
 ·exact wH hk h
 ·exact wK hk h
 ·split at h
  ·exact Mc hk h
  ·cases h
 ·exact BX hk h
 ·exact N9 hk h
 ·exact L5 hk h
 ·exact zK hk h
 ·exact Kr hk h
 ·split at h
  ·split at h
   ·exact RQ (fun _=>hk _) h
   ·cases h
  ·cases h
 ·cases h
include hc
theorem VH{o:Oper}{s:St}{kb:St->Bool}{k:St->Prop}(hk:∀s',kb s'=true->k s')(h:lB b o s kb=true):lT (b.w pk) o s k:=by
 unfold lB at h;unfold lT;have esh:∀t,SI (b.w pk) t=SI b.e t:=fun _=>rfl
 simp only[esh];dsimp only[EnB.w];split at h
 ·exact L9 (fun _=>hk _) h
 ·split at h
  ·exact Kc hk h
  ·cases h
 ·split at h
  ·exact QG hk h
  ·cases h
 ·split at h
  ·split at h
   ·exact ut hk h
   ·split at h
    ·exact rj hk h
    ·exact rh hk h
  ·cases h
 ·split at h
  ·split at h
   ·split at h
    ·exact EF hk h
    ·exact yV hk h
   ·cases h
  ·exact FL (fun _=>hk _) h
  ·split at h
   ·rename_i C hg hf;obtain⟨C',h1,h2⟩:=hc.get hg;rw[h1,hf];exact h2 _ _ _ _ _ (fun _ _=>hk _) h
   ·cases h
  ·split at h
   ·split at h
    ·rename_i C hg hf;obtain⟨C',h1,h2⟩:=hc.get hg;rw[h1,hf];exact h2 _ _ _ _ _ (fun _ _=>hk _) h
    ·cases h
   ·(repeat' split at h)<;>cases h
   ·cases h
  ·cases h
 ·split at h
  ·exact sK hk h
  ·split at h
   ·exact sK hk h
   ·cases h
  ·cases h
 ·split at h
  ·cases h
  ·exact FO (fun _=>hk _) h
 ·split at h
  ·cases h
  ·exact FSx (fun _=>hk _) h
 ·split at h
  ·exact wV hk h
  ·cases h
 all_goals ((repeat' split at h)<;>cases h)
theorem Ji{o:Oper}{s:St}{kb:St->Bool}{k:St->Prop}(hk:∀s',kb s'=true->k s')(h:Se b o s kb=true):vE (b.w pk) o s k:=by
 unfold Se at h;unfold vE;split at h
 ·exact Pz (fun _=>hk _) h
 ·exact VH hc hk h
theorem F8{o:Oper}{s:St}{kb:St->Bool}{k:St->Prop}(hk:∀s',kb s'=true->k s')(h:opB b o s kb=true):opT (b.w pk) o s k:=by
 unfold opB at h;unfold opT;have e1:Ga (b.w pk) o=Ga b.e o:=by unfold Ga;rfl
 rw[e1];split at h
 ·cases h
 ·exact Ji hc hk h
theorem Jk{all:List Oper}{kb:St->Bool}{k:St->Prop}(hk:∀s',kb s'=true->k s'):∀(l:List Oper)(s:St),wX b all l s kb=true->jg (b.w pk) all l s k
 |[],s,h=>hk s h
 |o::r,s,h=>by
  unfold wX at h;unfold jg;have ih:∀s,wX b all r s kb=true->jg (b.w pk) all r s k:=fun s h=>Jk hk r s h
  split at h
  ·exact F8 hc (fun s' h'=>ih s' h') h
  ·split at h
   ·split at h
    ·split at h
     ·split at h
      ·rename_i e;rw[if_pos e];exact F8 hc (fun s' h'=>ih s' h') h
      ·rename_i e;rw[if_neg e];exact ih _ h
     ·split at h
      ·rename_i e;rw[if_pos e];exact ih _ h
      ·rename_i e;rw[if_neg e];exact F8 hc (fun s' h'=>ih s' h') h
    ·exact ih _ h
    ·cases h
   ·cases h
omit hc in
theorem Tr{ops:List Oper}{o:Oper}{s:St}{fb nb:St->Bool}{f no:St->Prop}(hf:∀s',fb s'=true->f s')(hn:∀s',nb s'=true->no s')(h:gB ops o s fb nb=true):gT ops o s f no:=by
 unfold gB at h;unfold gT
 (repeat' split at h)<;>first
  |(cases h;done)
  |exact hf _ h
  |exact hn _ h
  |(rename_i e;rw[if_pos e];first|exact hf _ h|exact hn _ h)
  |(rename_i e;rw[if_neg e];first|exact hf _ h|exact hn _ h)
omit hc in
theorem IH{fb:Nat->Bool}{f:Nat->Prop}(hf:∀i,fb i=true->f i):∀l:List Nat,Qv fb l=true->Ka f l
 |[],_=>trivial
 |[i],h=>hf i h
 |i::j::r,h=>by
  unfold Qv at h;split at h
  ·rename_i hi;exact⟨hf i hi,IH hf (j::r) h⟩
  ·cases h
theorem BS{ops:Array Oper}{kb:St->Bool}{k:St->Prop}(hk:∀s',kb s'=true->k s'):∀(n:Nat)(listed:Array Bool)(s:St),oa b ops n listed s kb=true->fe (b.w pk) ops n listed s k
 |0,listed,s,h=>by
  unfold oa at h;unfold fe;split at h
  ·exact hk _ h
  ·cases h
 |n+1,listed,s,h=>by
  unfold oa at h;unfold fe;have ih:∀l s,oa b ops n l s kb=true->fe (b.w pk) ops n l s k:=fun l s h=>BS hk n l s h
  split at h
  ·exact hk _ h
  ·split at h
   ·split at h
    ·split at h
     ·exact Pz (fun v h'=>ih _ _ h') h
     ·refine Tr (fun s' h'=>?_) (fun s' h'=>ih _ _ h') h;split at h'
      ·exact Pz (fun v h2=>ih _ _ h2) h'
      ·cases h'
    ·cases h
   ·refine IH (fun i h'=>?_) _ h;split at h'
    ·exact Tr (fun s' h2=>Ji (pk:=(b.w pk).cl.pk) hc (fun s'' h3=>ih _ _ h3) h2) (fun s' h2=>ih _ _ h2) h'
    ·cases h'
def ig(n:Nat):Code->An
 |.seq a b=>.s (ig n a) (ig n b)
 |.cond _ a b=>.c (ig n a) (ig n b)
 |.block _ a=>.b (ig n a)
 |.loop a=>.un n (ig n a)
 |_=>.l
structure KtOk (Kb:KtB) (K:Kt):Prop where
 n:∀s,Kb.n s=true->K.n s
 x:∀i s,Kb.x i s=true->K.x i s
 r:∀s,Kb.r s=true->K.r s
omit hc in
theorem Kk(n:Nat)(c:Code)(s:St):(ig n c).pick s=ig n c:=by cases c<;>rfl
theorem je(n:Nat):∀(c:Code)(s:St){Kb:KtB}{K:Kt},KtOk Kb K->wpB n b c s Kb=true->wpT (b.w pk) (ig n c) c s K
 |.skip,s,Kb,K,hK,h=>hK.n s h
 |.region i ops dr,s,Kb,K,hK,h=>by
  cases dr with
  |false=>exact Jk hc hK.n _ s h
  |true=>exact BS hc hK.n _ _ s h
 |.seq x y,s,Kb,K,hK,h=>by
  show wpT (b.w pk) (ig n x) x s ⟨fun s'=>wpT (b.w pk) ((ig n y).pick s') y s' K,K.x,K.r⟩
  refine je n x s (Kb:=⟨fun s'=>wpB n b y s' Kb,Kb.x,Kb.r⟩) ⟨fun s' h'=>?_,hK.x,hK.r⟩ h;show wpT (b.w pk) ((ig n y).pick s') y s' K
  rw[Kk];exact je n y s' hK h'
 |.cond o x y,s,Kb,K,hK,h=>by
  cases o with
  |tmp t=>
   unfold wpB at h;show(match gtA s.t t with|.one (.c (.d (.bo c)))=>if c=true then wpT (b.w pk) (ig n x) x s K else wpT (b.w pk) (ig n y) y s K|_=>False)
   split at h
   ·rename_i c e;rw[e];cases c with
    |true=>exact je n x s hK h
    |false=>exact je n y s hK h
   ·cases h
  |_=>unfold wpB at h;cases h
 |.block id x,s,Kb,K,hK,h=>by
  refine je n x s (Kb:=⟨Kb.n,fun i s'=>match Nat.beq i id with|true=>Kb.n s'|false=>Kb.x i s',Kb.r⟩) ⟨hK.n,fun i s' h'=>?_,hK.r⟩ h;dsimp only at h'⊢;split at h'
  ·rename_i e;rw[e];exact hK.n _ h'
  ·rename_i e;rw[e];exact hK.x _ _ h'
 |.loop x,s,Kb,K,hK,h=>by
  show oo (fun R s'=>wpT (b.w pk) (ig n x) x s' ⟨R,K.x,K.r⟩) n s
  have key:∀m s,FK (fun R s'=>wpB n b x s' ⟨R,Kb.x,Kb.r⟩) m s=true->oo (fun R s'=>wpT (b.w pk) (ig n x) x s' ⟨R,K.x,K.r⟩) m s:=by
   intro m;induction m with
   |zero=>intro s h;cases h
   |succ m ih=>intro s h;exact je n x s (Kb:=⟨_,Kb.x,Kb.r⟩) ⟨fun s' h'=>ih s' h',hK.x,hK.r⟩ h
  exact key n s h
 |.exit i,s,Kb,K,hK,h=>hK.x i s h
 |.ret,s,Kb,K,hK,h=>hK.r s h
 |.rangeFunc ..,_,_,_,_,h=>by unfold wpB at h;cases h
 |.scope ..,_,_,_,_,h=>by unfold wpB at h;cases h
 |.label ..,_,_,_,_,h=>by unfold wpB at h;cases h
 |.goto ..,_,_,_,_,h=>by unfold wpB at h;cases h
 |.refuse ..,_,_,_,_,h=>by unfold wpB at h;cases h
end
end Go.Am
end

section
namespace Go.Am
open Go Go.Proofs
theorem Gq{P:Program}{s:St}{kb:At->Bool}{k:At->Prop}(hk:∀v,kb v=true->k v)(r:ResultVar)(h:Ac P s kb r=true):jK P s k r:=by
 unfold Ac at h;unfold jK
 (repeat' split at h)<;>first|(cases h;done)|exact hk _ h|exact CU hk h
theorem mW{P:Program}{s:St}:∀(rs:List ResultVar){kb:List At->Bool}{k:List At->Prop},(∀v,kb v=true->k v)->qu P s rs kb=true->cx P s rs k
 |[],_,_,hk,h=>hk _ h
 |r::rs,kb,k,hk,h=>Gq (k:=fun v=>cx P s rs fun vs=>k (v::vs)) (fun v h'=>mW rs (kb:=fun vs=>kb (v::vs)) (fun vs h2=>hk _ h2) h') r h
theorem Af{P:Program}{rs:List ResultVar}{us:List U}{KKb:Fl us->Bool}{KK:Fl us->Prop}(hk:∀x,KKb x=true->KK x){s:St}(h:Dx P rs us KKb s=true):pd P rs us KK s:=by
 unfold Dx at h;unfold pd;refine mW rs (fun vs h'=>?_) h;split at h'
 ·exact hk _ h'
 ·cases h'
theorem PF{P:Program}{res:List ResultVar}{sh:List Sh}{u:U}{rs:List U}{KKb:Fl rs×El u->Bool}{KK:Fl rs×El u->Prop}(hk:∀x,KKb x=true->KK x){s:St}(h:vX P res sh u rs KKb s=true):qw P res sh u rs KK s:=by
 unfold vX at h;unfold qw;dsimp only at h⊢;refine mW res (fun vs h'=>?_) h
 (repeat' split at h')<;>first|(cases h';done)|exact hk _ h'
theorem Cp{P:Program}{res:List ResultVar}{kb:St->At->Bool}{k:St->At->Prop}(hk:∀s v,kb s v=true->k s v)(s:St)(h:I5 P res kb s=true):nZ P res k s:=by
 unfold I5 at h;unfold nZ;split at h
 ·exact hk _ _ h
 ·cases h
abbrev anF(n:Nat)(fn:Func):An:=ig n (fn.body.getD .skip)
section
variable {n:Nat} {b:EnB} (hc:yG b.cs b.e.cs) {fn:Func} {ps rs:List U}
include hc
theorem uq{x:Fl ps}{KKb:Fl rs->Bool}{KK:Fl rs->Prop}(hk:∀y,KKb y=true->KK y)(h:BA n b fn ps rs x KKb=true):ib b.e fn (anF n fn) ps rs x KK:=
 je (pk:=fun _ _=>False) hc n _ _ (K:=⟨pd b.e.P fn.results.toList rs KK,fun _ _=>False,pd b.e.P fn.results.toList rs KK⟩) ⟨fun s h=>Af hk h,fun _ _ h=>(by cases h),fun s h=>Af hk h⟩ h
theorem Py:sW (Px n b fn ps rs) (yn b.e fn (anF n fn) ps rs):=by
 intro pk s ops kb k hk h;unfold Px at h;unfold yn;dsimp only at h⊢;split at h
 ·rename_i x hx;exact⟨fun y=>k _ (bL rs y),uq hc (fun y=>hk _ _) h,fun y hy=>hy⟩
 ·cases h
theorem OU:sW (OT n b fn ps rs) (vf ps rs fun x KK=>ib b.e fn (anF n fn) ps rs x KK):=by
 intro pk s ops kb k hk h;unfold OT at h;unfold vf;split at h
 ·exact⟨fun y=>k _ (bL rs y),uq hc (fun y=>hk _ _) h,fun y hy=>hy⟩
 ·cases h
theorem Rz:sW (UB n b fn) (E9 b.e fn (anF n fn)):=by
 intro pk s ops kb k hk h;unfold UB at h;unfold E9;split at h
 ·exact je hc n _ _ (K:=⟨nZ b.e.P fn.results.toList k,fun _ _=>False,nZ b.e.P fn.results.toList k⟩) ⟨fun s h=>Cp hk s h,fun _ _ h=>(by cases h),fun s h=>Cp hk s h⟩ h
 ·cases h
theorem Sr{sh:List Sh}{u:U}:sW (UP n b fn sh u ps rs) (ym b.e fn (anF n fn) sh u ps rs):=by
 intro pk s ops kb k hk h;have key:∀(Sx:El u->St)(x:El u)(y:Fl ps),wpB n b (fn.body.getD .skip) ⟨1,(0,0,.one (.c (.pl ⟨.out 0,0,[]⟩)))::wF 1 ps y,[(.out 0,0,⟨true,bh sh (flat u x),none⟩)]⟩
   ⟨vX b.e.P fn.results.toList sh u rs (fun z=>kb (Sx z.2) (bL rs z.1)),fun _ _=>false,vX b.e.P fn.results.toList sh u rs (fun z=>kb (Sx z.2) (bL rs z.1))⟩=true ->
   ∃(KK:Fl rs×El u->Prop)(KP:Value->El u->Prop),IN b.e fn (anF n fn) sh u ps rs x y KK KP/\(∀z x',KK (z,x')->k (Sx x') (bL rs z))/\∀v x',KP v x'->pk v (Sx x'):=by
  intro Sx x y h;have rr:∀s,vX b.e.P fn.results.toList sh u rs (fun z=>kb (Sx z.2) (bL rs z.1)) s=true->qw b.e.P fn.results.toList sh u rs (fun z=>k (Sx z.2) (bL rs z.1)) s:=fun s h=>PF (fun z=>hk (Sx z.2) (bL rs z.1)) h
  refine⟨fun z=>k (Sx z.2) (bL rs z.1),fun _ _=>False,?_,fun z x' hz=>hz,fun _ _ h=>h.elim⟩;exact je (pk:=Jr sh u fun _ _=>False) hc n _ _ (K:=⟨qw b.e.P fn.results.toList sh u rs (fun z=>k (Sx z.2) (bL rs z.1)),fun _ _=>False,qw b.e.P fn.results.toList sh u rs (fun z=>k (Sx z.2) (bL rs z.1))⟩) ⟨rr,fun _ _ h=>(by cases h),rr⟩ h
 unfold UP at h;unfold ym;dsimp only at h⊢
 (repeat' split at h)<;>first|(cases h;done)|exact key _ _ _ h
end
theorem Vn{Cb:CKb}{C:CKt}(h:sW Cb C):sW (apB Cb) (apT C):=by
 intro pk s ops kb k hk hb;unfold apB at hb;unfold apT;split at hb
 ·exact h _ _ _ _ _ (fun s' v h'=>hk _ _ h') hb
 ·cases hb
theorem uS{ps rs:List U}{pb:Fl ps->Bool}{pre:Fl ps->Prop}{f:Fl ps->Fl rs}(hp:∀x,pb x=true->pre x):sW (fnB ps rs pb f) (cY ps rs pre f):=by
 intro pk s ops kb k hk h;unfold fnB at h;unfold cY;dsimp only at h⊢;split at h
 ·split at h
  ·rename_i hb;exact⟨hp _ hb,hk _ _ h⟩
  ·cases h
 ·cases h
theorem Oi{ps rs:List U}{f:Fl ps->Fl rs}:sW (fnB ps rs (fun _=>true) f) (gY ps rs f):=by
 intro pk s ops kb k hk h;unfold fnB at h;unfold gY;dsimp only at h⊢;split at h
 ·exact hk _ _ h
 ·cases h
theorem UX{tab:List (List UInt8×Nat)}{df:Nat}:sW (swB tab df) (swT tab df):=by
 intro pk s ops kb k hk h;unfold swB at h;unfold swT;dsimp only at h⊢;split at h
 ·rename_i x hx;have key:∀(tab:List (List UInt8×Nat)){K:Nat->Bool}{K':Nat->Prop},(∀i,K i=true->K' i)->SP x K df tab=true->swP x K' df tab:=by
   intro tab K K' hK;induction tab with
   |nil=>exact hK _
   |cons y r ih=>
    obtain⟨w0,f⟩:=y;intro h;unfold SP at h;unfold swP;split at h
    ·rename_i e;rw[if_pos e];exact hK _ h
    ·rename_i e;rw[if_neg (by rw[e];decide)];exact ih h
  exact key tab (fun i=>hk _ _) h
 ·cases h
theorem Eb{e:En}(he:e.ok)(hm:e.P.follows .mixedOrders=true){f:Nat}{fn:Func}(hf:e.P.funcs[f]? = some fn) (hname:(fn.name == "runtime.NumGoroutine")=false) (hb:fn.body.isSome=true) {an:An} {ps rs:List U}
  (hlen:Nat.ble ps.length fn.ntmps=true) (hc:fw fn.ntmps (fn.body.getD .skip)=true):Cont e.P f (yn e fn an ps rs):=by
 have hb':fn.body=some (fn.body.getD .skip):=by cases h:fn.body with
  |none=>rw[h]at hb;cases hb
  |some c=>rfl
 have hcon:=tP (P:=e.P) hf hname hb' (fun avs K=>∃(x:Fl ps)(KK:Fl rs->Prop),avs=eL ps x/\ib e fn an ps rs x KK/\∀y,KK y->K (bL rs y).toV) (fun avs K⟨x,_,hx,_⟩=>by rw[hx,cV];exact WT hlen) (fun g avs K hg⟨x,KK,hx,h,hk⟩=>by
  subst hx;exact tN he hm hg hc hk h)
 refine⟨hcon.run,fun pk s ops k k' hk hcc=>?_,fun g pk s a w H γ F1 ops k hX hops hcc=>?_⟩
 ·unfold yn at hcc⊢;dsimp only at hcc⊢;split at hcc
  ·obtain⟨KK,h1,h2⟩:=hcc;exact⟨KK,h1,fun y hy=>hk _ _ (bN _ _) (h2 y hy)⟩
  ·exact hcc.elim
 ·unfold yn at hcc;dsimp only at hcc;obtain⟨H1,F2,h1⟩:=cE (ops.map (evA s)) s H F1 hX;generalize bw s (ops.map (evA s))=s1 at hcc h1;split at hcc
  ·rename_i x hx;obtain⟨KK,hbd,hk⟩:=hcc;obtain⟨c1,c2,c3⟩:=dl hx;refine Calls.mono (hcon.call g s1.toS a w H1 γ F2 ops (fun s' av=>∃t v',SEq s' t.toS/\av=v'.toV/\k t v') h1 hops ?_) ?_
   ·unfold mQ;dsimp only;rw[dR hops,dE c1];have e:(ops.map fun x=>(ev s1.toS x).map T.canon)=(ops.map (ev s1.toS)).map (AV.map T.canon):=by rw[WZ];rfl
    rw[e,dR hops];refine⟨c2,?_⟩;rw[c3];exact⟨x,KK,rfl,hbd,fun y hy=>⟨s1,_,⟨fun _=>rfl,rfl⟩,rfl,hk y hy⟩⟩
   ·rintro e w' ⟨r,s',av,H',γ',F',k1,⟨t,v',e1,rfl,k2⟩,k3,k4⟩
    refine .inl ⟨r,t,v',H',γ',F',k1,k2,?_,aS e1 k4⟩;rw[e1.2]at k3;exact k3
  ·exact hcc.elim
structure Cl (f:Nat) where
 B:CKb
 I:CKt
 ck:sW B I
 cont:Cont prog f I
abbrev ClS:=List ((f:Nat)×Cl f)
def clB:ClS->CBt
 |[]=>[]
 |x::r=>(x.1,x.2.B)::clB r
def clI:ClS->CTt
 |[]=>[]
 |x::r=>(x.1,x.2.I)::clI r
theorem uJ:∀l:ClS,yG (clB l) (clI l)
 |[]=>trivial
 |x::r=>⟨⟨rfl,x.2.ck⟩,uJ r⟩
noncomputable abbrev clE(E:Ut)(sh:List (TypeId×List Sh))(l:ClS):EnB:=⟨⟨prog,E,clI l,sh,noP⟩,clB l⟩
theorem Rh{P:Program}{f:Nat}{C:CKt}(h:Cont P f C):f<P.funcs.size:=by
 rcases W4 f P.funcs.size with h1|h1
 ·exact h1
 ·have h2:=h.run #[] default
  have h3:P.funcs[f]? = none:=XL h1
  simp[callFunc,Sem.run,Sem.run_bind,h3,stuck,Result.andThen]at h2
theorem Re:Nat.ble (prog).funcs.size 1000000=true:=Z0
theorem xM(E:Ut)(sh:List (TypeId×List Sh))(l:ClS):(clE E sh l).e.ok:=by
 intro x hx;have:∀l:ClS,x∈clI l->Cont prog x.1 x.2:=by
  intro l;induction l with
  |nil=>intro h;cases h
  |cons y r ih=>
   intro h;rcases WR.1 h with rfl|h
   ·exact y.2.cont
   ·exact ih h
 have hc:=this l hx
 have h1:=Rh hc
 have h2:=WT Re
 exact⟨fun _=>hc,fun h=>by omega⟩
def FX(n:Nat)(fn:Func):Bool:=fn.name != "runtime.NumGoroutine" && (fn.body.isSome&&(Nat.ble n fn.ntmps&&(fw fn.ntmps (fn.body.getD .skip)&&Nat.ble fn.ntmps 100000)))
theorem cO{n:Nat}{fn:Func}(h:FX n fn=true):(fn.name == "runtime.NumGoroutine")=false/\fn.body.isSome=true/\Nat.ble n fn.ntmps=true/\fw fn.ntmps (fn.body.getD .skip)=true/\Nat.ble fn.ntmps 100000=true:=by
 unfold FX at h;simp only[WI,bne,XE]at h;exact h
theorem rN:prog.follows .mixedOrders=true:=by kernel_rfl
section
variable (E:Ut) (sh:List (TypeId×List Sh)) (l:ClS) (n:Nat) {f:Nat} (fn:Func) (ps rs:List U)
noncomputable def clP(hf:prog.funcs[f]? = some fn:=by kernel_rfl)(h:FX ps.length fn=true:=by kernel_rfl):Cl f:=
 ⟨Px n (clE E sh l) fn ps rs,yn (clE E sh l).e fn (anF n fn) ps rs,Py (uJ l),Eb (xM E sh l) rN hf (cO h).1 (cO h).2.1 (cO h).2.2.1 (cO h).2.2.2.1⟩
noncomputable def clL(hf:prog.funcs[f]? = some fn:=by kernel_rfl)(h:FX ps.length fn=true:=by kernel_rfl):Cl f:=
 ⟨OT n (clE E sh l) fn ps rs,vf ps rs fun x KK=>ib (clE E sh l).e fn (anF n fn) ps rs x KK,OU (uJ l),tQ (xM E sh l) rN hf (cO h).1 (cO h).2.1 (cO h).2.2.1 (cO h).2.2.2.1 (fun _ _ h=>h)⟩
noncomputable def clN(hf:prog.funcs[f]? = some fn:=by kernel_rfl)(h:FX 0 fn=true:=by kernel_rfl):Cl f:=
 ⟨apB (UB n (clE E sh l) fn),apT (E9 (clE E sh l).e fn (anF n fn)),Vn (Rz (uJ l)),GY (AC (xM E sh l) rN hf (cO h).1 (cO h).2.1 (cO h).2.2.2.1 (cO h).2.2.2.2)⟩
noncomputable def clM(shr:List Sh)(u:U)(hf:prog.funcs[f]? = some fn:=by kernel_rfl)(h:FX (ps.length+1) fn=true:=by kernel_rfl):Cl f:=
 ⟨UP n (clE E sh l) fn shr u ps rs,ym (clE E sh l).e fn (anF n fn) shr u ps rs,Sr (uJ l),Ea (xM E sh l) rN hf (cO h).1 (cO h).2.1 (cO h).2.2.1 (cO h).2.2.2.1⟩
noncomputable def clF{pre:Fl ps->Prop}(F:Fl ps->Fl rs)(pb:Fl ps->Bool)(hp:∀x,pb x=true->pre x)(h:Cont prog f (cY ps rs pre F)):Cl f:=⟨fnB ps rs pb F,_,uS hp,h⟩
theorem Mz[DecidableEq (Fl rs)](y:Fl rs)(hf:prog.funcs[f]? = some fn)(h:FX 0 fn=true)(hb:BA n (clE E sh l) fn [] rs () (fun z=>decide (z=y))=true):Cont prog f (gY [] rs (fun _=>y)):=
 tR (e:=(clE E sh l).e) (xM E sh l) rN hf (cO h).1 (cO h).2.1 (an:=anF n fn) (cO h).2.2.1 (cO h).2.2.2.1 (fun x KK hK=>uq (uJ l) (KKb:=fun z=>decide (z=y)) (fun z hz=>by rw[of_decide_eq_true hz];exact hK) hb)
end
end Go.Am
end

section
namespace Go.Am
def Nm.sw:Nm->Nm
 |.loc i=>.out i
 |.out i=>.loc i
 |.gh v=>.gh v
theorem Nm.sw_sw:∀n:Nm,n.sw.sw=n
 |.loc _=>rfl
 |.out _=>rfl
 |.gh _=>rfl
theorem Nm.sw_tyd:∀n:Nm,n.sw.tyd=n.tyd
 |.loc _=>rfl
 |.out _=>rfl
 |.gh _=>rfl
theorem VQ:NmR Nm.sw:=⟨Nm.sw_sw,Nm.sw_tyd⟩
abbrev St.sw(s:St):St:=s.rn Nm.sw
abbrev swG(γ:Gam):Gam:=rnG Nm.sw γ
section
variable {w:World} {H:FH} {γ:Gam} {F:Nm->Fp}
def oq(γ:Gam):Nat->Option Nat:=fun i=>match γ (.loc i)with
 |.blk b=>some b
 |.gh _=>none
theorem Va{g:G}{s:St}{a a':Act}(h:RX g s.toS a w H γ F){ds:List Deferred}(h1:a'.tmps=a.tmps)(h2:a'.defers=ds):RX ⟨g.nt,g.w0,g.H0,g.own0,oq γ,g.ex,ds⟩ s.sw.toS a' w H (swG γ) (fun n=>F n.sw):=by
 refine IA VQ h h1 h2 (fun j b hb=>?_);show γ (.loc j)=.blk b
 unfold oq at hb;split at hb
 ·rename_i b' hb';rw[hb'];simp only[WG]at hb;rw[hb]
 ·cases hb
end
end Go.Am
end

section
namespace Go.Am
open Go Go.RowKit Go.Proofs
end Go.Am
end
