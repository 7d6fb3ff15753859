/-
  Part 17: AmLibC · AmE14 · AmE15 · AmE13 · AmE16 · AmE18r · AmRen · AmE19 · AmKeys · AmB2 · AmB3 · AmSw · AmPan.
-/
import Derived.Test.YthhkhcolidkemaaGreatDoorCk16
import Derived.Test.YthhkhcolidkemaaGreatDoorChecked
set_option linter.unusedSimpArgs false
set_option linter.unusedVariables false
set_option linter.unusedSectionVars false
set_option linter.unnecessarySimpa false
open Lt
open Go.Proofs.Tryz
section
namespace Go.Am
open Go Go.RowKit Go.Proofs
theorem ye(w:World):Below w.heap.size w w:=Below.refl _ w
theorem Ii(c:UInt8):∀l:List UInt8,-1<=Lib.indexByte l c/\Lib.indexByte l c<=(l.length:Int)
 |[]=>by simp[Lib.indexByte]
 |b::l=>by
  have:=Ii c l
  unfold Lib.indexByte;simp only[ac0];split
  ·omega
  ·split<;>omega
theorem wS{w:World}{H:FH}{γ:Gam}{m:Mm}{l:List UInt8}(h:l.length<=BIG):AR1 w H γ m (.c (.d (.str l))) (.string ⟨l.toArray⟩):=⟨fun _=>rfl,0,rfl,h⟩
theorem RU{w:World}{H:FH}{γ:Gam}{k:IntKind}{n:Int}{y:Value}(h:AR w H γ [] (.one (.c (.d (.int k n)))) y):y=.int k n:=by
 obtain⟨_,m,h⟩:=h;cases m<;>exact h.1
def Sa:CKt:=ap [.s,.b8] [.i .i64] (fun x=>Uc x.1 x.2)
theorem Tw:Cont prog 265 Sa:=CJ (jK (gV (fn:=f265) kQ0 kQ0 kQ0) (fun x args w H γ _ hl ha hg hag=>by
 obtain⟨s,c⟩:=x;obtain⟨u,v,rfl,h1,h2⟩:=Og (x:=.one (.c (.d (.str s)))) (y:=.one (.c (.d (.int .u8 (UInt8.toNat c:Int))))) hl ha;obtain⟨rfl,hs⟩:=kB h1;have hs:List.length (α:=UInt8) s<=BIG:=hs
 obtain rfl:=RU h2;refine(Tryz.strings_IndexByte ⟨s.toArray⟩ (c.toNat:Int) w).mono ?_;rintro e w' ⟨rfl,hw⟩
 rw[hw];refine⟨_,H,rfl,ye w,fun _ _ _ h=>h,fun b o h1 h2=>absurd h2 h1,fun b o x l c h1 h2=>by(rw[h2]at h1;cases h1),hag,?_⟩;have e1:((c.toNat:Int).toNat).toUInt8=c:=by simp
 have hi:=Ii c s
 rw[pz,e1];unfold BIG at hs;show AR w H γ [] (.one (.c (.d (.int .i64 (Lib.indexByte s c))))) (.int .i64 (Lib.indexByte s c))
 refine⟨fun _=>rfl,0,rfl,?_⟩;simp only[Lit.wf,acX,decide_eq_true_eq,show IntKind.i64.min=-9223372036854775808 from rfl,show IntKind.i64.max=9223372036854775807 from rfl];omega))
def VZ:CKt:=ap [.s,.s] [.s,.bo] (fun x=>YE x.1 x.2)
theorem WC:Cont prog 264 VZ:=CJ (jK (gV (fn:=f264) kQ0 kQ0 kQ0) (fun x args w H γ _ hl ha hg hag=>by
 obtain⟨s,p⟩:=x;obtain⟨u,v,rfl,h1,h2⟩:=Og (x:=.one (.c (.d (.str s)))) (y:=.one (.c (.d (.str p)))) hl ha;obtain⟨rfl,hs⟩:=kB h1;have hs:List.length (α:=UInt8) s<=BIG:=hs
 obtain⟨rfl,hp⟩:=kB h2;refine(Tryz.strings_CutPrefix ⟨s.toArray⟩ ⟨p.toArray⟩ w).mono ?_;rintro e w' ⟨rfl,hw⟩
 rw[hw];refine⟨_,H,rfl,ye w,fun _ _ _ h=>h,fun b o h1 h2=>absurd h2 h1,fun b o x l c h1 h2=>by(rw[h2]at h1;cases h1),hag,_,rfl,?_⟩;rw[pz,pz];have hl:(Lib.trimPrefix s p).length<=BIG:=by
  unfold Lib.trimPrefix;split
  ·rw[List.length_drop];omega
  ·exact hs
 show ARs w H γ [] [.c (.d (.str (Lib.trimPrefix s p))),.c (.d (.bool (Lib.hasPrefix s p)))] [_,_]
 exact⟨(wS hl:AR1 w H γ [] _ _),⟨fun _=>rfl,0,rfl⟩,trivial⟩))
def YT:CKt:=bd [.s,.s] [.s,.s,.bo] (fun x=>ZQ x.1 x.2) (fun x=>aa5 x.1 x.2)
theorem Zl:Cont prog 76 YT:=jK (gV (fn:=f76) kQ0 kQ0 kQ0) (fun x args w H γ hpre hl ha hg hag=>by
 obtain⟨s,p⟩:=x;obtain⟨u,v,rfl,h1,h2⟩:=Og (x:=.one (.c (.d (.str s)))) (y:=.one (.c (.d (.str p)))) hl ha;obtain⟨rfl,hs⟩:=kB h1;have hs:List.length (α:=UInt8) s<=BIG:=hs
 obtain⟨rfl,hp⟩:=kB h2;have hpre:s.length < 4294967281:=hpre
 obtain⟨m,hm⟩:=Cc hg hag (k:=1) (by rfl);refine(Tryz.strings_Cut ⟨s.toArray⟩ ⟨p.toArray⟩ m w (by rw[sB];exact hpre) hm).mono ?_;rintro e w' ⟨rfl,n,rfl⟩
 refine⟨_,H,rfl,Gs _ _ _,fun _ _ _ h=>h,fun b o h1 h2=>absurd h2 h1,fun b o x l c h1 h2=>by(rw[h2]at h1;cases h1),hag,_,rfl,?_⟩;rw[pz,pz];have hl:(Lib.cut s p).1.length<=BIG/\(Lib.cut s p).2.1.length<=BIG:=by
  unfold Lib.cut;split
  ·refine⟨?_,?_⟩
   ·show(s.take _).length<=_;rw[ad8];omega
   ·show(s.drop _).length<=_;rw[List.length_drop];omega
  ·exact⟨hs,by unfold BIG;simp⟩
 show ARs _ H γ [] [.c (.d (.str (Lib.cut s p).1)),.c (.d (.str (Lib.cut s p).2.1)),.c (.d (.bool (Lib.cut s p).2.2))] [_,_,_]
 exact⟨(wS hl.1:AR1 (w.drewN n) H γ [] _ _),(wS hl.2:AR1 (w.drewN n) H γ [] _ _),⟨fun _=>rfl,0,rfl⟩,trivial⟩)
theorem vV(p:ByteArray):∀(k:Nat)(s:ByteArray),∀x∈Lib.splitB p 0 k s,x.size<=s.size
 |0,s,x,hx=>by rw[Lib.splitB_zero,ac9]at hx;rw[hx];exact ac1 _
 |k+1,s,x,hx=>by
  unfold Lib.splitB at hx;split at hx
  ·rw[ac9]at hx;rw[hx];exact ac1 _
  ·rcases ac8.1 hx with rfl|hx
   ·simp only[ByteArray.size_extract];omega
   ·have:=vV p k _ x hx
    simp only[ByteArray.size_extract]at this;omega
def Sb:CKt:=bd [.s,.s] [.sl .s] (fun x=>U7 x.1 x.2) (fun x=>DE x.1 x.2)
theorem Tx:Cont prog 75 Sb:=jK (gV (fn:=f75) kQ0 kQ0 kQ0) (fun x args w H γ hpre hl ha hg hag=>by
 obtain⟨s,p⟩:=x;obtain⟨u,v,rfl,h1,h2⟩:=Og (x:=.one (.c (.d (.str s)))) (y:=.one (.c (.d (.str p)))) hl ha;obtain⟨rfl,hs⟩:=kB h1;have hs:List.length (α:=UInt8) s<=BIG:=hs
 obtain⟨rfl,hp⟩:=kB h2;obtain⟨hpre,hp1⟩:s.length < 4294967281/\1<=p.length:=hpre;obtain⟨m,hm⟩:=Cc hg hag (k:=1) (by rfl);have hsz:=sB s
 refine(Tryz.strings_Split ⟨s.toArray⟩ ⟨p.toArray⟩ m w (by rw[hsz];exact hpre) hm (by rw[sB];exact hp1)).mono ?_;rintro e w' ⟨rfl,rfl⟩
 have hlen:=Lib.splitB_all ⟨p.toArray⟩ (by rw[sB];exact hp1) 0 _ ⟨s.toArray⟩ rfl
 have hle:=Lib.countB_le ⟨p.toArray⟩ (by rw[sB];exact hp1) _ ⟨s.toArray⟩ (ac1 _)
 have hsm:=vV ⟨p.toArray⟩ (Lib.countB ⟨s.toArray⟩ ⟨p.toArray⟩) ⟨s.toArray⟩
 have hG:DE s p=(Lib.splitB ⟨p.toArray⟩ 0 (Lib.countB ⟨s.toArray⟩ ⟨p.toArray⟩) ⟨s.toArray⟩).map (·.data.toList):=rfl
 generalize Lib.splitB ⟨p.toArray⟩ 0 (Lib.countB ⟨s.toArray⟩ ⟨p.toArray⟩) ⟨s.toArray⟩=L at hlen hsm hG⊢;rw[<- hlen];rw[hsz]at hle hsm;refine⟨_,fun b o=>if b=w.heap.size then((L.map Value.string).toArray[o]?).map HV.c else H b o,rfl,(Below.refl _ w).alloc (ac1 _) _,fun b o y h=>?_,fun b o h1 h2=>?_,fun b o x l c h1 h2=>?_,fun b o y h=>?_,fun _=>rfl,1,?_⟩
 ·have:=(hag b o y h).lt
  dsimp only;rw[if_neg kQ1];exact h
 ·dsimp only at h1;split at h1
  ·omega
  ·exact absurd h2 h1
 ·dsimp only at h1;split at h1
  ·obtain⟨z,hz,e⟩:=adA.1 h1;obtain rfl:=HV.c.inj e;have h1:=Array.mem_of_getElem? hz
   simp at h1
  ·rw[h2]at h1;cases h1
 ·dsimp only at h;split at h
  ·rename_i hb;subst hb;obtain⟨z,hz,rfl⟩:=adA.1 h;show World.cell? _ _=some z
   rw[World.cell?_alloc_new];exact hz
  ·exact(hag b o y h).frame (bR (hag b o y h).lt)
 ·show FD _ 1 (.li ((DE s p).map (al .s))) _
  rw[hG,lP];unfold BIG at hs⊢;refine⟨_,_,by rw[acY,acY],by simp,by simp;omega,.inr ⟨w.heap.size,0,1,rfl,fun i hi=>?_⟩⟩;have hi:i<L.length:=by simpa using hi
  have e:((L.map (·.data.toList)).map (al .s)).getD i []=[.str L[i].data.toList]:=by
   rw[List.getD,acZ,acZ,acW hi];rfl
  rw[e];refine⟨rfl,fun j hj=>?_⟩;have hj:j=0:=by omega
  subst hj;refine⟨.string L[i],?_,?_⟩
  ·dsimp only;rw[if_pos rfl];simp[hi]
  ·refine⟨by simp,?_⟩;have:=hsm L[i] (adY hi)
   show L[i].data.toList.length<=BIG
   unfold BIG;rw[<- Lib.size_eq];omega)
end Go.Am
end

section
namespace Go.Am
theorem Ti(i k:Nat):Nat.beq (i+100000) (k+100000)=Nat.beq i k:=by
 cases h:Nat.beq i k with
 |true=>have:=ac7 h;subst this;exact afT _
 |false=>
  cases h2:Nat.beq (i+100000) (k+100000)with
  |false=>rfl
  |true=>
   have:=ac7 h2
   have:i=k:=by omega
   subst this;rw[afT]at h;cases h
theorem IP(k:Nat)(t:List (Nat×Nat×At)):bI (shT t) (k+100000)=bI t k:=by
 induction t with
 |nil=>rfl
 |cons x r ih=>
  obtain⟨i,j,v⟩:=x;simp only[shT,bI,Ti];cases Nat.beq i k with
  |true=>rfl
  |false=>exact ih
theorem IQ{k:Nat}(hk:k < 100000)(t:List (Nat×Nat×At)):bI (shT t) k=none:=by
 induction t with
 |nil=>rfl
 |cons x r ih=>
  obtain⟨i,j,v⟩:=x;have:Nat.beq (i+100000) k=false:=by
   cases h:Nat.beq (i+100000) k with
   |false=>rfl
   |true=>have:=ac7 h;omega
  simp only[shT,bI,this];exact ih
theorem IR(k:Nat)(t:List (Nat×Nat×At)):bI (o7 t) k=bI t (k+100000):=by
 induction t with
 |nil=>rfl
 |cons x r ih=>
  obtain⟨i,j,v⟩:=x;simp only[o7,bI];cases hb:Nat.ble 100000 i with
  |true=>
   have hi:100000<=i:=ac5 hb
   have e:Nat.beq (i - 100000) k=Nat.beq i (k+100000):=by
    have:=Ti (i - 100000) k
    rw[Nat.sub_add_cancel hi]at this;exact this.symm
   dsimp only;rw[bI,e];cases Nat.beq i (k+100000)with
   |true=>rfl
   |false=>exact ih
  |false=>
   have hi:¬ 100000<=i:=fun h=>by rw[Nat.ble_eq_true_of_le h]at hb;cases hb
   have e:Nat.beq i (k+100000)=false:=by
    cases h:Nat.beq i (k+100000)with
    |false=>rfl
    |true=>have:=ac7 h;omega
   rw[e];exact ih
theorem uN{nx k:Nat}{b:List (Nat×Nat×At)}:∀{l:List At}{i:Nat},i+l.length<=k->bI (wh nx i l++b) k=bI b k
 |[],_,_=>rfl
 |v::r,i,h=>by
  have e:Nat.beq i k=false:=by
   cases h2:Nat.beq i k with
   |false=>rfl
   |true=>have:=ac7 h2;simp only[ac0]at h;omega
  simp only[wh,ad5,bI,e];exact uN (by simp only[ac0]at h;omega)
theorem vN{nx k:Nat}{b:List (Nat×Nat×At)}:∀{l:List At}{i:Nat}{v:At},i<=k->l[k-i]? = some v->bI (wh nx i l++b) k=some (nx,v)
 |[],_,_,_,h=>by simp at h
 |v::r,i,x,hi,h=>by
  simp only[wh,ad5,bI];rcases Nat.lt_or_eq_of_le hi with hlt|rfl
  ·have e:Nat.beq i k=false:=by
    cases h2:Nat.beq i k with
    |false=>rfl
    |true=>have:=ac7 h2;omega
   rw[e];refine vN kQ1 ?_;rw[show k-i=(k - (i+1))+1 from by omega]at h;simpa using h
  ·rw[afT];simp only[Nat.sub_self,adX,acV]at h;subst h;rfl
abbrev inS(s:St)(vs:List At):St:=⟨s.nx+1,wh s.nx 0 vs++shT s.t,s.m⟩
theorem YU{s s':St}{vs:List At}(hl:vs.length<=100000)(h:Ext (inS s vs) s'):Ext s ⟨s'.nx,o7 s'.t,s'.m⟩:=by
 refine⟨aeF (ad3 _) h.nx,fun k j v hk hj=>?_,fun n j r hk hj=>h.m n j r hk (Nat.lt_succ_of_lt hj)⟩;rw[IR]at hk;have:=h.t _ j v hk (Nat.lt_succ_of_lt hj)
 rw[show(inS s vs).t=wh s.nx 0 vs++shT s.t from rfl,uN kQ1,IP]at this;exact this
theorem sL{P:Program}{s s':St}{vs:List At}{res:List ResultVar}{k k':St->At->Prop}(hl:vs.length<=100000)(hk:∀s' v,Ext s s'->k s' v->k' s' v)(hE:Ext (inS s vs) s')(h:jZ P res k s'):jZ P res k' s':=by
 unfold jZ at h⊢;split at h
 ·exact hk _ _ (YU hl hE) h
 ·exact h.elim
section
variable {g:G} {a:Act} {w:World} {H:FH} {γ:Gam} {F:Nm->Fp}
theorem Qn{nt:Nat}{ops:List Operand}{i:Nat}{x:Operand}(hx:ops[i]? = some x):((ops.map a.eval).toArray++Array.replicate (nt - (ops.map a.eval).toArray.size) undef).getD i undef=a.eval x:=by
 rw[adP,ad7 (by simp;exact ah hx)];simp[hx]
theorem NS{s:St}(hX:RX g s.toS a w H γ F){vs:List At}{ys:List Value}(hl:ys.length=vs.length)(hv:∀(i:Nat) (v:At) (y:Value),vs[i]? = some v->ys[i]? = some y->AR w H γ s.toS.m v.toV y){nt:Nat}(hle:vs.length<=nt)(hnt:nt<=100000) :
  RX ⟨nt,g.w0,g.H0,g.own0,g.out,some (g.tv a),[]⟩ (inS s vs).toS ⟨ys.toArray++Array.replicate (nt-ys.toArray.size) undef,[]⟩ w H γ F:=by
 have hsz:(ys.toArray++Array.replicate (nt-ys.toArray.size) undef).size=nt:=by simp;omega
 refine⟨hX.mem,hX.fr,hsz,⟨rfl,hX.df.2⟩,fun i=>?_⟩;rw[show aH (inS s vs).toS.t i=(gtA (wh s.nx 0 vs++shT s.t) i).toV from b9 i _,jy];rcases adJ i vs.length with hi|hi
 ·rw[vN (ad1 i) (v:=vs[i]) (by rw[afS];exact acW hi)];have hyi:i<ys.length:=by omega
  rw[G.tv_lt (by rw[hsz];omega)];have e:(ys.toArray++Array.replicate (nt-ys.toArray.size) undef).getD i undef=ys[i]:=by
   rw[adP,ad7 (by simpa using hyi)];simp[hyi]
  rw[e];exact hv i _ _ (acW hi) (acW hyi)
 ·rw[uN kQ1];rcases adJ i 100000 with hb|hb
  ·rw[IQ hb];trivial
  ·obtain⟨j,rfl⟩:∃j,i=j+100000:=⟨i - 100000,by omega⟩
   rw[IP,<- jy];have e:G.tv ⟨nt,g.w0,g.H0,g.own0,g.out,some (g.tv a),[]⟩ ⟨ys.toArray++Array.replicate (nt-ys.toArray.size) undef,[]⟩ (j+100000)=g.tv a j:=by
    unfold G.tv;dsimp only;rw[if_neg (by rw[hsz];unfold TB;omega)];unfold TB;rw[ae3]
   rw[e,<- b9];exact hX.t j
theorem YZ{s:St}(hX:RX g s.toS a w H γ F){ops:List Operand}(hops:ops.all aw=true){nt:Nat}(hle:ops.length<=nt)(hnt:nt<=100000) :
  RX ⟨nt,g.w0,g.H0,g.own0,g.out,some (g.tv a),[]⟩ (inS s (ops.map (evA s))).toS ⟨(ops.map a.eval).toArray++Array.replicate (nt - (ops.map a.eval).toArray.size) undef,[]⟩ w H γ F:=by
 refine NS hX (by simp) (fun i v y hv hy=>?_) (by simpa using hle) hnt;rw[acZ]at hv hy;obtain⟨x,hx,rfl⟩:=adA.1 hv;rw[hx]at hy;obtain rfl:=Option.some.inj hy;have hop:=adC.1 hops x (adK hx)
 have:=aA hX hop
 rw[ae hop]at this;exact this
theorem r6{s0:S}(hX:RX g s0 a w H γ F){nt:Nat}(hnt:nt<=100000){a':Act}{s':St}{w':World}{H':FH}{γ':Gam}{F':Nm->Fp}(h:RX ⟨nt,g.w0,g.H0,g.own0,g.out,some (g.tv a),[]⟩ s'.toS a' w' H' γ' F') :
  RX g (⟨s'.nx,o7 s'.t,s'.m⟩:St).toS a w' H' γ' F':=by
 refine⟨h.mem,h.fr,hX.nt,⟨hX.df.1,h.df.2⟩,fun i=>?_⟩;rw[show aH (⟨s'.nx,o7 s'.t,s'.m⟩:St).toS.t i=(gtA (o7 s'.t) i).toV from b9 i _,jy,IR,<- jy,<- b9];have:=h.t (i+100000)
 have e:G.tv ⟨nt,g.w0,g.H0,g.own0,g.out,some (g.tv a),[]⟩ a' (i+100000)=g.tv a i:=by
  have hs:a'.tmps.size=nt:=h.nt
  unfold G.tv;dsimp only;rw[if_neg (by rw[hs];unfold TB;omega)];unfold TB;rw[ae3]
 rw[e]at this;exact this
theorem UG{P:Program}{m:List (Nm×Nat×Rt)}{t:TypeId}{x:At}{v:A1}(h:UF P m t x=some v):j8 P m t x (fun w=>w=.one v):=by
 unfold UF at h;unfold j8;split at h
 ·rename_i p hok;rw[hok];dsimp only;split at h
  ·rename_i ha;rw[ha];dsimp only;split at h
   ·rename_i ts hts;rw[hts];exact congrArg At.one (Option.some.inj h)
   ·cases h
  ·rename_i ha;rw[ha];dsimp only;split at h
   ·rename_i t' ht;rw[ht];exact congrArg At.one (Option.some.inj h)
   ·cases h
 ·cases h
theorem Ey{P:Program}{s:St}(h:RX g s.toS a w H γ F):∀{rs:List ResultVar}{xs:List A1},Jg P s rs=some xs->∃ys,(rs.mapM (kn a.tmps)).run P w=.ok ys w/\ARs w H γ (toM s.m) (xs.map A1.toV) ys/\ys.length=rs.length/\xs.length=rs.length
 |[],xs,e=>by
  simp only[Jg,acV]at e;subst e;exact⟨[],rfl,trivial,rfl,rfl⟩
 |.tmp t::r,xs,e=>by
  simp only[Jg]at e;split at e
  ·rename_i x xs' h1 h2 h3;simp only[acV]at e;subst e;obtain⟨ys,k1,k2,k3,k4⟩:=Ey (P:=P) h h2;have ht:=h.t t
   rw[show aH s.toS.t t=(gtA s.t t).toV from b9 t s.t,h1,G.tv_lo (show t<TB from ac5 h3)]at ht;have k1':((r.mapM (kn a.tmps)).run P w)=.ok ys w:=k1
   refine⟨a.tmps.getD t undef::ys,?_,⟨ht,k2⟩,by simp[k3],by simp[k4]⟩;simp[List.mapM_cons,kn,k1']
  ·cases e
 |.cell c t::r,xs,e=>by
  simp only[Jg]at e;split at e
  ·rename_i x xs' h1 h2 h3;simp only[acV]at e;subst e;obtain⟨ys,k1,k2,k3,k4⟩:=Ey (P:=P) h h2;have ht:=h.t c
   rw[show aH s.toS.t c=(gtA s.t c).toV from b9 c s.t,G.tv_lo (show c<TB from ac5 h3)]at ht;have hl:j8 P s.m t (gtA s.t c) (fun v=>v=.one x):=UG h1
   obtain⟨z,d,B,_,e1,e2,v',rfl,rfl⟩:=yV (P:=P) h.mem (yW (fun q hq=>by
    rw[hq]at ht;exact Mg ht.2.1) hl) ht
   replace e1:=e1 w (fun _ _=>rfl)
   have k1':((r.mapM (kn a.tmps)).run P w)=.ok ys w:=k1
   have hrun:(kn a.tmps (.cell c t)).run P w=.ok z w:=by
    simp only[kn];simp only[Instr.loadAt]at e1;generalize a.tmps.getD c undef=u at e1;cases u with
    |pointer ad=>
     cases ad with
     |some ad=>simpa[asAddr,Instr.sureAddr]using e1
     |none=>simp[Instr.sureAddr]at e1
    |_=>simp[Instr.sureAddr]at e1
   refine⟨z::ys,?_,⟨e2,k2⟩,by simp[k3],by simp[k4]⟩;simp[List.mapM_cons,hrun,k1',Sem.run_bind,Result.andThen]
  ·cases e
theorem OC{P:Program}{fn:Func}{s:St}{k:St->At->Prop}(h:RX g s.toS a w H γ F)(hk:jZ P fn.results.toList k s) :
  ∃y v,(results fn a.tmps).run P w=.ok y w/\AR w H γ (toM s.m) v.toV y/\k ⟨s.nx,o7 s.t,s.m⟩ v:=by
 unfold jZ at hk;split at hk
 ·rename_i xs hx;obtain⟨ys,k1,k2,k3,k4⟩:=Ey (P:=P) h hx;have hrun:(results fn a.tmps).run P w=.ok (if h:ys.toArray.size=1 then ys.toArray[0]else .tuple ys.toArray) w:=by
   rw[gM,Array.mapM_eq_mapM_toList];simp[k1]
  refine⟨_,_,hrun,?_,hk⟩
  match xs,ys,k2 with
  |[],[],_=>exact⟨#[],by simp,trivial⟩
  |[x],[y],k2=>exact k2.1
  |x1::x2::xs,y1::y2::ys,k2=>exact⟨(y1::y2::ys).toArray,by simp,by simpa using k2⟩
 ·exact hk.elim
end
theorem EB{P:Program}{f:Nat}{fn:Func}(hf:P.funcs[f]? = some fn) (hname:(fn.name == "runtime.NumGoroutine")=false) (hb:fn.body.isSome=true):∀args w,(callFunc f args).run P w=.ok (.enter f args) w:=by
 intro args w;have h1:fn.name ≠ "runtime.NumGoroutine" := by simpa using hname
 obtain⟨c,h⟩:=Option.isSome_iff_exists.1 hb;simp[callFunc,hf,h1,h]
theorem Fw{e:En}(he:e.ok)(hm:e.P.follows .mixedOrders=true){f:Nat}{fn:Func}(hf:e.P.funcs[f]? = some fn) (hname:(fn.name == "runtime.NumGoroutine")=false) (hb:fn.body.isSome=true) {an:An}
  (hc:fi fn.ntmps (fn.body.getD .skip)=true) (hnt:Nat.ble fn.ntmps 100000=true):Cont e.P f (cn e fn an):=by
 have hb':fn.body=some (fn.body.getD .skip):=by cases h:fn.body with
  |none=>rw[h]at hb;cases hb
  |some c=>rfl
 have hnt':=ac5 hnt
 refine⟨EB hf hname hb,fun pk s ops k k' hk hcc=>?_,fun g pk s a w H γ F ops k hX hops hcc=>?_⟩
 ·unfold cn at hcc⊢;split at hcc
  ·rename_i hle;have hl:(ops.map (evA s)).length<=100000:=by rw[acY];exact aeF (ac5 hle) hnt'
   exact wN (e:=⟨e.P,e.E,e.cs,e.sh,fun v s=>pk v ⟨s.nx,o7 s.t,s.m⟩⟩) he _ an _ ⟨jZ e.P fn.results.toList k,fun _ _=>False,jZ e.P fn.results.toList k⟩ ⟨jZ e.P fn.results.toList k',fun _ _=>False,jZ e.P fn.results.toList k'⟩ (fun s' hE h=>sL hl hk hE h) (fun _ _ _ h=>h) (fun s' hE h=>sL hl hk hE h) hcc
  ·exact hcc.elim
 ·unfold cn at hcc;split at hcc
  ·rename_i hle;have hle':=ac5 hle
   refine calls_of_wp hf hb' (Code.wp_mono (fun x a' w' hl=>?_) (jD (e:=⟨e.P,e.E,e.cs,e.sh,fun v s=>pk v ⟨s.nx,o7 s.t,s.m⟩⟩) he hm (g:=⟨fn.ntmps,g.w0,g.H0,g.own0,g.out,some (g.tv a),[]⟩) _ an _ _ hc hcc _ w ⟨H,γ,F,YZ hX hops hle' hnt'⟩));obtain⟨s',hq,H',γ',F',hX'⟩:=hl;have fin:∀t:St,s'=t.toS->jZ e.P fn.results.toList k t->a'.defers=[]/\∃v,(results fn a'.tmps).run e.P w'=.ok v w'/\fQ g a pk k (.returned v) w':=by
    rintro t rfl ht
    obtain⟨y,v,k1,k2,k3⟩:=OC (P:=e.P) hX' ht;exact⟨hX'.df.1,y,k1,.inl ⟨y,_,v,H',γ',F',rfl,k3,k2,r6 hX hnt' hX'⟩⟩
   cases x with
   |normal=>obtain⟨t,e1,ht⟩:=hq;exact fin t e1 ht
   |ret=>obtain⟨t,e1,ht⟩:=hq;exact fin t e1 ht
   |exit i=>obtain⟨t,e1,ht⟩:=hq;exact ht.elim
   |panic c=>
    obtain⟨v,t,rfl,rfl,hv⟩:=hq;exact⟨hX'.df.1,.inr ⟨v,_,rfl,hv,H',γ',F',r6 hX hnt' hX'⟩⟩
   |_=>exact hq.elim
  ·exact hcc.elim
theorem Sk{e:En}(he:e.ok)(hm:e.P.follows .mixedOrders=true){f:Nat}{fn:Func}(hf:e.P.funcs[f]? = some fn) (hname:(fn.name == "runtime.NumGoroutine")=false) (hb:fn.body.isSome=true) {an:An}
  (hc:fi fn.ntmps (fn.body.getD .skip)=true) (hnt:Nat.ble fn.ntmps 100000=true):ContC e.P (f+1000000) (Ay e fn an):=by
 have hb':fn.body=some (fn.body.getD .skip):=by cases h:fn.body with
  |none=>rw[h]at hb;cases hb
  |some c=>rfl
 have hnt':=ac5 hnt
 refine⟨by omega,by rw[ae3];exact EB hf hname hb,fun pk s ops k k' hk hcc=>?_,fun g pk s a w H γ F t ops k ps hX hops ht hval hcc=>?_⟩
 ·unfold Ay at hcc⊢;split at hcc
  ·rename_i _ os;split at hcc
   ·rename_i c hg;split at hcc
    ·rename_i hle;have hl:(os.map (evA s)++c.caps.map WQ).length<=100000:=by rw[ac3,acY,acY];exact aeF (ac5 hle) hnt'
     exact wN (e:=⟨e.P,e.E,e.cs,e.sh,fun v s=>pk v ⟨s.nx,o7 s.t,s.m⟩⟩) he _ an _ ⟨jZ e.P fn.results.toList k,fun _ _=>False,jZ e.P fn.results.toList k⟩ ⟨jZ e.P fn.results.toList k',fun _ _=>False,jZ e.P fn.results.toList k'⟩ (fun s' hE h=>sL hl hk hE h) (fun _ _ _ h=>h) (fun s' hE h=>sL hl hk hE h) hcc
    ·exact hcc.elim
   ·exact hcc.elim
  ·exact hcc.elim
 ·rw[ae3]at hval⊢;unfold Ay at hcc;dsimp only at hcc;split at hcc
  ·rename_i c hg;split at hcc
   ·rename_i hle;have hle':=ac5 hle
    have h3:=hX.t t
    rw[G.tv_lo ht,show aH s.toS.t t=(gtA s.t t).toV from b9 t s.t,hg,hval]at h3;obtain⟨_,m,h3⟩:=h3;cases m with
    |zero=>exact h3.elim
    |succ m=>
    obtain⟨qs,h4,h5,h6⟩:=h3;obtain rfl:ps=qs.toArray:=by injection h4
    rw[acY]at h5;have hlen:(ops.map a.eval++qs).length=(ops.map (evA s)++c.caps.map WQ).length:=by simp[h5]
    have hin:=NS hX (vs:=ops.map (evA s)++c.caps.map WQ) (ys:=ops.map a.eval++qs) hlen (fun i v y hv hy=>by
     rcases adJ i ops.length with hi|hi
     ·rw[ae0 (by simpa using hi),acZ]at hv hy;obtain⟨x,hx,rfl⟩:=adA.1 hv;rw[hx]at hy;obtain rfl:=Option.some.inj hy;have hop:=adC.1 hops x (adK hx)
      have:=aA hX hop
      rw[ae hop]at this;exact this
     ·rw[aeK (by simpa using hi)]at hv hy;simp only[acY]at hv hy;rw[acZ]at hv;obtain⟨x,hx,rfl⟩:=adA.1 hv;obtain⟨b,o,k1,k2⟩:=h6 _ x.enc y (by rw[acZ,hx];rfl) hy;refine⟨fun _=>rfl,b,o,m,by rw[afG];exact k1,?_⟩;have e:(flat (.st (Du x).1) (Du x).2).map C.toD=x.enc:=by rw[bm];exact TQ x
      rw[e];exact k2) (by simpa using hle') hnt'
    have hargs:(ops.map a.eval).toArray++qs.toArray=(ops.map a.eval++qs).toArray:=by simp
    rw[hargs];refine calls_of_wp hf hb' (Code.wp_mono (fun x a' w' hl=>?_) (jD (e:=⟨e.P,e.E,e.cs,e.sh,fun v s=>pk v ⟨s.nx,o7 s.t,s.m⟩⟩) he hm (g:=⟨fn.ntmps,g.w0,g.H0,g.own0,g.out,some (g.tv a),[]⟩) _ an _ _ hc hcc _ w ⟨H,γ,F,hin⟩));obtain⟨s',hq,H',γ',F',hX'⟩:=hl;have fin:∀t:St,s'=t.toS->jZ e.P fn.results.toList k t->a'.defers=[]/\∃v,(results fn a'.tmps).run e.P w'=.ok v w'/\fQ g a pk k (.returned v) w':=by
     rintro t rfl ht
     obtain⟨y,v,k1,k2,k3⟩:=OC (P:=e.P) hX' ht;exact⟨hX'.df.1,y,k1,.inl ⟨y,_,v,H',γ',F',rfl,k3,k2,r6 hX hnt' hX'⟩⟩
    cases x with
    |normal=>obtain⟨t,e1,ht⟩:=hq;exact fin t e1 ht
    |ret=>obtain⟨t,e1,ht⟩:=hq;exact fin t e1 ht
    |exit i=>obtain⟨t,e1,ht⟩:=hq;exact ht.elim
    |panic c=>
     obtain⟨v,t,rfl,rfl,hv⟩:=hq;exact⟨hX'.df.1,.inr ⟨v,_,rfl,hv,H',γ',F',r6 hX hnt' hX'⟩⟩
    |_=>exact hq.elim
   ·exact hcc.elim
  ·exact hcc.elim
theorem gY{P:Program}{f t:Nat}{C D:CKt}(h1:Cont P f C)(h2:Cont P f D):Cont P f (zR t C D):=by
 refine⟨h1.run,fun pk s ops k k' hk hc=>?_,fun g pk s a w H γ F ops k hX hops hc=>?_⟩
 ·unfold zR at hc⊢;split at hc
  ·split at hc
   ·exact h1.ext pk s _ k k' hk hc
   ·exact h2.ext pk s _ k k' hk hc
  ·exact h2.ext pk s _ k k' hk hc
 ·unfold zR at hc;split at hc
  ·split at hc
   ·exact h1.call g pk s a w H γ F _ k hX hops hc
   ·exact h2.call g pk s a w H γ F _ k hX hops hc
  ·exact h2.call g pk s a w H γ F _ k hX hops hc
section
variable {g:G} {s1:S} {a:Act} {w:World} {H1:FH} {γ:Gam} {F1:Nm->Fp}
theorem V5(h1:RX g s1 a w H1 γ F1){w':World}{H2:FH}{tt:Fp}(hfr:Fr w H1 (fun _=>0) w' H2 tt)(hag:∀b o y,H2 b o=some y->RdV w' b o y):RX g s1 a w' H2 γ F1:=by
 have hold:∀b,b<w.heap.size->w'.heap[b]? = w.heap[b]? := fun b hb=>hfr.block b hb rfl
 have hnew:∀b,b<w.heap.size->H1 b=H2 b:=by
  intro b hb
  funext o
  cases hc:H1 b o with
  |some y=>rw[hfr.hold b o y hc]
  |none=>
   cases hc2:H2 b o with
   |none=>rfl
   |some y=>
    rcases hfr.hnew b o (by rw[hc2];simp) hc with h'|h'
    ·exact absurd rfl h'
    ·omega
 have hsame:∀b,tot F1 s1.m b≠0->w'.heap[b]? = w.heap[b]? := fun b hb=>hold b (h1.mem.lt b hb)
 have hKp:=cg (w':=w') h1.mem hsame
 have hmem:Mem w' H2 γ s1.m F1:=by
  refine⟨hag,fun x hx=>aJ hKp hfr.hold rfl (fun b hb=>hsame b (by have:=aQ (F:=F1) hx b;omega)) (h1.mem.roots x hx),h1.mem.keys,h1.mem.le1,fun b hb=>by have:=h1.mem.lt b hb;have:=hfr.size;omega,fun b hb o=>?_⟩;rw[<- hnew b (h1.mem.lt b hb)];exact h1.mem.nofz b hb o
 have hFr:Fr w H1 (tot F1 s1.m) w' H2 (tot F1 s1.m):=
  ⟨hfr.size,hfr.os,hfr.tape,hfr.output,fun b hb _=>hold b hb,hfr.hold,fun b o h2 h3=>by
   right
   rcases adJ b w.heap.size with h'|h'
   ·rw[<- hnew b h']at h2;exact absurd h3 h2
   ·exact h',fun b hb=>.inl hb,hfr.nz⟩
 exact eN h1 hmem hFr (fun i=>bT hKp hfr.hold (h1.t i)) (fun _=>rfl)
theorem SN{s1:St}(h1:RX g s1.toS a w H1 γ F1){ops:List Operand}(hops:ops.all aw=true){ps:List U}{x:Fl ps}(hx:bv ps (ops.map (evA s1))=some x){nt:Nat}(hle:ops.length<=nt) :
  RX ⟨nt,w,H1,fun _=>0,fun _=>none,none,[]⟩ ⟨aW 0 (dT ps x),[]⟩ ⟨(ops.map a.eval).toArray++Array.replicate (nt - (ops.map a.eval).toArray.size) undef,[]⟩ w H1 γ F1:=by
 obtain⟨c1,c2,c3⟩:=cV hx;refine⟨⟨h1.mem.agree,fun x hx=>by simp at hx,by simp,fun b=>ad1 _,fun b hb=>absurd rfl hb,fun b hb=>absurd rfl hb⟩,⟨ac1 _,rfl,rfl,rfl,fun _ _ _=>rfl,fun _ _ _ h=>h,fun b o h2 h3=>absurd h3 h2,fun b hb=>absurd rfl hb,ji⟩,?_,⟨rfl,fun j b e=>by simp at e,dE h1⟩,fun i=>?_⟩
 ·simp;omega
 ·show AR w H1 γ [] (aH (aW 0 (dT ps x)) i) (Array.getD _ i undef)
  rw[<- c3,dg];simp only[ad1,if_true,afS,acZ];cases hi:ops[i]? with
  |none=>simp only[aeY,ae9];trivial
  |some y=>
   have hop:=adC.1 hops y (adK hi)
   have hy:=aA h1 hop
   rw[ae hop]at hy;simp only[Option.map_some,adW];have hz:(evA s1 y).toV.isFz=true:=by
    refine adC.1 c2 _ (adO (adO (adK hi)))
   rw[Qn hi];exact dw bW (kA (fun _ _ _ h=>h) hz hy)
end
section
variable {g:G} {s1:S} {a:Act} {w:World} {H1:FH} {γ:Gam} {F1:Nm->Fp}
theorem Mu{j:Nat}(h1:RX g s1 a w H1 γ F1){o:Operand}{os:List Operand}{r:Nm}{cells:List T}(hops':aw o=true/\os.all aw=true)(heo:ev s1 o=.one (.c (.pl ⟨r,0,[]⟩)))(hroot:aa s1.m r=some ⟨true,cells⟩)
  (htyd:(Nm.out j).tyd=r.tyd) (hself:cells.all (T.self r)=true) (hfz:(os.map (ev s1)).all AV.isFz=true) {nt:Nat} (hle:os.length+1<=nt) :
  ∃b γc,γ r=.blk b/\RX ⟨nt,w,H1,F1 r,fun i=>if i=j then some b else none,none,[]⟩ ⟨aW 0 (.one (.c (.pl ⟨.out j,0,[]⟩))::os.map fun x=>(ev s1 x).map T.canon),[(.out j,⟨true,cells.map (T.ren r (.out j))⟩)]⟩
   ⟨((o::os).map a.eval).toArray++Array.replicate (nt - ((o::os).map a.eval).toArray.size) undef,[]⟩ w H1 γc (fun _=>F1 r):=by
 have hevo:=aA h1 hops'.1
 rw[heo]at hevo;obtain⟨_,hokp,ad,had,hval⟩:=hevo;have hR:=h1.mem.roots _ (ac hroot)
 obtain⟨b,hγr⟩:∃b,γ r=.blk b:=by
  have hR2:=hR
  unfold ba at hR2;rw[if_pos rfl]at hR2;obtain⟨b,_,_,_,_,e,_⟩:=hR2;exact⟨b,e⟩
 have had':ad=⟨b,0,none⟩:=by
  simp only[plA,hγr,acV]at had;exact had.symm
 subst had';have hoff:0<cells.length:=by
  rw[am]at hokp;obtain⟨r0,q1,q2⟩:=hokp;dsimp only at q1;rw[hroot]at q1;obtain rfl:=Option.some.inj q1;exact q2
 let γc:Gam:=fun n=>if n=.out j then .blk b else γ n
 let mc:Mm:=[(.out j,⟨true,cells.map (T.ren r (.out j))⟩)]
 let g1:G:=⟨nt,w,H1,F1 r,fun i=>if i=j then some b else none,none,[]⟩
 have hγc:γc (.out j)=.blk b:=by simp[γc]
 have hRc:ba w H1 γc mc (.out j) ⟨true,cells.map (T.ren r (.out j))⟩ (F1 r):=
  lU hR htyd hself hγr hroot hγc ⟨cells.map (T.ren r (.out j)),by simp[mc,aa],by simp⟩
 have hge:∀c,F1 r c<=tot F1 s1.m c:=fun c=>aQ (F:=F1) (ac hroot) c
 let Fc:Nm->Fp:=fun _=>F1 r
 have htc:∀c,tot Fc mc c=F1 r c:=fun c=>(afG (F1 r c))
 have hmc:Mem w H1 γc mc Fc:=by
  refine⟨h1.mem.agree,fun x hx=>?_,by simp[mc],fun c=>by rw[htc];exact aeF (hge c) (h1.mem.le1 c),fun c hc=>by rw[htc]at hc;exact h1.mem.lt c (by have:=hge c;omega),fun c hc=>by rw[htc]at hc;exact h1.mem.nofz c (by have:=hge c;omega)⟩;simp only[mc,ac9]at hx;subst hx;exact hRc
 refine⟨b,γc,hγr,?_⟩;refine⟨hmc,⟨ac1 _,rfl,rfl,rfl,fun _ _ _=>rfl,fun _ _ _ h=>h,fun b o h2 h3=>absurd h3 h2,fun c hc=>.inl (by rw[htc]at hc;exact hc),ji⟩,?_,⟨rfl,fun i b' e=>?_,dE h1⟩,fun i=>?_⟩
 ·simp[g1];omega
 ·simp only[g1]at e;split at e
  ·rename_i hj;subst hj;simp only[acV]at e;subst e;exact hγc
  ·simp at e
 ·have hget:∀x,(o::os)[i]? = some x->(((o::os).map a.eval).toArray++Array.replicate (nt - ((o::os).map a.eval).toArray.size) undef).getD i undef=a.eval x:=by
   intro x hx;rw[adP,ad7 (by simp;have:=ah hx;simp at this;omega)];have e:((o::os).map a.eval)[i]? = some (a.eval x):=by rw[acZ,hx];rfl
   rw[List.getElem?_toArray,e];rfl
  cases i with
  |zero=>
   rw[G.tv_none rfl,hget o rfl,hval];simp only[aW,aH,if_true];refine⟨fun _=>rfl,?_,⟨b,0,none⟩,?_,rfl⟩
   ·rw[am];refine⟨⟨true,cells.map (T.ren r (.out j))⟩,by simp[mc,aa],?_⟩;show 0 < (cells.map (T.ren r (.out j))).length
    simpa using hoff
   ·simp only[plA,hγc]
  |succ i=>
   have hent:aH (aW 0 (.one (.c (.pl ⟨.out j,0,[]⟩))::os.map fun x=>(ev s1 x).map T.canon)) (i+1)=((os.map fun x=>(ev s1 x).map T.canon)[i]?).getD .any:=by
    simp only[aW,aH];rw[if_neg kQ1];rw[dg];simp
   show AR w H1 γc mc (aH (aW 0 (.one (.c (.pl ⟨.out j,0,[]⟩))::os.map fun x=>(ev s1 x).map T.canon)) (i+1)) _
   rw[hent,acZ];cases hi:os[i]? with
   |none=>simp only[aeY,ae9];trivial
   |some x=>
    have hx:=aA h1 (adC.1 hops'.2 x (adK hi))
    simp only[Option.map_some,adW];have hz:(ev s1 x).isFz=true:=adC.1 hfz (ev s1 x) (adO (adK hi))
    rw[G.tv_none rfl,hget x (by simpa using hi)];exact dw bW (kA (fun _ _ _ h=>h) hz hx)
theorem Ra{j:Nat}(h1:RX g s1 a w H1 γ F1){r:Nm}{cells:List T}(hroot:aa s1.m r=some ⟨true,cells⟩)(htyd:(Nm.out j).tyd=r.tyd){b:Nat}(hγr:γ r=.blk b){nt:Nat}{s2:S}{a':Act}{w':World}{H2:FH}{γ':Gam}{F2:Nm->Fp}
  (e2:RX ⟨nt,w,H1,F1 r,fun i=>if i=j then some b else none,none,[]⟩ s2 a' w' H2 γ' F2) {cells':List T} (hout:aa s2.m (.out j)=some ⟨true,cells'⟩) (hl2:cells'.length=cells.length) (hs2:cells'.all (T.self (.out j))=true) :
  ∃F3,RX g ⟨j7 (ic r) s1.t,(r,⟨true,cells'.map (T.ren (.out j) r)⟩)::ax (ic r) (bj s1.m r)⟩ a w' H2 γ F3:=by
 have hge:∀c,F1 r c<=tot F1 s1.m c:=fun c=>aQ (F:=F1) (ac hroot) c
 have hfr:=e2.fr
 dsimp only at hfr;have hd:=pm h1 r
 have hmdm:(s1.drop r).m=ax (aM r) (bj s1.m r):=rfl
 have hdm:=hd.mem
 rw[hmdm]at hdm;generalize hmd0:ax (aM r) (bj s1.m r)=md at hdm;have tdel:∀c,tot F1 md c+F1 r c=tot F1 s1.m c:=fun c=>by
  rw[<- hmd0,aT];exact iC hroot c
 have hsame:∀c,tot F1 md c≠0->w'.heap[c]? = w.heap[c]? := fun c hc=>
  hfr.block c (h1.mem.lt c (by have:=tdel c;omega)) (by have:=tdel c;have:=h1.mem.le1 c;omega)
 have hnewc:∀c,c<w.heap.size->F1 r c=0->H1 c=H2 c:=by
  intro c hc h0
  funext o
  cases hh:H1 c o with
  |some y=>rw[hfr.hold c o y hh]
  |none=>
   cases hh2:H2 c o with
   |none=>rfl
   |some y=>
    rcases hfr.hnew c o (by rw[hh2];simp) hh with h'|h'
    ·exact absurd h0 h'
    ·omega
 have hKp:=cg (w':=w') hdm hsame
 have hmd:Mem w' H2 γ md F1:=by
  refine⟨e2.mem.agree,fun x hx=>aJ hKp hfr.hold rfl (fun c hc=>hsame c (by have:=aQ (F:=F1) hx c;omega)) (hdm.roots x hx),hdm.keys,hdm.le1,fun c hc=>by have:=hdm.lt c hc;have:=hfr.size;omega,fun c hc o=>?_⟩;rw[<- hnewc c (hdm.lt c hc) (by have:=tdel c;have:=h1.mem.le1 c;omega)];exact hdm.nofz c hc o
 have hRout:=e2.mem.roots _ (ac hout)
 have hγ':γ' (.out j)=.blk b:=e2.df.2.1 j b (by simp)
 have hnone:aa md r=none:=by rw[<- hmd0];exact yL h1.mem.keys
 have hupd:upd γ r (.blk b)=γ:=by
  funext n
  by_cases hn:n=r
  ·subst hn;rw[cr,hγr]
  ·rw[iT hn]
 have hRr:ba w' H2 (upd γ r (.blk b)) ((r,⟨true,cells'.map (T.ren (.out j) r)⟩)::md) r ⟨true,cells'.map (T.ren (.out j) r)⟩ (F2 (.out j)):=
  lU hRout htyd.symm hs2 hγ' hout cr ⟨cells'.map (T.ren (.out j) r),by simp only[aa,if_true],by simp⟩
 have hf1:∀c,F2 (.out j) c<=tot F2 s2.m c:=fun c=>aQ (F:=F2) (ac hout) c
 have hf2:∀c,F2 (.out j) c≠0->F1 r c≠0\/w.heap.size<=c:=fun c hc=>hfr.tt c (by have:=hf1 c;omega)
 have hmd0':∀c,F2 (.out j) c≠0->tot F1 md c=0:=fun c hc=>by
  rcases hf2 c hc with h'|h'
  ·have:=tdel c;have:=h1.mem.le1 c;omega
  ·rcases adM (tot F1 md c)with h0|h0
   ·exact h0
   ·have:=hdm.lt c kQ1;omega
 obtain⟨hM,htot⟩:=rY hmd (n:=r) (rc:=.blk b) (r:=⟨true,cells'.map (T.ren (.out j) r)⟩) (f:=F2 (.out j)) hnone hRr (fun c=>by
   by_cases hc:F2 (.out j) c=0
   ·have:=hdm.le1 c;omega
   ·have:=hmd0' c hc;have:=e2.mem.le1 c;have:=hf1 c;omega)
  (fun c hc=>⟨e2.mem.lt c (by have:=hf1 c;omega),e2.mem.nofz c (by have:=hf1 c;omega)⟩)
 rw[hupd]at hM;have hFr:Fr w H1 (tot F1 s1.m) w' H2 (tot (upd F1 r (F2 (.out j))) ((r,⟨true,cells'.map (T.ren (.out j) r)⟩)::md)):=by
  refine⟨hfr.size,hfr.os,hfr.tape,hfr.output,fun c hc h0=>hfr.block c hc (by have:=hge c;omega),hfr.hold,fun c o h2 h3=>?_,fun c hc=>?_,hfr.nz⟩
  ·rcases hfr.hnew c o h2 h3 with h'|h'
   ·exact .inl (by have:=hge c;omega)
   ·exact .inr h'
  ·rw[htot]at hc;by_cases h0:F2 (.out j) c=0
   ·exact .inl (by have:=tdel c;omega)
   ·rcases hf2 c h0 with h'|h'
    ·exact .inl (by have:=hge c;omega)
    ·exact .inr h'
 have hKB:KeepsB (ic r) w γ s1.m w' γ ((r,⟨true,cells'.map (T.ren (.out j) r)⟩)::md):=by
  have hKa:=jr (w:=w') (γ:=γ) (rc:=.blk b) (r:=⟨true,cells'.map (T.ren (.out j) r)⟩) hnone
  rw[hupd]at hKa;have hKd:KeepsB (aM r) w γ s1.m w γ md:=by rw[<- hmd0];exact cM
  constructor
  ·intro q hbq hq;by_cases hqr:q.root=r
   ·obtain⟨qr,qo,qp⟩:=q;dsimp only at hqr;subst hqr;simp only[ic,decide_true,ad6,aeG,Bool.not_eq_false',List.isEmpty_iff]at hbq;subst hbq;refine⟨?_,by simp only[plA]⟩;rw[am]at hq⊢;obtain⟨r0,q1,q2⟩:=hq;dsimp only at q1 q2;rw[hroot]at q1;obtain rfl:=Option.some.inj q1;refine⟨⟨true,cells'.map (T.ren (.out j) qr)⟩,by simp only[aa,if_true],?_⟩;have q2':qo<cells.length:=q2
    show qo < (cells'.map (T.ren (.out j) qr)).length
    simp;omega
   ·obtain⟨k1,k2⟩:=hKd.pl q (by simp[aM,hqr]) hq;obtain⟨k3,k4⟩:=hKp.pl q k1;obtain⟨k5,k6⟩:=hKa.pl q k3;exact⟨k5,k6.trans (k4.trans k2)⟩
  ·intro q hbq hq;have hqr:q.root≠r:=by
    intro e;simp[ic,e]at hbq
   obtain⟨k1,k2⟩:=hKd.rf q (by simp[aM,hqr]) hq;obtain⟨k3,k4⟩:=hKp.rf q k1;obtain⟨k5,k6⟩:=hKa.rf q k3;exact⟨k5,k6.trans (k4.trans k2)⟩
 have hmem2:aa ((r,(⟨true,cells'.map (T.ren (.out j) r)⟩:Root))::ax (ic r) (bj s1.m r)) r=some ⟨true,cells'.map (T.ren (.out j) r)⟩:=by simp only[aa,if_true]
 have hKB2:KeepsB (ic r) w γ s1.m w' γ ((r,⟨true,cells'.map (T.ren (.out j) r)⟩)::ax (ic r) (bj s1.m r)):=by
  constructor
  ·intro q hbq hq;refine⟨?_,(hKB.pl q hbq hq).2⟩;by_cases hqr:q.root=r
   ·have h:=(hKB.pl q hbq hq).1
    rw[am]at h⊢;obtain⟨r0,q1,q2⟩:=h;refine⟨r0,?_,q2⟩;rw[hqr]at q1⊢;simpa only[aa,if_true]using q1
   ·have h2:bz (ax (ic r) (bj s1.m r)) q:=rj (by rw[am]at hq⊢;rw[jx hqr];exact hq)
    rw[am]at h2⊢;obtain⟨r0,q1,q2⟩:=h2;exact⟨r0,by simp only[aa];rw[if_neg (fun e=>hqr e.symm)];exact q1,q2⟩
  ·intro q hbq hq;have hqr:q.root≠r:=by
    intro e;simp[ic,e]at hbq
   refine⟨?_,(hKB.rf q hbq hq).2⟩;have h2:fI (ax (ic r) (bj s1.m r)) q:=rk (by unfold fI at hq⊢;rw[jx hqr];exact hq)
   unfold fI at h2⊢;simp only[aa];rw[if_neg (fun e=>hqr e.symm)];exact h2
 have ht2:∀Fu:Nm->Fp,tot Fu ((r,(⟨true,cells'.map (T.ren (.out j) r)⟩:Root))::ax (ic r) (bj s1.m r))=tot Fu ((r,⟨true,cells'.map (T.ren (.out j) r)⟩)::md):=fun Fu=>by
  funext c
  rw[bi,bi,<- hmd0,aT,aT]
 have hM2:Mem w' H2 γ ((r,⟨true,cells'.map (T.ren (.out j) r)⟩)::ax (ic r) (bj s1.m r)) (upd F1 r (F2 (.out j))):=by
  refine⟨hM.agree,fun x hx=>?_,?_,fun b=>by rw[ht2];exact hM.le1 b,fun b hb=>hM.lt b (by rwa [ht2]at hb),fun b hb=>hM.nofz b (by rwa [ht2]at hb)⟩
  ·rcases ac8.1 hx with rfl|hx
   ·dsimp only;rw[cr];exact lU hRout htyd.symm hs2 hγ' hout hγr ⟨_,hmem2,by simp⟩
   ·simp only[ax,adR]at hx;obtain⟨x0,hx0,rfl⟩:=hx;dsimp only;have hne:x0.1≠r:=fun e=>mh (n:=r) h1.mem.keys (by have:=adO (f:=(·.1)) hx0;rw[e]at this;exact this)
    rw[iT hne];refine qO hKB2 hfr.hold rfl (fun c hc=>hsame c ?_) (h1.mem.roots x0 (y6 hx0));have:=aQ (F:=F1) hx0 c
    rw[<- hmd0,aT];omega
  ·have:=hM.keys
   rw[<- hmd0]at this;simpa only[List.map_cons,ni]using this
 refine⟨_,eN h1 hM2 (by rw[ht2];exact hFr) (fun i=>?_) (fun _=>rfl)⟩;rw[jY];exact pc hKB2 hfr.hold (h1.t i)
end
theorem Kn{e:En}(he:e.ok)(hm:e.P.follows .mixedOrders=true){f:Nat}{fn:Func}(hf:e.P.funcs[f]? = some fn) (hname:(fn.name == "runtime.NumGoroutine")=false) (hb:fn.body.isSome=true) {an:An} {sh:List Sh} {u:U} {ps rs:List U}
  (hlen:Nat.ble (ps.length+1) fn.ntmps=true) (hc:fi fn.ntmps (fn.body.getD .skip)=true):Cont e.P f (Cr e fn an sh u ps rs):=by
 have hb':fn.body=some (fn.body.getD .skip):=by cases h:fn.body with
  |none=>rw[h]at hb;cases hb
  |some c=>rfl
 refine⟨EB hf hname hb,fun pk s ops k k' hk hcc=>?_,fun g pk s a w H γ F1 ops k hX hops hcc=>?_⟩
 ·unfold Cr at hcc⊢;split at hcc
  ·exact hcc.elim
  ·dsimp only at hcc⊢;split at hcc
   ·split at hcc
    ·split at hcc
     ·split at hcc
      ·split at hcc
       ·obtain⟨KK,KP,b1,b2,b3⟩:=hcc;refine⟨KK,KP,b1,fun z x' hz=>hk _ _ ?_ (b2 z x' hz),b3⟩;exact((bE _ _).trans (cK _ _ _ _ _)).trans ⟨ad3 _,fq (ac1 _),((lO _).trans (cQ (ac1 _))).trans (jq _ _ _ (ac1 _))⟩
       ·exact hcc.elim
      ·exact hcc.elim
     ·exact hcc.elim
    ·exact hcc.elim
   ·exact hcc.elim
 ·unfold Cr at hcc;cases ops with
  |nil=>exact hcc.elim
  |cons o os=>
   dsimp only at hcc;have hops':aw o=true/\os.all aw=true:=by simpa using hops
   obtain⟨H1,F2,h1⟩:=cj (os.map (evA s)) s H F1 hX;generalize bt s (os.map (evA s))=s1 at hcc h1;split at hcc
   ·rename_i r hro;obtain⟨H2,γ2,F3,h2⟩:=cc (g:=g) r (dF u) sh 0 (Pu h1);generalize a8 s1 r (dF u) sh 0=s2 at hcc h2;split at hcc
    ·rename_i r' hev2;split at hcc
     ·rename_i cells hdr hty hroot;have hr':r'=r:=by simpa using hdr
      subst hr';split at hcc
      ·rename_i ts hts;split at hcc
       ·rename_i x y hx hy;have hn2:=d9 h2
        obtain⟨c1,c2,c3⟩:=cV hy;obtain⟨k1,_⟩:=pU hts (jg hx);have hrootS:aa s2.toS.m r'=some ⟨true,cells.map Tt.toT⟩:=by
         have:=aP hroot
         exact this
        have hlen2:os.length=ps.length:=by
         have:=congrArg List.length c3
         rw[cz]at this;simpa using this
        obtain⟨b,γc,hγr,hent⟩:=Mu (j:=0) h2 hops' (by rw[ae hops'.1,hev2];rfl) hrootS (by rw[hty];rfl) (gA hts).1 (by rw[cO hops'.2];exact c2) (nt:=fn.ntmps) (by rw[hlen2];exact ac5 hlen);have hent2:=pj hent (.out 0)
        have e0:(⟨1,(0,0,.one (.c (.pl ⟨.out 0,0,[]⟩)))::wn 1 ps y,[(.out 0,0,⟨true,aB sh (flat u x),none⟩)]⟩:St).toS=⟨aW 0 (.one (.c (.pl ⟨.out 0,0,[]⟩))::os.map fun x=>(ev s2.toS x).map T.canon),[(Nm.out 0,(⟨true,(cells.map Tt.toT).map (T.ren r' (.out 0))⟩:Root))].map fun x=>(x.1,if x.1=.out 0 then fS x.2 else x.2)⟩:=by
         have e1:(os.map fun x=>(ev s2.toS x).map T.canon)=dT ps y:=by
          have e:(os.map fun x=>(ev s2.toS x).map T.canon)=(os.map (ev s2.toS)).map (AV.map T.canon):=by rw[adD];rfl
          rw[e,cO hops'.2];exact c3
         rw[e1];refine aY.S_ext ?_ ?_
         ·simp only[St.toS,List.map_cons,aW,io];rfl
         ·rw[(gA hts).2];simp only[St.toS,List.map_cons,List.map_nil,if_true,Rt.toR,holed,fS,k1]
        rw[<- e0]at hent2;obtain⟨KK,KP,h,hkk,hkp⟩:=hcc;have back:∀{s':S}{a':Act}{w':World}{H':FH}{γ':Gam}{F':Nm->Fp}{cells1 ts1:List Tt}{y1:El u},RX ⟨fn.ntmps,w,H2,F3 r',fun i=>if i=0 then some b else none,none,[]⟩ s' a' w' H' γ' F' ->
          aa s'.m (.out 0)=some ⟨true,cells1.map Tt.toT⟩->dx sh cells1=some ts1->gz u ts1=some y1 ->
          ∃F4,RX g (⟨s2.nx+1,j6 (jQ r') s2.nx s2.t,(r',s2.nx,⟨true,aB sh (flat u y1),none⟩)::bH (jQ r') s2.nx (dq s2.m r')⟩:St).toS a w' H' γ2 F4:=by
         intro s' a' w' H' γ' F' cells1 ts1 y1 e2 hout q2 q3;obtain⟨k3,_⟩:=pU q2 (jg q3);have hl:(cells1.map Tt.toT).length=(cells.map Tt.toT).length:=by
          have l2:∀(sh:List Sh)(a b:List C),a.length=b.length->(aB sh a).length=(aB sh b).length:=by
           intro sh;induction sh with
           |nil=>intro a b _;cases a<;>cases b<;>rfl
           |cons s r ih=>
            intro a b hab;have hcons:∀(c:C)(cs:List C),(aB (s::r) (c::cs)).length=(aB r cs).length+1:=by
             intro c cs;cases s<;>cases c<;>rfl
            cases a with
            |nil=>cases b with
             |nil=>rfl
             |cons _ _=>cases hab
            |cons c cs=>cases b with
             |nil=>cases hab
             |cons d ds=>rw[hcons,hcons,ih cs ds (by simpa using hab)]
          have a1:=congrArg List.length k3
          have a2:=congrArg List.length k1
          have a3:=l2 sh (flat u y1) (flat u x) (by rw[ir,ir])
          simp only[acY]at a1 a2⊢;omega
         obtain⟨F4,hX'⟩:=Ra (j:=0) h2 hrootS (by rw[hty];rfl) hγr e2 hout hl (gA q2).1;refine⟨F4,?_⟩;have hcn:=pj hX' r'
         have hlist:((r',(⟨true,(cells1.map Tt.toT).map (T.ren (.out 0) r')⟩:Root))::ax (ic r') (bj s2.toS.m r')).map (fun x=>(x.1,if x.1=r' then fS x.2 else x.2))=(r',⟨true,(aB sh (flat u y1)).map Tt.toT⟩)::ax (ic r') (bj s2.toS.m r'):=by
          simp only[List.map_cons,if_true]
          congr 1
          ·rw[u9 k3.symm];simp only[fS,k3]
          ·refine(adG fun z hz=>?_).trans (List.map_id _);have hne:z.1≠r':=by
            intro e;have hz1:z.1∈(ax (ic r') (bj s2.toS.m r')).map (·.1):=adO (f:=(·.1)) hz
            have e2:(ax (ic r') (bj s2.toS.m r')).map (·.1)=(bj s2.toS.m r').map (·.1):=by simp only[ax,adD];rfl
            rw[e2,e]at hz1;exact mh h2.mem.keys hz1
           rw[if_neg hne];rfl
         have hfin:(⟨s2.nx+1,j6 (jQ r') s2.nx s2.t,(r',s2.nx,⟨true,aB sh (flat u y1),none⟩)::bH (jQ r') s2.nx (dq s2.m r')⟩:St).toS=⟨j7 (ic r') s2.toS.t,(r',⟨true,(aB sh (flat u y1)).map Tt.toT⟩)::ax (ic r') (bj s2.toS.m r')⟩:=by
          refine aY.S_ext (jz _ _ _) ?_;simp only[St.toS,List.map_cons]
          congr 1
          have:=cN (jQ r') s2.nx (dq s2.m r')
          rw[jV _ _ hn2]at this;exact this
         rw[hfin];dsimp only at hcn;rw[hlist]at hcn;exact hcn
        refine calls_of_wp hf hb' (Code.wp_mono (fun ex a' w' hl=>?_) (jD (e:=⟨e.P,e.E,e.cs,e.sh,OW sh u KP⟩) he hm (g:=⟨fn.ntmps,w,H2,F3 r',fun i=>if i=0 then some b else none,none,[]⟩) _ an _ _ hc h _ w ⟨H2,γc,_,hent2⟩));obtain⟨s',hq,hR⟩:=hl;have fin:∀t:St,s'=t.toS->ko e.P fn.results.toList sh u rs KK t ->
          a'.defers=[]/\∃v,(results fn a'.tmps).run e.P w'=.ok v w'/\fQ g a pk k (.returned v) w':=by
         rintro t rfl ht
         unfold ko at ht;dsimp only at ht;have hR1:=cc (.out 0) (dF u) sh 0 (mP fn.results.toList hR)
         generalize a8 (iu t fn.results.toList) (.out 0) (dF u) sh 0=s3 at ht hR1;have hid:=m6 (us:=rs) (k:=fun vs=>match bv rs vs,be s3.m (.out 0)with
          |some x_1,some ⟨true,cells,none⟩=>match dx sh cells with
           |some ts=>match gz u ts with
            |some y_1=>KK (x_1,y_1)
            |none=>False
           |none=>False
          |_,_=>False) (by
           intro vs hvs;split at hvs
           ·rename_i h1 _;exact⟨_,h1⟩
           ·exact hvs.elim) ht
         have hg2:=iA (us:=rs) (K:=fun r=>∃cells ts y1,be s3.m (.out 0)=some ⟨true,cells,none⟩/\dx sh cells=some ts/\gz u ts=some y1/\KK (r,y1)) (US hR1) (by
           intro vs hvs;split at hvs
           ·rename_i x1 cells1 h1 h2;split at hvs
            ·rename_i ts h3;split at hvs
             ·rename_i y1 h4;exact⟨x1,h1,cells1,ts,y1,h2,h3,h4,hvs⟩
             ·exact hvs.elim
            ·exact hvs.elim
           ·exact hvs.elim) ht
         obtain⟨Hs,γs,Fs,hXs⟩:=hR1;obtain⟨y0,v,H4,F4,e1,e2,e3,e4,r0,e5,cells1,ts1,y1,q1,q2,q3,q4⟩:=Jf hXs rfl (Ex hid (K:=fun v=>∃r,v=(bC rs r).toV/\∃cells ts y1,be s3.m (.out 0)=some ⟨true,cells,none⟩/\dx sh cells=some ts/\gz u ts=some y1/\KK (r,y1)) (fun r hr=>⟨r,rfl,hr⟩) hg2);rw[hid]at e2 e3;obtain⟨F5,hX5⟩:=back e2 (aP q1) q2 q3;refine⟨e2.df.1,y0,e1,.inl ⟨y0,_,bC rs r0,H4,γ2,F5,rfl,hkk _ _ q4,?_,hX5⟩⟩;rw[<- e5];exact dw bW (kA (fun _ _ _ h=>h) e4 e3)
        cases ex with
        |normal=>obtain⟨t,e1,ht⟩:=hq;exact fin t e1 ht
        |ret=>obtain⟨t,e1,ht⟩:=hq;exact fin t e1 ht
        |exit i=>obtain⟨t,e1,ht⟩:=hq;exact ht.elim
        |panic c=>
         obtain⟨v,t,rfl,rfl,hv⟩:=hq;unfold OW at hv;dsimp only at hv;have hR1:=cc (.out 0) (dF u) sh 0 hR
         have hdf:a'.defers=[]:=by obtain⟨_,_,_,hX'⟩:=hR;exact hX'.df.1
         generalize a8 t (.out 0) (dF u) sh 0=s3 at hv hR1;split at hv
         ·rename_i cells1 q1;split at hv
          ·rename_i ts1 q2;split at hv
           ·rename_i y1 q3;obtain⟨Hs,γs,Fs,hXs⟩:=hR1;obtain⟨F5,hX5⟩:=back hXs (aP q1) q2 q3;exact⟨hdf,.inr ⟨v,_,rfl,hkp _ _ hv,Hs,γ2,F5,hX5⟩⟩
           ·exact hv.elim
          ·exact hv.elim
         ·exact hv.elim
        |_=>exact hq.elim
       ·exact hcc.elim
      ·exact hcc.elim
     ·exact hcc.elim
    ·exact hcc.elim
   ·exact hcc.elim
theorem wU{e:En}(he:e.ok)(hm:e.P.follows .mixedOrders=true){fn:Func}{an:An}{ps rs:List U}{g:G}(hg:g.nt=fn.ntmps)(hc:fi fn.ntmps (fn.body.getD .skip)=true){x:Fl ps}{KK:Fl rs->Prop}{K:AV->Prop}
  (hK:∀r,KK r->K (bC rs r).toV) (h:ao e fn an ps rs x KK):AW e.P g (fn.body.getD .skip) (XQ e.P fn.results.toList K) ⟨aW 0 (dT ps x),[]⟩:=by
 have h1:=jD (e:=⟨e.P,e.E,e.cs,e.sh,fun _ _=>False⟩) he hm (g:=g) _ an (yz ps x) _ (by rw[hg];exact hc) h
 have e0:(yz ps x).toS=⟨aW 0 (dT ps x),[]⟩:=aY.S_ext (io 0 ps x) rfl
 rw[e0]at h1;refine lJ h1 (fun ex s' a w h' hR=>?_);cases ex with
 |normal=>
  obtain⟨t,rfl,ht⟩:=h';exact nr hK ht hR
 |ret=>
  obtain⟨t,rfl,ht⟩:=h';exact nr hK ht hR
 |exit i=>exact h'.elim (fun t ht=>ht.2.elim)
 |panic c=>obtain⟨_,_,_,_,hf⟩:=h';exact hf.elim
 |_=>exact h'.elim
theorem abC{u:U}(hu:scU u=true)(x:El u):∀{H H':FH}{y:Value},FDx H (aj u x).toD y->FDx H' (aj u x).toD y:=by
 intro H H' y h;cases u with
 |i k=>obtain⟨rfl,h2⟩:=dQ h;exact⟨0,rfl,h2⟩
 |b8=>obtain⟨rfl,h2⟩:=dQ h;exact⟨0,rfl,h2⟩
 |bo=>obtain rfl:=gZ h;exact⟨0,rfl⟩
 |s=>obtain⟨rfl,h2⟩:=fM h;exact⟨0,rfl,h2⟩
 |_=>cases hu
theorem XT{u:U}(hu:scU u=true)(x:El u):AU u x=.c (.d (aj u x)):=by cases u<;>first|rfl|cases hu
theorem abB{w w':World}{H H':FH}{γ γ':Gam}{m m':Mm}:∀{rs:List U}{y:Fl rs}{z:Value},rs.all scU=true->AR w H γ m (bC rs y).toV z->AR w' H' γ' m' (bC rs y).toV z:=by
 have one:∀{u:U}{x:El u}{z:Value},scU u=true->AR1 w H γ m (AU u x).toV z->AR1 w' H' γ' m' (AU u x).toV z:=by
  intro u x z hu h;rw[XT hu]at h⊢;exact⟨h.1,abC hu x h.2⟩
 have all:∀(rs:List U)(y:Fl rs)(zs:List Value),rs.all scU=true->ARs w H γ m ((bC.resL rs y).map A1.toV) zs->ARs w' H' γ' m' ((bC.resL rs y).map A1.toV) zs:=by
  intro rs;induction rs with
  |nil=>intro y zs _ h;cases zs with
   |nil=>trivial
   |cons _ _=>exact h.elim
  |cons u r ih=>
   intro y zs hs h;simp only[adE,acX]at hs;cases zs with
   |nil=>exact h.elim
   |cons z zs=>exact⟨one hs.1 h.1,ih _ zs hs.2 h.2⟩
 intro rs y z hs h
 match rs,y with
 |[],_=>obtain⟨l,h1,h2⟩:=h;exact⟨l,h1,all [] () _ rfl h2⟩
 |[u],y=>
  simp only[adE,List.all_nil,afO]at hs;have e:(bC [u] y).toV=.one (AU u y).toV:=by show(zX u y).toV=_;rw[tz];rfl
  rw[e]at h⊢;exact one hs h
 |u::v::r,y=>obtain⟨l,h1,h2⟩:=h;exact⟨l,h1,all (u::v::r) y _ hs h2⟩
section
variable {P:Program} {g:G} {a:Act} {w:World} {H:FH} {γ:Gam} {F:Nm->Fp}
theorem Js{s:St}{p:Pl}{sh:List Sh}{u:U}{l:List (El u)}{r:Rt}(hr:be s.m p.root=some r)(hh:r.hole=none)(h:sliceAt s.m p=some ⟨sh,u,l⟩)(hp:okP s.toS.m p):aS s.toS.m p=some (.ow sh (l.map (al u))):=by
 unfold sliceAt at h;split at h
 ·rename_i sh' u' l' ht;cases h;have e:r.toR=⟨r.blk,r.cells.map Tt.toT⟩:=by unfold Rt.toR;rw[hh];rfl
  have hg:aa s.toS.m p.root=some ⟨r.blk,r.cells.map Tt.toT⟩:=by rw[<- e];exact aP hr
  unfold atT at ht;rw[hr]at ht;dsimp only at ht;unfold aS;rw[hg];dsimp only;cases hpath:p.path with
  |nil=>
   rw[hpath]at ht;dsimp only at ht⊢;split at ht
   ·simp only[acV]at ht;have:(r.cells.drop p.off)[0]? = some (.ow sh u l):=by
     have h2:=congrArg (·[0]?) ht
     simp only[adX]at h2;rw[adI kQ1]at h2;exact h2
    rw[adS,afG]at this;rw[acZ,this];rfl
   ·cases ht
  |cons st q=>
   rw[hpath]at ht;dsimp only at ht⊢;split at ht
   ·rename_i sub u2 l2 _ hc;unfold okP at hp;rw[hpath]at hp;obtain⟨r',sub',l',e1,e2,e3⟩:=hp;rw[hg]at e1;obtain rfl:=Option.some.inj e1;dsimp only at e2;have hc':(r.cells.map Tt.toT)[p.off]? = some (.ow sub (l2.map (al u2))):=by rw[acZ,hc];rfl
    rw[hc']at e2;have e2':=Option.some.inj e2
    simp only[T.ow.injEq]at e2';obtain⟨rfl,rfl⟩:=e2';rw[hc'];dsimp only;rw[yN e3 ht]
   ·cases ht
 ·cases h
def ma(w:World)(H:FH)(t:Fp):FH:=fun b o=>if t b≠0 then(w.cell? ⟨b,o,none⟩).map HV.c else H b o
theorem sN{s:S}(h:RX g s a w H γ F):∀b o y,H b o=some y->ma w H (tot F s.m) b o=some y:=by
 intro b o y hy;unfold ma;split
 ·rename_i hb;rw[h.mem.nofz b hb o]at hy;cases hy
 ·exact hy
theorem II{s:S}(h:RX g s a w H γ F):∀b o y,ma w H (tot F s.m) b o=some y->RdV w b o y:=by
 intro b o y hy;unfold ma at hy;split at hy
 ·obtain⟨z,hz,rfl⟩:=adA.1 hy;exact hz
 ·exact h.mem.agree b o y hy
theorem LY(s:St)(v:At):lent s v=v\/∃p r sh u l,v=.one (.c (.rf p))/\lent s v=sct (.li u l)/\be s.m p.root=some r/\r.hole=none/\sliceAt s.m p=some ⟨sh,u,l⟩:=by
 unfold lent;split
 ·rename_i p;split
  ·rename_i r hr;split
   ·rename_i sh u l hh hs;exact .inr ⟨p,r,sh,u,l,rfl,rfl,hr,hh,hs⟩
   ·exact .inl rfl
  ·exact .inl rfl
 ·exact .inl rfl
theorem Xr{s:St}(h:RX g s.toS a w H γ F){v:At}{z:Value}(hv:AR w H γ s.toS.m v.toV z)(hz:(lent s v).toV.isFz=true):AR w (ma w H (tot F s.toS.m)) γ [] (lent s v).toV z:=by
 rcases LY s v with e|⟨p,r,sh,u,l,rfl,e,hr,hh,hs⟩
 ·rw[e]at hz⊢;exact kA (sN h) hz hv
 ·rw[e];have hg:=Js hr hh hs (oK hv.2.1)
  obtain⟨f,y,e1,⟨k,e4⟩,e5,_⟩:=xH h.mem (dM hv.2.1) hg;rw[hv.2.2]at e1;obtain rfl:=Option.some.inj e1;refine⟨fun _=>rfl,SJ (sN h) k _ _ f _ e4 (fun b hb o x hx=>?_)⟩;unfold ma;have hbt:tot F s.toS.m b≠0:=by
   have h1:=e5 b
   have h2:=aQ (F:=F) (ac (aP hr)) b
   dsimp only at h2;have h3:tot F s.toS.m b=tot F (toM s.m) b:=rfl
   omega
  rw[if_pos hbt,hx];rfl
theorem UD{s:St}(h:RX g s.toS a w H γ F){ops:List Operand}(hops:ops.all aw=true){ps:List U}{x:Fl ps}(hx:bv ps (ops.map fun x=>lent s (evA s x))=some x){nt:Nat}(hle:ops.length<=nt) :
  RX ⟨nt,w,ma w H (tot F s.toS.m),fun _=>0,fun _=>none,none,[]⟩ ⟨aW 0 (dT ps x),[]⟩ ⟨(ops.map a.eval).toArray++Array.replicate (nt - (ops.map a.eval).toArray.size) undef,[]⟩ w (ma w H (tot F s.toS.m)) γ F:=by
 obtain⟨c1,c2,c3⟩:=cV hx;refine⟨⟨II h,fun x hx=>by simp at hx,by simp,fun b=>ad1 _,fun b hb=>absurd rfl hb,fun b hb=>absurd rfl hb⟩,⟨ac1 _,rfl,rfl,rfl,fun _ _ _=>rfl,fun _ _ _ h=>h,fun b o h2 h3=>absurd h3 h2,fun b hb=>absurd rfl hb,ji⟩,?_,⟨rfl,fun j b e=>by simp at e,xF (sN h) (dE h)⟩,fun i=>?_⟩
 ·simp;omega
 ·show AR w _ γ [] (aH (aW 0 (dT ps x)) i) (Array.getD _ i undef)
  rw[<- c3,dg];simp only[ad1,if_true,afS,acZ];cases hi:ops[i]? with
  |none=>simp only[aeY,ae9];trivial
  |some y=>
   have hop:=adC.1 hops y (adK hi)
   have hy:=aA h hop
   rw[ae hop]at hy;simp only[Option.map_some,adW];have hz:(lent s (evA s y)).toV.isFz=true:=by
    refine adC.1 c2 _ (adO ?_);exact adO (f:=fun x=>lent s (evA s x)) (adK hi)
   have hget:((ops.map a.eval).toArray++Array.replicate (nt - (ops.map a.eval).toArray.size) undef).getD i undef=a.eval y:=by
    rw[adP,ad7 (by simp;exact ah hi)];simp[hi]
   rw[hget];exact dw bW (Xr h hy hz)
theorem Pp{s1:S}(h1:RX g s1 a w H γ F){w':World}{H2:FH}{tt:Fp}(hfr:Fr w (ma w H (tot F s1.m)) (fun _=>0) w' H2 tt)(hag:∀b o y,H2 b o=some y->RdV w' b o y) :
  RX g s1 a w' (fun b o=>if tot F s1.m b≠0 then none else H2 b o) γ F:=by
 have hold:∀b,b<w.heap.size->w'.heap[b]? = w.heap[b]? := fun b hb=>hfr.block b hb rfl
 have hsame:∀b,tot F s1.m b≠0->w'.heap[b]? = w.heap[b]? := fun b hb=>hold b (h1.mem.lt b hb)
 have hKp:=cg (w':=w') h1.mem hsame
 have hle:∀b o y,H b o=some y->(if tot F s1.m b≠0 then none else H2 b o)=some y:=by
  intro b o y hy;split
  ·rename_i hb;rw[h1.mem.nofz b hb o]at hy;cases hy
  ·exact hfr.hold b o y (sN h1 b o y hy)
 have hnew:∀b o,(if tot F s1.m b≠0 then none else H2 b o)≠none->H b o=none->w.heap.size<=b:=by
  intro b o h2 h3;split at h2
  ·exact absurd rfl h2
  ·rename_i hb;have h4:ma w H (tot F s1.m) b o=none:=by unfold ma;rw[if_neg hb];exact h3
   rcases hfr.hnew b o h2 h4 with h'|h'
   ·exact absurd rfl h'
   ·exact h'
 have hmem:Mem w' (fun b o=>if tot F s1.m b≠0 then none else H2 b o) γ s1.m F:=by
  refine⟨fun b o y hy=>?_,fun x hx=>aJ hKp hle rfl (fun b hb=>hsame b (by have:=aQ (F:=F) hx b;omega)) (h1.mem.roots x hx),h1.mem.keys,h1.mem.le1,fun b hb=>by have:=h1.mem.lt b hb;have:=hfr.size;omega,fun b hb o=>?_⟩
  ·split at hy
   ·cases hy
   ·exact hag b o y hy
  ·rw[if_pos hb]
 have hFr:Fr w H (tot F s1.m) w' (fun b o=>if tot F s1.m b≠0 then none else H2 b o) (tot F s1.m):=
  ⟨hfr.size,hfr.os,hfr.tape,hfr.output,fun b hb _=>hold b hb,hle,fun b o h2 h3=>.inr (hnew b o h2 h3),fun b hb=>.inl hb,hfr.nz.1,fun b o x l c h2 h3=>by
   have h5:=hnew b o (by rw[h2];simp) h3
   split at h2
   ·cases h2
   ·rename_i hb;exact hfr.nz.2 b o x l c h2 (by unfold ma;rw[if_neg hb];exact h3)⟩
 exact eN h1 hmem hFr (fun i=>bT hKp hle (h1.t i)) (fun _=>rfl)
theorem xh{e:En}(he:e.ok)(hm:e.P.follows .mixedOrders=true){f:Nat}{fn:Func}(hf:e.P.funcs[f]? = some fn) (hname:(fn.name == "runtime.NumGoroutine")=false) (hb:fn.body.isSome=true) {an:An} {ps rs:List U} {Φ:Fl ps->(Fl rs->Prop)->Prop}
  (hlen:Nat.ble ps.length fn.ntmps=true) (hc:fi fn.ntmps (fn.body.getD .skip)=true) (law:∀x KK,Φ x KK->ao e fn an ps rs x KK):Cont e.P f (yT ps rs Φ):=by
 have hb':fn.body=some (fn.body.getD .skip):=by cases h:fn.body with
  |none=>rw[h]at hb;cases hb
  |some c=>rfl
 refine⟨EB hf hname hb,fun pk s ops k k' hk hcc=>?_,fun g pk s a w H γ F ops k hX hops hcc=>?_⟩
 ·unfold yT at hcc⊢;split at hcc
  ·obtain⟨KK,h1,h2⟩:=hcc;exact⟨KK,h1,fun y hy=>hk _ _ (Ext.refl s) (h2 y hy)⟩
  ·exact hcc.elim
 ·unfold yT at hcc;split at hcc
  rotate_left
  ·exact hcc.elim
  rename_i x hx hs;obtain⟨KK,h1,hk⟩:=hcc;have hlx:ops.length=ps.length:=by
   obtain⟨_,_,c3⟩:=cV hx;have:=congrArg List.length c3
   rw[cz]at this;simpa using this
  have hA:=wU (g:=⟨fn.ntmps,w,ma w H (tot F s.toS.m),fun _=>0,fun _=>none,none,[]⟩) he hm rfl hc (K:=fun r=>∃y,KK y/\r=(bC rs y).toV) (fun r hr=>⟨r,hr,rfl⟩) (law x KK h1)
  refine calls_of_wp hf hb' (Code.wp_mono (fun ex a' w' hl=>?_) (hA _ w ⟨_,γ,F,UD hX hops hx (nt:=fn.ntmps) (by rw[hlx];exact ac5 hlen)⟩));obtain⟨s',hq,H',γ',F',hX'⟩:=hl;have fin:rA e.P s' fn.results.toList (fun r=>∃y,KK y/\r=(bC rs y).toV)->a'.defers=[]/\∃v,(results fn a'.tmps).run e.P w'=.ok v w'/\fQ g a pk k (.returned v) w':=by
   intro hq;obtain⟨z,v,s2,H2,F2,e1,e2,e3,e4,y,e5,e6⟩:=wK hX' rfl hq;refine⟨e2.df.1,z,e1,.inl ⟨z,s,bC rs y,_,γ,F,rfl,hk y e5,?_,Pp hX e2.fr e2.mem.agree⟩⟩;have:=dw bW e3
   rw[e6]at this;exact abB hs this
  cases ex with
  |normal=>exact fin hq
  |ret=>exact fin hq
  |_=>exact hq.elim
theorem O9{e:En}(he:e.ok)(hm:e.P.follows .mixedOrders=true){f:Nat}{fn:Func}(hf:e.P.funcs[f]? = some fn) (hname:(fn.name == "runtime.NumGoroutine")=false) (hb:fn.body.isSome=true) {an:An} {ps rs:List U} {pre:Fl ps->Prop} {Fn:Fl ps->Fl rs}
  (hlen:Nat.ble ps.length fn.ntmps=true) (hc:fi fn.ntmps (fn.body.getD .skip)=true) (law:∀x,pre x->∀KK:Fl rs->Prop,KK (Fn x)->ao e fn an ps rs x KK):Cont e.P f (IJ ps rs pre Fn):=by
 have h:=xh he hm hf hname hb (rs:=rs) (Φ:=fun x KK=>pre x/\KK=fun y=>y=Fn x) hlen hc (fun x KK⟨h1,h2⟩=>law x h1 KK (by rw[h2]))
 refine⟨h.run,fun pk s ops k k' hk hcc=>?_,fun g pk s a w H γ F ops k hX hops hcc=>h.call g pk s a w H γ F ops k hX hops ?_⟩
 ·unfold IJ at hcc⊢;split at hcc
  ·exact⟨hcc.1,hk _ _ (Ext.refl s) hcc.2⟩
  ·exact hcc.elim
 ·unfold IJ at hcc;unfold yT;split at hcc
  ·exact⟨_,⟨hcc.1,rfl⟩,fun y hy=>by rw[hy];exact hcc.2⟩
  ·exact hcc.elim
end
def lg(ps rs:List U)(pre:Fl ps->Prop)(post:Fl ps->Fl rs->Prop):CKt:=fun _ s ops k=>
 let s1:=bt s (ops.map (evA s))
 match bv ps (ops.map (evA s1))with
 |some x=>pre x/\∀y,post x y->k s1 (bC rs y)
 |none=>False
theorem Sq{e:En}(he:e.ok)(hm:e.P.follows .mixedOrders=true){f:Nat}{fn:Func}(hf:e.P.funcs[f]? = some fn) (hname:(fn.name == "runtime.NumGoroutine")=false) (hb:fn.body.isSome=true) {an:An} {ps rs:List U} {pre:Fl ps->Prop} {post:Fl ps->Fl rs->Prop}
  (hlen:Nat.ble ps.length fn.ntmps=true) (hc:fi fn.ntmps (fn.body.getD .skip)=true) (law:∀x,pre x->∀KK:Fl rs->Prop,(∀y,post x y->KK y)->ao e fn an ps rs x KK):Cont e.P f (lg ps rs pre post):=by
 have hb':fn.body=some (fn.body.getD .skip):=by cases h:fn.body with
  |none=>rw[h]at hb;cases hb
  |some c=>rfl
 have hcon:=xg hf hname hb' (fun avs K=>∃x:Fl ps,avs=dT ps x/\pre x/\∀y,post x y->K (bC rs y).toV) (fun avs K⟨x,hx,_,_⟩=>by rw[hx,cz];exact ac5 hlen) (fun g avs K hg⟨x,hx,hp,hk⟩=>by
  subst hx;have h:=law x hp (post x) (fun _ h=>h)
  have h1:=jD (e:=⟨e.P,e.E,e.cs,e.sh,fun _ _=>False⟩) he hm (g:=g) _ an (yz ps x) _ (by rw[hg];exact hc) h
  have e0:(yz ps x).toS=⟨aW 0 (dT ps x),[]⟩:=aY.S_ext (io 0 ps x) rfl
  rw[e0]at h1;refine lJ h1 (fun ex s' a w h' hR=>?_);cases ex with
  |normal=>
   obtain⟨t,rfl,ht⟩:=h';exact nr (fun r hr=>hk r hr) ht hR
  |ret=>
   obtain⟨t,rfl,ht⟩:=h';exact nr (fun r hr=>hk r hr) ht hR
  |exit i=>exact h'.elim (fun t ht=>ht.2.elim)
  |panic c=>obtain⟨_,_,_,_,hf⟩:=h';exact hf.elim
  |_=>exact h'.elim)
 refine⟨hcon.run,fun pk s ops k k' hk hcc=>?_,fun g pk s a w H γ F1 ops k hX hops hcc=>?_⟩
 ·unfold lg at hcc⊢;dsimp only at hcc⊢;split at hcc
  ·exact⟨hcc.1,fun y hy=>hk _ _ (bE _ _) (hcc.2 y hy)⟩
  ·exact hcc.elim
 ·unfold lg at hcc;dsimp only at hcc;obtain⟨H1,F2,h1⟩:=cj (ops.map (evA s)) s H F1 hX;generalize bt s (ops.map (evA s))=s1 at hcc h1;split at hcc
  ·rename_i x hx;obtain⟨c1,c2,c3⟩:=cV hx;refine Calls.mono (hcon.call g s1.toS a w H1 γ F2 ops (fun s' av=>∃t v',SEq s' t.toS/\av=v'.toV/\k t v') h1 hops ?_) ?_
   ·unfold oQ;dsimp only;rw[cO hops,dj c1];have e:(ops.map fun x=>(ev s1.toS x).map T.canon)=(ops.map (ev s1.toS)).map (AV.map T.canon):=by rw[adD];rfl
    rw[e,cO hops];refine⟨c2,?_⟩;rw[c3];exact⟨x,rfl,hcc.1,fun y hy=>⟨s1,_,⟨fun _=>rfl,rfl⟩,rfl,hcc.2 y hy⟩⟩
   ·rintro e w' ⟨r,s',av,H',γ',F',k1,⟨t,v',e1,rfl,k2⟩,k3,k4⟩
    refine .inl ⟨r,t,v',H',γ',F',k1,k2,?_,aV e1 k4⟩;rw[e1.2]at k3;exact k3
  ·exact hcc.elim
structure NmR (σ:Nm->Nm):Prop where
 inv:∀n,σ (σ n)=n
 tyd:∀n,(σ n).tyd=n.tyd
theorem NmR.inj{σ:Nm->Nm}(h:NmR σ){n n':Nm}(e:σ n=σ n'):n=n':=by rw[<- h.inv n,<- h.inv n',e]
def Pl.rn(σ:Nm->Nm)(p:Pl):Pl:=⟨σ p.root,p.off,p.path⟩
def T.rn(σ:Nm->Nm):T->T
 |.pl p=>.pl (p.rn σ)
 |.rf p=>.rf (p.rn σ)
 |t=>t
def AV1.rn(σ:Nm->Nm):AV1->AV1
 |.c t=>.c (t.rn σ)
 |.agg ts=>.agg (ts.map (T.rn σ))
def AV.rn(σ:Nm->Nm):AV->AV
 |.one x=>.one (x.rn σ)
 |.tup xs=>.tup (xs.map (AV1.rn σ))
 |.any=>.any
def Root.rn(σ:Nm->Nm)(r:Root):Root:=⟨r.blk,r.cells.map (T.rn σ)⟩
def rnM(σ:Nm->Nm)(m:Mm):Mm:=m.map fun x=>(σ x.1,x.2.rn σ)
def S.rn(σ:Nm->Nm)(s:S):S:=⟨s.t.map fun x=>(x.1,x.2.rn σ),rnM σ s.m⟩
def Tt.rn(σ:Nm->Nm):Tt->Tt
 |.pl p=>.pl (p.rn σ)
 |.rf p=>.rf (p.rn σ)
 |t=>t
def A1.rn(σ:Nm->Nm):A1->A1
 |.c t=>.c (t.rn σ)
 |.agg ts=>.agg (ts.map (Tt.rn σ))
def At.rn(σ:Nm->Nm):At->At
 |.one x=>.one (x.rn σ)
 |.tup xs=>.tup (xs.map (A1.rn σ))
 |.any=>.any
def Rt.rn(σ:Nm->Nm)(r:Rt):Rt:=⟨r.blk,r.cells.map (Tt.rn σ),r.hole⟩
def St.rn(σ:Nm->Nm)(s:St):St:=⟨s.nx,s.t.map fun x=>(x.1,x.2.1,x.2.2.rn σ),s.m.map fun x=>(σ x.1,x.2.1,x.2.2.rn σ)⟩
section
variable {σ:Nm->Nm}
theorem Tt.rn_toT:∀t:Tt,(t.rn σ).toT=t.toT.rn σ
 |.d _=>rfl
 |.nil=>rfl
 |.ow _ _ _=>rfl
 |.mp _ _ _=>rfl
 |.it _ _ _ _=>rfl
 |.mo _ _ _ _=>rfl
 |.el _ _=>rfl
 |.ga _ _ _=>rfl
 |.pl _=>rfl
 |.rf _=>rfl
 |.any=>rfl
theorem S3(ts:List Tt):(ts.map (Tt.rn σ)).map Tt.toT=(ts.map Tt.toT).map (T.rn σ):=by
 rw[adD,adD];exact adG fun t _=>Tt.rn_toT t
theorem A1.rn_toV:∀x:A1,(x.rn σ).toV=x.toV.rn σ
 |.c t=>congrArg AV1.c t.rn_toT
 |.agg ts=>congrArg AV1.agg (S3 ts)
theorem At.rn_toV:∀x:At,(x.rn σ).toV=x.toV.rn σ
 |.one x=>congrArg AV.one x.rn_toV
 |.tup xs=>congrArg AV.tup (by
  rw[adD,adD];exact adG fun t _=>A1.rn_toV t)
 |.any=>rfl
theorem Ug(ts:List T)(h:Option (Nat×Step×List Step)):holed (ts.map (T.rn σ)) h=(holed ts h).map (T.rn σ):=by
 cases h with
 |none=>rfl
 |some x=>
  obtain⟨off,st,q⟩:=x;simp only[holed,acZ];cases ts[off]? with
  |none=>rfl
  |some t=>
   cases t with
   |ow sub l=>simp only[Option.map_some,T.rn,ad0]
   |_=>rfl
theorem Rt.rn_toR(r:Rt):(r.rn σ).toR=r.toR.rn σ:=by
 unfold Rt.toR Rt.rn Root.rn;dsimp only;rw[S3,Ug]
theorem St.rn_toS(s:St):(s.rn σ).toS=s.toS.rn σ:=by
 unfold St.toS St.rn S.rn rnM;simp only[adD]
 congr 1
 ·exact adG fun x _=>by simp only[Function.comp,At.rn_toV]
 ·exact adG fun x _=>by simp only[Function.comp,Rt.rn_toR]
theorem W8(t:List (Nat×AV))(i:Nat):aH (t.map fun x=>(x.1,x.2.rn σ)) i=(aH t i).rn σ:=by
 induction t with
 |nil=>rfl
 |cons x r ih=>
  obtain⟨k,v⟩:=x;simp only[List.map_cons,aH];split
  ·rfl
  ·exact ih
theorem Dw{cells:List T}{o:Nat}{sub:List Sh}{l:List (List D)}:(cells.map (T.rn σ))[o]? = some (.ow sub l) ↔ cells[o]? = some (.ow sub l):=by
 rw[acZ];cases cells[o]? with
 |none=>simp
 |some t=>cases t<;>simp[T.rn]
variable (hσ:NmR σ)
include hσ
theorem Oz(m:Mm)(n:Nm):aa (rnM σ m) (σ n)=(aa m n).map (Root.rn σ):=by
 induction m with
 |nil=>rfl
 |cons x r ih=>
  obtain⟨k,v⟩:=x;simp only[rnM,List.map_cons,aa];by_cases hk:k=n
  ·subst hk;rw[if_pos rfl,if_pos rfl];rfl
  ·rw[if_neg hk,if_neg (fun e=>hk (hσ.inj e))];exact ih
theorem Xz{m:Mm}{p:Pl}(h:bz m p):bz (rnM σ m) (p.rn σ):=by
 unfold bz at h⊢;simp only[Pl.rn,Oz hσ];cases hr:aa m p.root with
 |none=>simp[hr]at h
 |some r=>
  simp only[hr,Option.map_some]at h⊢;split
  ·rename_i hp;simp only[hp]at h;simpa[Root.rn]using h
  ·rename_i st q hp;simp only[hp]at h;split at h
   ·rename_i sub l hc;rw[show(Root.rn σ r).cells[p.off]? = some (.ow sub l)from Dw.2 hc];exact h
   ·exact h.elim
theorem XA{m:Mm}{p:Pl}(h:fI m p):fI (rnM σ m) (p.rn σ):=by
 unfold fI at h⊢;simp only[Pl.rn,Oz hσ];cases hr:aa m p.root with
 |none=>simp[hr]at h
 |some r=>
  simp only[hr,Option.map_some]at h⊢;split at h
  ·rename_i sub l hc hp;rw[show(Root.rn σ r).cells[p.off]? = some (.ow sub l)from Dw.2 hc,hp];trivial
  ·rename_i l hc hp;rw[show(Root.rn σ r).cells[p.off]? = some (.mp l)from by show(r.cells.map (T.rn σ))[p.off]? = _;rw[acZ,hc];rfl,hp];trivial
  ·rename_i cur l hc hp;rw[show(Root.rn σ r).cells[p.off]? = some (.it cur l)from by show(r.cells.map (T.rn σ))[p.off]? = _;rw[acZ,hc];rfl,hp];trivial
  ·rename_i sub l st q hc hp;rw[show(Root.rn σ r).cells[p.off]? = some (.ow sub l)from Dw.2 hc];simpa[hp]using h
  ·exact h.elim
variable {w:World} {H:FH} {γ:Gam} {m:Mm} {F:Nm->Fp}
abbrev rnG(σ:Nm->Nm)(γ:Gam):Gam:=fun n=>γ (σ n)
theorem ZO(p:Pl):plA w (rnG σ γ) (p.rn σ)=plA w γ p:=by
 unfold plA;simp only[Pl.rn,rnG,hσ.inv]
theorem ZP(p:Pl):plV w (rnG σ γ) (p.rn σ)=plV w γ p:=by
 unfold plV;simp only[Pl.rn,rnG,hσ.inv]
theorem S2{t:T}{f:Fp}{y:Value}(h:TR w H γ m t f y):TR w H (rnG σ γ) (rnM σ m) (t.rn σ) f y:=by
 cases t with
 |pl p=>
  obtain⟨h1,h2,a,h3,h4⟩:=h;exact⟨h1,Xz hσ h2,a,(ZO hσ p).trans h3,h4⟩
 |rf p=>
  obtain⟨h1,h2,h3⟩:=h;exact⟨h1,XA hσ h2,(ZP hσ p).trans h3⟩
 |_=>exact h
theorem Yu{ts:List T}{f:Fp}{vs:List Value}(h:Ts (TR w H γ m) ts f vs):Ts (TR w H (rnG σ γ) (rnM σ m)) (ts.map (T.rn σ)) f vs:=by
 unfold Ts at h⊢;rw[acY];have key:∀(ss:List Unit)(xs:List T)(f:Fp)(vs:List Value),Cs (fun _ t=>TR w H γ m t) ss xs f vs->Cs (fun _ t=>TR w H (rnG σ γ) (rnM σ m) t) ss (xs.map (T.rn σ)) f vs:=by
  intro ss xs;induction xs generalizing ss with
  |nil=>intro f vs h;cases ss<;>exact h
  |cons x xs ih=>
   intro f vs h;cases ss with
   |nil=>exact h.elim
   |cons u ss=>
    obtain⟨v,r,f1,f2,hv,hf,k1,k2⟩:=h;exact⟨v,r,f1,f2,hv,hf,S2 hσ k1,ih ss f2 r k2⟩
 exact key _ _ _ _ h
theorem SZ{n:Nm}{r:Root}{f:Fp}(h:ba w H γ m n r f):ba w H (rnG σ γ) (rnM σ m) (σ n) (r.rn σ) f:=by
 unfold ba at h⊢;by_cases hb:r.blk=true
 ·rw[if_pos hb]at h;rw[if_pos (show(r.rn σ).blk=true from hb)];obtain⟨b,cs,ty,fz,g,h1,h2,h3,h4,h5,h6⟩:=h;exact⟨b,cs,ty,fz,g,by rw[rnG,hσ.inv];exact h1,h2,⟨h3.1,fun t ht=>h3.2 t (by rw[<- hσ.tyd n];exact ht)⟩,by simpa[Root.rn]using h4,Yu hσ h5,h6⟩
 ·rw[if_neg hb]at h;rw[if_neg (show ¬ (r.rn σ).blk=true from hb)];obtain⟨v,t,h1,h2,h3⟩:=h;exact⟨v,t.rn σ,by rw[rnG,hσ.inv];exact h1,by simp[Root.rn,h2],S2 hσ h3⟩
theorem EH(m:Mm):tot (fun n=>F (σ n)) (rnM σ m)=tot F m:=by
 funext b
 induction m with
 |nil=>rfl
 |cons x r ih=>
  simp only[rnM,List.map_cons,tot,hσ.inv]at ih⊢;rw[ih]
theorem YW(h:Mem w H γ m F):Mem w H (rnG σ γ) (rnM σ m) (fun n=>F (σ n)):=by
 refine⟨h.agree,fun x hx=>?_,?_,fun b=>by rw[EH hσ];exact h.le1 b,fun b hb=>h.lt b (by rwa [EH hσ]at hb),fun b hb=>h.nofz b (by rwa [EH hσ]at hb)⟩
 ·simp only[rnM,adR]at hx;obtain⟨y,hy,rfl⟩:=hx;dsimp only;rw[hσ.inv];exact SZ hσ (h.roots y hy)
 ·have:(rnM σ m).map (·.1)=(m.map (·.1)).map σ:=by simp only[rnM,adD];rfl
  rw[this,List.nodup_iff_pairwise_ne,List.pairwise_map];exact(List.nodup_iff_pairwise_ne.1 h.keys).imp (fun hne e=>hne (hσ.inj e))
theorem RS{x:AV1}{y:Value}(h:AR1 w H γ m x y):AR1 w H (rnG σ γ) (rnM σ m) (x.rn σ) y:=by
 cases x with
 |c t=>exact S2 hσ h
 |agg ts=>
  obtain⟨cs,h1,h2,h3⟩:=h;exact⟨cs,h1,by simpa using h2,Yu hσ h3⟩
theorem RY:∀{xs:List AV1}{ys:List Value},ARs w H γ m xs ys->ARs w H (rnG σ γ) (rnM σ m) (xs.map (AV1.rn σ)) ys
 |[],[],_=>trivial
 |_::_,_::_,h=>⟨RS hσ h.1,RY h.2⟩
 |[],_::_,h=>h.elim
 |_::_,[],h=>h.elim
theorem Yj{x:AV}{y:Value}(h:AR w H γ m x y):AR w H (rnG σ γ) (rnM σ m) (x.rn σ) y:=by
 cases x with
 |one x=>exact RS hσ h
 |tup xs=>obtain⟨l,h1,h2⟩:=h;exact⟨l,h1,RY hσ h2⟩
 |any=>trivial
theorem NU{g:G}{s:St}{a a':Act}{ds:List Deferred}{out:Nat->Option Nat}(h:RX g s.toS a w H γ F)(h1:a'.tmps=a.tmps)(h2:a'.defers=ds)(ho:∀j b,out j=some b->γ (σ (.out j))=.blk b) :
  RX ⟨g.nt,g.w0,g.H0,g.own0,out,g.ex,ds⟩ (s.rn σ).toS a' w H (rnG σ γ) (fun n=>F (σ n)):=by
 rw[St.rn_toS];refine⟨YW hσ h.mem,?_,by rw[h1];exact h.nt,⟨h2,fun j b hb=>ho j b hb,h.df.2.2⟩,fun i=>?_⟩
 ·show Fr g.w0 g.H0 g.own0 w H (tot (fun n=>F (σ n)) (rnM σ s.toS.m))
  rw[EH hσ];exact h.fr
 ·show AR w H (rnG σ γ) (rnM σ s.toS.m) (aH (s.toS.t.map fun x=>(x.1,x.2.rn σ)) i) _
  rw[W8];have e:G.tv ⟨g.nt,g.w0,g.H0,g.own0,out,g.ex,ds⟩ a' i=g.tv a i:=by
   unfold G.tv;rw[h1]
  rw[e];exact Yj hσ (h.t i)
end
def wi(i:Nat):Nat:=i % 1000000 / 1000
def EE(k i:Nat):Nat:=match Nat.beq (wi i) 0 with
 |true=>i+k*1000
 |false=>match Nat.beq (wi i) k with
  |true=>i-k*1000
  |false=>i
def EF(k:Nat):Nm->Nm
 |.loc i=>.loc (EE k i)
 |.gh i=>.gh (EE k i)
 |.out i=>.out i
theorem tu{k:Nat}(hk:1<=k/\k < 1000)(i:Nat):EE k (EE k i)=i/\EE k i / 1000000=i / 1000000:=by
 unfold EE;cases h0:Nat.beq (wi i) 0 with
 |true=>
  have h:=ac7 h0
  unfold wi at h;dsimp only;have h1:wi (i+k*1000)=k:=by unfold wi;omega
  rw[h1];have h2:Nat.beq k 0=false:=by
   cases hb:Nat.beq k 0 with
   |false=>rfl
   |true=>have:=ac7 hb;omega
  rw[h2,afT];dsimp only;omega
 |false=>
  dsimp only;cases hk2:Nat.beq (wi i) k with
  |true=>
   have h:=ac7 hk2
   unfold wi at h;dsimp only;have h1:wi (i-k*1000)=0:=by unfold wi;omega
   rw[h1,afT];dsimp only;omega
  |false=>
   dsimp only;rw[h0,hk2];exact⟨rfl,rfl⟩
theorem X5{k:Nat}(hk:1<=k/\k < 1000)(i:Nat):EE k i < 1000000 ↔ i < 1000000:=by
 have:=(tu hk i).2
 omega
theorem O0{k:Nat}(hk:1<=k/\k < 1000):NmR (EF k):=by
 refine⟨fun n=>?_,fun n=>?_⟩
 ·cases n with
  |loc i=>exact congrArg Nm.loc (tu hk i).1
  |gh i=>exact congrArg Nm.gh (tu hk i).1
  |out i=>rfl
 ·cases n with
  |loc i=>
   show(if EE k i < 1000000 then none else some (EE k i / 1000000))=(if i < 1000000 then none else some (i / 1000000))
   have h1:=X5 hk i
   rw[(tu hk i).2];by_cases h:i < 1000000
   ·rw[if_pos (h1.2 h),if_pos h]
   ·rw[if_neg (fun e=>h (h1.1 e)),if_neg h]
  |gh i=>rfl
  |out i=>rfl
def aa6(k:Nat)(n:Nm):Bool:=match n with
 |.loc i=>Nat.beq (wi i) k
 |.gh i=>Nat.beq (wi i) k
 |.out _=>false
def YC:Nat->Nat->List (Nm×Nat×Rt)->Nat
 |0,k,_=>k
 |n+1,k,m=>match m.any (fun x=>aa6 k x.1)with
  |true=>YC n (k+1) m
  |false=>k
def apK(s:St):Option Nat:=match YC 900 1 s.m with
 |k=>match Nat.ble 1 k&&Nat.blt k 1000 with
  |true=>some k
  |false=>none
def apT(C:CKt):CKt:=fun pk s ops k=>match apK s with
 |some j=>C (fun v s'=>pk v (s'.rn (EF j))) (s.rn (EF j)) ops (fun s' v=>k (s'.rn (EF j)) (v.rn (EF j)))
 |none=>False
def apB(C:CKb):CKb:=fun s ops k=>match apK s with
 |some j=>C (s.rn (EF j)) ops (fun s' v=>k (s'.rn (EF j)) (v.rn (EF j)))
 |none=>false
theorem Pl.rn_rn{σ:Nm->Nm}(hσ:NmR σ)(p:Pl):(p.rn σ).rn σ=p:=by simp[Pl.rn,hσ.inv]
theorem Tt.rn_rn{σ:Nm->Nm}(hσ:NmR σ)(t:Tt):(t.rn σ).rn σ=t:=by cases t<;>simp[Tt.rn,Pl.rn_rn hσ]
theorem A1.rn_rn{σ:Nm->Nm}(hσ:NmR σ)(x:A1):(x.rn σ).rn σ=x:=by
 cases x with
 |c t=>simp[A1.rn,Tt.rn_rn hσ]
 |agg ts=>simp[A1.rn,Function.comp_def,Tt.rn_rn hσ]
theorem At.rn_rn{σ:Nm->Nm}(hσ:NmR σ)(x:At):(x.rn σ).rn σ=x:=by
 cases x with
 |one t=>simp[At.rn,A1.rn_rn hσ]
 |tup ts=>simp[At.rn,Function.comp_def,A1.rn_rn hσ]
 |any=>rfl
theorem Rt.rn_rn{σ:Nm->Nm}(hσ:NmR σ)(r:Rt):(r.rn σ).rn σ=r:=by
 cases r;simp[Rt.rn,Function.comp_def,Tt.rn_rn hσ]
theorem IN{σ:Nm->Nm}(t:List (Nat×Nat×At))(k:Nat):bI (t.map fun x=>(x.1,x.2.1,x.2.2.rn σ)) k=(bI t k).map fun x=>(x.1,x.2.rn σ):=by
 induction t with
 |nil=>rfl
 |cons x r ih=>
  obtain⟨i,j,v⟩:=x;simp only[List.map_cons,bI];split
  ·rfl
  ·exact ih
theorem IL{σ:Nm->Nm}(hσ:NmR σ)(m:List (Nm×Nat×Rt))(n:Nm):bY (m.map fun x=>(σ x.1,x.2.1,x.2.2.rn σ)) (σ n)=(bY m n).map fun x=>(x.1,x.2.rn σ):=by
 induction m with
 |nil=>rfl
 |cons x r ih=>
  obtain⟨i,j,v⟩:=x;simp only[List.map_cons,bY];by_cases h:i=n
  ·subst h;simp
  ·rw[if_neg (fun e=>h (hσ.inj e)),if_neg h];exact ih
theorem Ext.rn{σ:Nm->Nm}(hσ:NmR σ){s s':St}(h:Ext (s.rn σ) s'):Ext s (s'.rn σ):=by
 refine⟨h.nx,fun k j v hk hj=>?_,fun n j r hn hj=>?_⟩
 ·rw[show(s'.rn σ).t=s'.t.map fun x=>(x.1,x.2.1,x.2.2.rn σ)from rfl,IN]at hk;cases h1:bI s'.t k with
  |none=>rw[h1]at hk;cases hk
  |some x=>
   rw[h1]at hk;obtain⟨j',v'⟩:=x;simp only[Option.map_some,acV,Prod.mk.injEq]at hk;obtain⟨rfl,rfl⟩:=hk;have h2:=h.t k j' v' h1 hj
   rw[show(s.rn σ).t=s.t.map fun x=>(x.1,x.2.1,x.2.2.rn σ)from rfl,IN]at h2;cases h3:bI s.t k with
   |none=>rw[h3]at h2;cases h2
   |some y=>
    rw[h3]at h2;obtain⟨j2,v2⟩:=y;simp only[Option.map_some,acV,Prod.mk.injEq]at h2;rw[<- h2.1,<- h2.2,At.rn_rn hσ]
 ·rw[<- hσ.inv n,show(s'.rn σ).m=s'.m.map fun x=>(σ x.1,x.2.1,x.2.2.rn σ)from rfl,IL hσ]at hn;cases h1:bY s'.m (σ n)with
  |none=>rw[h1]at hn;cases hn
  |some x=>
   rw[h1]at hn;obtain⟨j',v'⟩:=x;simp only[Option.map_some,acV,Prod.mk.injEq]at hn;obtain⟨rfl,rfl⟩:=hn;have h2:=h.m (σ n) j' v' h1 hj
   rw[show(s.rn σ).m=s.m.map fun x=>(σ x.1,x.2.1,x.2.2.rn σ)from rfl,IL hσ]at h2;cases h3:bY s.m n with
   |none=>rw[h3]at h2;cases h2
   |some y=>
    rw[h3]at h2;obtain⟨j2,v2⟩:=y;simp only[Option.map_some,acV,Prod.mk.injEq]at h2;rw[<- h2.1,<- h2.2,Rt.rn_rn hσ]
theorem Tf{s:St}{j:Nat}(h:apK s=some j):1<=j/\j < 1000:=by
 unfold apK at h;dsimp only at h;split at h
 ·rename_i hb;obtain rfl:=Option.some.inj h;simp only[acX]at hb;exact⟨ac5 hb.1,by simpa using hb.2⟩
 ·cases h
theorem aC{P:Program}{f:Nat}{C:CKt}(h:Cont P f C):Cont P f (apT C):=by
 refine⟨h.run,fun pk s ops k k' hk hc=>?_,fun g pk s a w H γ F ops k hX hops hc=>?_⟩
 ·unfold apT at hc⊢;split at hc
  ·rename_i j hj;have hσ:=O0 (Tf hj)
   exact h.ext _ _ _ _ _ (fun s' v he=>hk _ _ (he.rn hσ)) hc
  ·exact hc.elim
 ·unfold apT at hc;split at hc
  ·rename_i j hj;have hσ:=O0 (Tf hj)
   have hX2:=NU hσ (out:=g.out) (ds:=g.dfs) hX rfl hX.df.1 (fun i b hb=>hX.df.2.1 i b hb)
   refine(h.call _ _ _ a w H _ _ ops _ hX2 hops hc).mono ?_;rintro e w' (⟨r,s',av,H',γ',F',rfl,k1,k2,k3⟩|⟨v,s',rfl,k1,H',γ',F',k2⟩)
   ·refine .inl ⟨r,_,_,H',_,_,rfl,k1,?_,NU hσ (out:=g.out) (ds:=g.dfs) k3 rfl k3.df.1 (fun i b hb=>k3.df.2.1 i b hb)⟩;rw[At.rn_toV];show AR w' H' _ (s'.rn (EF j)).toS.m _ _
    rw[St.rn_toS];exact Yj hσ k2
   ·exact .inr ⟨v,_,rfl,k1,H',_,_,NU hσ (out:=g.out) (ds:=g.dfs) k2 rfl k2.df.1 (fun i b hb=>k2.df.2.1 i b hb)⟩
  ·exact hc.elim
end Go.Am
end

section
namespace Go.Am
open Go Go.Proofs
def lky:U->Bool
 |.i _=>true
 |.bo=>true
 |.s=>true
 |_=>false
theorem UE{u:U}(h:lky u=true):leaf u=true:=by cases u<;>first|rfl|cases h
theorem Xs{u:U}(h:lky u=true)(x:El u):(aj u x).toD.isKey=true:=by cases u<;>first|rfl|cases h
def UJ(n:Nm):CKt:=fun _ s ops k=>match ops with
 |[x]=>
  let s0:=ef s (evA s x)
  let s1:=s0.fresh n
  match evA s1 x with
  |.one (.c (.d (.mp ku vu z)))=>match lky ku&&leaf vu with
   |true=>z.isSome=true/\k (s1.root n ⟨false,[.mp ku vu (z.getD [])],none⟩) (.one (.c (.rf ⟨n,0,[]⟩)))
   |false=>False
  |_=>False
 |_=>False
section
variable {P:Program}
theorem Sl{f:Nat}{fn:Func}{n:Nm}(hno:n.isOut=false)(hf:P.funcs[f]? = some fn) (hname:(fn.name == "runtime.NumGoroutine")=false) (hb:fn.body.isSome=true)
  (hbody:∀(b:Nat)(es:Array MapEntry)(ck:Nat)(w:World),w.heap[b]? = some (.map es ck)->Calls P f #[.map (some b)] w fun e w'=>e=.returned (.map (some w.heap.size))/\w'=w.alloc (.map es ck)):Cont P f (UJ n):=by
 refine⟨fun args w=>gV hf hname hb args w,fun pk s ops k k' hk hc=>?_,fun g pk s a w H γ F1 ops k hX hops hc=>?_⟩
 ·unfold UJ at hc⊢;split at hc
  ·dsimp only at hc⊢;split at hc
   ·split at hc
    ·exact⟨hc.1,hk _ _ ((fu _ _).trans ((bx _ _).trans (cf _ _ _))) hc.2⟩
    ·exact hc.elim
   ·exact hc.elim
  ·exact hc.elim
 ·unfold UJ at hc;split at hc
  ·rename_i o;dsimp only at hc;have ho:aw o=true:=by simpa using hops
   obtain⟨H1,F2,h1⟩:=fw hX (evA s o);generalize ef s (evA s o)=s0 at hc h1;have h2:=bV h1 n
   have hn:=bG h1 n
   have e1:(s0.fresh n).toS=s0.toS.fresh n:=br (d9 h1)
   rw[<- e1]at h2 hn;generalize s0.fresh n=s1 at hc h2 hn;have hv:=aA h2 ho
   rw[ae ho]at hv;split at hc
   ·rename_i ku vu z he;rw[he]at hv;split at hc
    ·rename_i hlf;rw[acX]at hlf;obtain⟨hz,hc⟩:=hc;obtain⟨l,rfl⟩:∃l,z=some l:=by cases z with|none=>cases hz|some l=>exact⟨l,rfl⟩
     have hd:FDx H1 (.mp (some (l.map fun x=>((al ku x.1).headD .any,(al vu x.2).headD .any)))) (a.eval o):=hv.2
     have el:(l.map fun x=>((al ku x.1).headD .any,(al vu x.2).headD .any))=l.map fun x=>((aj ku x.1).toD,(aj vu x.2).toD):=adG fun x _=>by rw[im (UE hlf.1),im hlf.2]
     rw[el]at hd;obtain⟨b,es,ck,c1,c2,c3,c4⟩:=Sw h2.mem.agree (fun e he=>by
      obtain⟨x,_,rfl⟩:=adR.1 he;exact Xs hlf.1 x.1) hd
     rw[adD]at c4;have c4:MpO w H1 (l.map (uE ku vu)) es.toList (fun _=>0):=c4
     rw[show(([o].map a.eval).toArray:Array Value)=#[.map (some b)]by rw[List.map_cons,List.map_nil,c1]];refine Calls.mono (hbody b es ck w c2) ?_;rintro e w' ⟨rfl,rfl⟩
     have hold:∀k,k<w.heap.size->(w.alloc (.map es ck)).heap[k]? = w.heap[k]? := fun k hk=>bR hk
     have h3:=n9 h2 (w':=w.alloc (.map es ck)) (by simp) rfl rfl rfl (fun b hb=>.inl (hold b hb))
     have htz:tot F2 s1.toS.m w.heap.size=0:=by
      rcases adM (tot F2 s1.toS.m w.heap.size)with h'|h'
      ·exact h'
      ·have:=h2.mem.lt w.heap.size kQ1;omega
     obtain⟨γ',F',h4,hγ⟩:=cR h3 hno hn (v:=.map (some w.heap.size)) (t:=.mp (l.map (uE ku vu))) (f:=fun b=>if b=w.heap.size then 1 else 0) ⟨w.heap.size,es,ck,fun _=>0,rfl,bq,c3,js (fun _ _ _ h=>h) (fun b hb=>absurd rfl hb) c4,fun _=>(aeA _).symm⟩ (fun b=>by
       by_cases e:b=w.heap.size
       ·subst e;rw[htz];simp
       ·rw[if_neg e];have:=h2.mem.le1 b;omega) (fun b hb=>by
       have e:b=w.heap.size:=by
        by_cases e:b=w.heap.size
        ·exact e
        ·rw[if_neg e]at hb;exact absurd rfl hb
       subst e;refine⟨by simp,fun o=>?_⟩;cases hc:H1 w.heap.size o with
       |none=>rfl
       |some y=>have:=(h2.mem.agree _ _ _ hc).lt;simp at this) (fun b hb=>by
       right
       have e:b=w.heap.size:=by
        by_cases e:b=w.heap.size
        ·exact e
        ·rw[if_neg e]at hb;exact absurd rfl hb
       have:=h2.fr.size
       omega)
     have e2:(s1.root n ⟨false,[.mp ku vu l],none⟩).toS=⟨s1.toS.t,(n,⟨false,[.mp (l.map (uE ku vu))]⟩)::s1.toS.m⟩:=rfl
     rw[<- e2]at h4;refine .inl ⟨_,_,_,H1,γ',F',rfl,hc,?_,h4⟩;exact tG (l:=l.map (uE ku vu)) (by show aa ((n,(⟨false,[.mp (l.map (uE ku vu))]⟩:Root))::s1.toS.m) n=_;simp[aa]) hγ
    ·exact hc.elim
   ·exact hc.elim
  ·exact hc.elim
end
end Go.Am
end

section
namespace Go.Am
open Go Go.RowKit Go.Maps Go.Sort Go.Shelf Go.Proofs
section
variable {P:Program}
theorem CM{f:Nat}{φ:List AV->(AV->Prop)->Prop}{ps rs:List U}{pre:Fl ps->Prop}{post:Fl ps->Fl rs->Prop}(hφ:∀x K,pre x->(∀y,post x y->K (bC rs y).toV)->φ (dT ps x) K)(h:Con P f (oQ φ)):Cont P f (lg ps rs pre post):=by
 refine⟨h.run,fun pk s ops k k' hk hcc=>?_,fun g pk s a w H γ F1 ops k hX hops hcc=>?_⟩
 ·unfold lg at hcc⊢;dsimp only at hcc⊢;split at hcc
  ·exact⟨hcc.1,fun y hy=>hk _ _ (bE _ _) (hcc.2 y hy)⟩
  ·exact hcc.elim
 ·unfold lg at hcc;dsimp only at hcc;obtain⟨H1,F2,h1⟩:=cj (ops.map (evA s)) s H F1 hX;generalize bt s (ops.map (evA s))=s1 at hcc h1;split at hcc
  ·rename_i x hx;obtain⟨c1,c2,c3⟩:=cV hx;refine Calls.mono (h.call g s1.toS a w H1 γ F2 ops (fun s' av=>∃t v',SEq s' t.toS/\av=v'.toV/\k t v') h1 hops ?_) ?_
   ·unfold oQ;dsimp only;rw[cO hops,dj c1];have e:(ops.map fun x=>(ev s1.toS x).map T.canon)=(ops.map (ev s1.toS)).map (AV.map T.canon):=by rw[adD];rfl
    rw[e,cO hops];refine⟨c2,?_⟩;rw[c3];exact hφ x _ hcc.1 fun y hy=>⟨s1,_,⟨fun _=>rfl,rfl⟩,rfl,hcc.2 y hy⟩
   ·rintro e w' ⟨r,s',av,H',γ',F',k1,⟨t,v',e1,rfl,k2⟩,k3,k4⟩
    refine .inl ⟨r,t,v',H',γ',F',k1,k2,?_,aV e1 k4⟩;rw[e1.2]at k3;exact k3
  ·exact hcc.elim
end
theorem yn:Cont prog 106 (UJ (.gh 800000)):=Sl rfl func106 kQ0 kQ0 (fun b es ck w hb=>AnyW.maps_Clone Tryz.clone106 b es ck w hb)
set_option maxHeartbeats 1000000 in
theorem Mb{H:Type}(b nn:Nat)(D0:DataW H)(R:Value->Option (DataW H×List MemPlace))(w:World)(hown:w.ownsMap prog 9 R b nn D0)(hmax:Maps.size D0<=maxLen)(hbytes:Maps.size D0*16<=140737488355328) :
  Calls prog 175 #[.map (some b)] w fun e w'=>∃(v:Value)(ss:List (List UInt8)),e=.returned v/\ss.Perm (strKeys D0) /\
   w'.ownsRow w.heap.size 9 1 v ss.length ((ss.mergeSort (fun x y=>decide (x<=y))).map encStr)/\(v=.slice none 0 0 ↔ ss=[])/\Below w.heap.size w w':=by
 refine(callsIn_wide (n:=6)).1 ?_;have hfK:Fence.wide.fn 210:=trivial
 have hfS:Fence.wide.fn 209:=trivial
 refine callsIn_of_wp func175 rfl trivial ?_ rfl;simp only[Tryz.ntmps175,List.size_toArray,ac0,ac6,Nat.reduceAdd,Nat.reduceSub,Array.replicate_succ,Array.replicate_zero,List.push_toArray,List.append_toArray,ae7,ad5]
 gi_wp2_with (first
  |(gi_at_call 210;refine(Tryz.maps_Keys_210 _ _).mono ?_;rintro e w' ⟨rfl,rfl⟩)
  |(gi_at_call 209;refine(Tryz.slices_Sorted_keys_209_210 b nn D0 R w hown hmax hbytes).mono ?_;rintro e w' ⟨v,ss,rfl,hS,hrow,hnil,hb⟩))
 go_ret
 exact⟨v,ss,rfl,hS,ownsRow_base_a hrow (by simp),hnil,((Below.refl _ w).alloc (ac1 _) _).trans (hb.mono (by simp))⟩
section
variable {P:Program}
theorem Fq{f:Nat}{ps rs:List U}{pre:Fl ps->Prop}{post:Fl ps->Fl rs->Prop}(hrun:∀args w,(callFunc f args).run P w=.ok (.enter f args) w)
  (hbody:∀(x:Fl ps)(args:List Value)(w:World)(H:FH)(γ:Gam),pre x->args.length=(dT ps x).length->(∀(i:Nat)v,(dT ps x)[i]? = some v->∃y,args[i]? = some y/\AR w H γ [] v y)->Globs H ->
   (∀b o y,H b o=some y->RdV w b o y) ->
   Calls P f args.toArray w (fun e w'=>∃r H2 y,e=.returned r/\post x y/\Below w.heap.size w w'/\(∀b o y,H b o=some y->H2 b o=some y)/\(∀b o,H2 b o≠none->H b o=none->w.heap.size<=b)/\(∀b o x l c,H2 b o=some (.c (.slice x l c))->H b o=none->Thawed w' b) /\
    (∀b o y,H2 b o=some y->RdV w' b o y)/\AR w' H2 γ [] (bC rs y).toV r)):Cont P f (lg ps rs pre post):=
 CM (φ:=fun avs K=>∃x:Fl ps,avs=dT ps x/\pre x/\∀y,post x y->K (bC rs y).toV) (fun x K hp hk=>⟨x,rfl,hp,hk⟩)
  (Bn hrun (fun avs K args w H γ⟨x,hx,hp,hk⟩hl ha hg hag=>by
   subst hx;refine(hbody x args w H γ hp hl ha hg hag).mono ?_;rintro e w' ⟨r,H2,y,h1,hy,h2,h3,h4,hz,h5,h6⟩
   exact⟨r,_,H2,h1,hk y hy,h2,h3,h4,hz,h5,Ev rs y,h6⟩))
end
def Te:Value->Option (DataW Unit×List MemPlace):=fun _=>some (.lit (.bool true),[])
theorem XF{b ck:Nat}{es:Array MapEntry}{w:World}(hb:w.heap[b]? = some (.map es ck))(hst:MapKept.Stamped es ck)(hsz:es.size<=1000000)(hk:∀e∈es.toList,∃l:List UInt8,e.key=.string ⟨l.toArray⟩/\l.length<=BIG) :
  ∃D0:DataW Unit,w.ownsMap prog 9 Te b es.size D0/\(∀v,v∈strKeys D0 ↔ ∃e∈es.toList,e.key=.string ⟨v.toArray⟩)/\Maps.size D0=es.size:=by
 have rdk:∀e∈es.toList,∀l:List UInt8,e.key=.string ⟨l.toArray⟩->l.length<=BIG->WideElems.rd prog 9 Te e=some (.string l,.lit (.bool true)):=fun e he l h1 h2=>by
  unfold WideElems.rd;rw[h1,WideMaps.keyOf_string_mk underlying9 (by show l.toArray.size<=_;unfold BIG at h2;unfold maxLen;simp;omega)];simp[Te]
 have hp:=WideShapes.sorted_perm (es.toList.map (WideElems.rg prog 9 Te))
 refine⟨_,⟨es,ck,hb,⟨by unfold maxLen;omega,hst,fun e he=>?_⟩,ac1 _,rfl⟩,fun v=>?_,?_⟩
 ·obtain⟨l,h1,h2⟩:=hk e he;exact⟨_,rdk e he l h1 h2⟩
 ·show v∈List.map _ _ ↔ _
  rw[(hp.map _).mem_iff];simp only[adR];constructor
  ·rintro⟨_,⟨e,he,rfl⟩,rfl⟩
   obtain⟨l,h1,h2⟩:=hk e he;refine⟨e,he,?_⟩;unfold WideElems.rg;rw[rdk e he l h1 h2,h1];rfl
  ·rintro⟨e,he,h1⟩
   obtain⟨l,h3,h2⟩:=hk e he;refine⟨_,⟨e,he,rfl⟩,?_⟩;unfold WideElems.rg;rw[rdk e he l h3 h2];rw[h3]at h1;have:l=v:=by simpa using h1
   rw[<- this];rfl
 ·have e:∀l:List (Lit×DataW Unit),Maps.size (DataW.map l)=l.length:=fun _=>rfl
  rw[e,hp.length_eq,acY,Array.length_toList]
def Ki:CKt:=lg [.mp .s .bo] [.sl .s] (fun x=>iz x) (fun x y=>fE x y)
theorem Li:Cont prog 175 Ki:=Fq (gV (fn:=f175) kQ0 kQ0 kQ0) (fun x args w H γ hpre hl ha hg hag=>by
 obtain⟨hs,hn⟩:=hpre;obtain⟨L,rfl⟩:∃L:List (List UInt8×Bool),x=some L:=by cases x with|none=>cases hs|some L=>exact⟨L,rfl⟩
 have hn:L.length<=1000000:=hn
 obtain⟨u,rfl⟩:∃u,args=[u]:=List.length_eq_one_iff.1 hl
 obtain⟨u',h0,h1⟩:=ha 0 _ rfl;obtain rfl:u=u':=by simpa using h0
 have hfd:FDx H (.mp (some (L.map fun x=>(.str x.1,.bool x.2)))) u:=h1.2
 obtain⟨m,hfd⟩:=hfd;cases m with
 |zero=>exact hfd.elim
 |succ m=>
  obtain⟨b,es,ck,rfl,k1,k2,k3⟩:=hfd;obtain⟨k4,k5⟩:=hag b 0 _ k1;rw[acY]at k2;have hkey:∀(i:Nat)(e:MapEntry),es.toList[i]? = some e->∃z,L[i]? = some z/\e.key=.string ⟨z.1.toArray⟩/\z.1.length<=BIG:=fun i e he=>by
   have hi:i<L.length:=by rw[<- k2];exact(adV.1 he).1
   have hz:=acW hi
   have:=(k3 i (.str L[i].1,.bool L[i].2) e (by rw[acZ,hz];rfl) he).1
   have this:e.key=.string ⟨L[i].1.toArray⟩/\L[i].1.length<=BIG:=by cases m<;>exact this
   exact⟨_,hz,this⟩
  obtain⟨D0,hown,hmem,hsize⟩:=XF k4 k5 (by rw[<- Array.length_toList,k2];exact hn) (fun e he=>by
   obtain⟨i,hi⟩:=afC.1 he;obtain⟨z,_,h⟩:=hkey i e hi;exact⟨z.1,h⟩)
  have hsz:es.size<=1000000:=by rw[<- Array.length_toList,k2];exact hn
  have hkeys:∀v,v∈strKeys D0 ↔ v∈L.map (·.1):=fun v=>by
   rw[hmem];constructor
   ·rintro⟨e,he,h⟩
    obtain⟨i,hi⟩:=afC.1 he;obtain⟨z,hz,h2,_⟩:=hkey i e hi;rw[h2]at h;have:z.1=v:=by simpa using h
    exact adR.2 ⟨z,afC.2 ⟨i,hz⟩,this⟩
   ·intro h;obtain⟨z,hz,rfl⟩:=adR.1 h;obtain⟨i,hi⟩:=afC.1 hz;have hi2:i<es.toList.length:=by rw[k2];exact(adV.1 hi).1
    obtain⟨z',hz',h2,_⟩:=hkey i _ (acW hi2);rw[hi]at hz';obtain rfl:=Option.some.inj hz';exact⟨_,adY hi2,h2⟩
  have hbig:∀v∈L.map (·.1),v.length<=BIG:=fun v hv=>by
   obtain⟨e,he,h⟩:=(hmem v).1 ((hkeys v).2 hv);obtain⟨i,hi⟩:=afC.1 he;obtain⟨z,_,h2,h3⟩:=hkey i e hi;rw[h2]at h;have:z.1=v:=by simpa using h
   rw[<- this];exact h3
  refine(Mb b es.size D0 Te w hown (by rw[hsize];unfold maxLen;omega) (by rw[hsize];omega)).mono ?_;rintro e w' ⟨v,ss,rfl,hS,hrow,hnil,hb⟩
  have hlen:=hS.length_eq
  have hmS:=List.mergeSort_perm ss fun x y=>decide (x<=y)
  have hml:=hmS.length_eq
  generalize ss.mergeSort (fun x y=>decide (x<=y))=Q at hrow hmS hml;have hQ:∀v,v∈Q ↔ v∈L.map (·.1):=fun v=>(hmS.mem_iff.trans hS.mem_iff).trans (hkeys v)
  have hQl:Q.length<=1000000:=by
   rw[hml,hlen];have:(strKeys D0).length=Maps.size D0:=by
    unfold strKeys Maps.size;split<;>simp
   rw[this,hsize];exact hsz
  obtain⟨_,hrow⟩:=hrow;rcases hrow with⟨rfl,hz⟩|⟨gb,cap,cur,rfl,r0,r1,r2,r3,r4,r5⟩
  ·obtain rfl:Q=[]:=adZ kQ1;refine⟨_,H,[],rfl,hQ,hb,fun _ _ _ h=>h,fun b o h1 h2=>absurd h2 h1,fun b o x l c h1 h2=>by(rw[h2]at h1;cases h1),fun b o y h=>(hag b o y h).frame (hb.block b (hag b o y h).lt),fun _=>rfl,1,?_⟩;show FD _ 1 (.li []) _
   rw[lP];exact⟨none,0,rfl,ac1 _,by simp,.inl rfl⟩
  ·have hHg:∀o,H gb o=none:=fun o=>by
    cases hc:H gb o with
    |none=>rfl
    |some y=>have:=(hag _ _ _ hc).lt;omega
   rw[Nat.mul_one]at r4 r5;have hcell:∀o(ho:o<Q.length),cur[o]? = some (encStr Q[o]):=fun o ho=>by
    have h9:(cur.toList.take ss.length)[o]? = some (encStr Q[o]):=by rw[r5,acZ,acW ho];rfl
    rw[adI kQ1]at h9;rw[<- Array.getElem?_toList];exact h9
   refine⟨_,fun b o=>if b=gb then(Q.map encStr)[o]?.map HV.c else H b o,Q,rfl,hQ,hb,fun b o y h=>?_,fun b o h1 h2=>?_,fun b o x l c h1 h2=>?_,fun b o y h=>?_,fun _=>rfl,1,?_⟩
   ·have:=(hag b o y h).lt
    dsimp only;rw[if_neg kQ1];exact h
   ·dsimp only at h1;split at h1
    ·omega
    ·exact absurd h2 h1
   ·dsimp only at h1;split at h1
    ·obtain⟨z,hz,e⟩:=adA.1 h1;obtain rfl:=HV.c.inj e;have h1:=adK hz
     obtain⟨q,_,e⟩:=adR.1 h1;unfold encStr at e;cases e
    ·rw[h2]at h1;cases h1
   ·dsimp only at h;split at h
    ·rename_i hbb;subst hbb;obtain⟨z,hz,rfl⟩:=adA.1 h;rw[acZ]at hz;obtain⟨q,hq,rfl⟩:=adA.1 hz;have ho:=(adV.1 hq).1
     have hc:=hcell o ho
     rw[(adV.1 hq).2]at hc;show World.cell? _ _=some _
     unfold World.cell?;rw[r1];exact hc
    ·exact(hag b o y h).frame (hb.block b (hag b o y h).lt)
   ·show FD _ 1 (.li (Q.map (al .s))) _
    rw[lP];unfold BIG;refine⟨_,_,by rw[acY,hml],by rw[acY];omega,by rw[acY];omega,.inr ⟨gb,0,1,rfl,fun i hi=>?_⟩⟩;have hi:i<Q.length:=by simpa using hi
    have e:(Q.map (al .s)).getD i []=[.str Q[i]]:=by
     rw[List.getD,acZ,acW hi];rfl
    rw[e];refine⟨rfl,fun j hj=>?_⟩;have hj:j=0:=by omega
    subst hj;refine⟨encStr Q[i],?_,?_⟩
    ·dsimp only;rw[if_pos rfl];simp[hi]
    ·exact⟨rfl,hbig _ ((hQ _).1 (adY hi))⟩)
end Go.Am
end

section
namespace Go.Am
theorem bh{p:Prop}[d:Decidable p]{b:Bool}(h:dand p b=true):p/\b=true:=by
 unfold dand at h;split at h
 ·rename_i hp;exact⟨hp,h⟩
 ·cases h
section
variable {kb:At->Bool} {k:At->Prop} (hk:∀v,kb v=true->k v)
include hk
theorem U1{c x y:At}(h:U0 c x y kb=true):vQ c x y k:=by
 unfold U0 at h;unfold vQ;split at h
 ·split at h
  ·rename_i e;rw[if_pos e];exact hk _ h
  ·rename_i e;rw[if_neg e];exact hk _ h
 ·cases h
omit hk in
theorem Xw{op:BinOp}{κ:IntKind}{a b:Int}{kb:C->Bool}{k:C->Prop}(hk:∀v,kb v=true->k v)(h:ZL op κ a b kb=true):Mc op κ a b k:=by
 unfold ZL at h;unfold Mc;cases op<;>first|exact hk _ h|exact⟨(bh h).1,hk _ (bh h).2⟩
omit hk in
theorem Tk{op:BinOp}{x y:C}{kb:C->Bool}{k:C->Prop}(hk:∀v,kb v=true->k v)(h:Tj op x y kb=true):Al op x y k:=by
 unfold Tj at h;unfold Al;split at h
 ·cases op<;>first|exact hk _ h|exact⟨(bh h).1,hk _ (bh h).2⟩|(cases h;done)
 ·split at h
  ·split at h
   ·rename_i hc;rw[if_pos hc];exact Xw hk h
   ·cases h
  ·cases h
theorem Wj{P:Program}{op:BinOp}{t:TypeId}{x y:At}(h:Y7 P op t x y kb=true):Gt P op t x y k:=by
 unfold Y7 at h;unfold Gt
 (repeat' split at h)<;>first|(cases h;done)|exact hk _ h|exact Tk (fun _=>hk _) h
theorem Z1{op:UnOp}{x:At}(h:unB op x kb=true):unT op x k:=by
 unfold unB at h;unfold unT;split at h
 ·exact hk _ h
 ·split at h
  ·exact hk _ h
  ·cases h
 ·split at h
  ·exact hk _ h
  ·cases h
 ·cases h
theorem GS{x:At}{i:Nat}(h:yD x i kb=true):iq x i k:=by
 unfold yD at h;unfold iq
 (repeat' split at h)<;>first|(cases h;done)|exact hk _ h
omit hk in
theorem Xa{gd:Option (Nat×Bool)}{n:Nat}{q:Prop}(h:q):gift gd n q:=by
 unfold gift;split
 ·exact fun _=>h
 ·exact h
omit hk in
theorem Xn{gd:Option (Nat×Bool)}{m:List (Nm×Nat×Rt)}{x:At}{kb:Nat->Bool}{k:Nat->Prop}(hk:∀v,kb v=true->k v)(h:ZH gd m x kb=true):IH gd m x k:=by
 unfold ZH at h;unfold IH
 (repeat' split at h)<;>first|(cases h;done)|exact hk _ h|exact Xa (hk _ h)
theorem Rq{x i:At}(h:ML x i kb=true):o5 x i k:=by
 unfold ML at h;unfold o5
 (repeat' split at h)<;>first|(cases h;done)|exact⟨(bh h).1,hk _ (bh h).2⟩
omit hk in
theorem py{x:Option At}{d:Nat}{kb:Nat->Bool}{k:Nat->Prop}(hk:∀v,kb v=true->k v)(h:oo x d kb=true):ew x d k:=by
 unfold oo at h;unfold ew
 (repeat' split at h)<;>first|(cases h;done)|exact hk _ h|exact⟨(bh h).1,hk _ (bh h).2⟩
theorem Rj{P:Program}{t:TypeId}{x:At}{lo hi:Option At}(h:MH P t x lo hi kb=true):oY P t x lo hi k:=by
 unfold MH at h;unfold oY
 (repeat' split at h)<;>first|(cases h;done)|exact py (fun _=>py fun _ h=>⟨(bh h).1,hk _ (bh h).2⟩) h|exact py (fun _=>py fun _ h=>⟨(bh h).1.1,(bh h).1.2,hk _ (bh h).2⟩) h
theorem As{P:Program}{m:List (Nm×Nat×Rt)}{t:TypeId}{x:At}{i:Nat}(h:q7 P m t x i kb=true):dK P m t x i k:=by
 unfold q7 at h;unfold dK
 (repeat' split at h)<;>first|(cases h;done)|exact hk _ h
theorem Aw{P:Program}{m:List (Nm×Nat×Rt)}{t:TypeId}{x i:At}(h:q9 P m t x i kb=true):dk P m t x i k:=by
 unfold q9 at h;unfold dk
 (repeat' split at h)<;>first|(cases h;done)|exact⟨(bh h).1,hk _ (bh h).2⟩
theorem IK{P:Program}{m:List (Nm×Nat×Rt)}{t:TypeId}{x:At}(h:OI P m t x kb=true):j8 P m t x k:=by
 unfold OI at h;unfold j8
 (repeat' split at h)<;>first|(cases h;done)|exact hk _ h|exact⟨(bh h).1,hk _ (bh h).2⟩
theorem Qq{P:Program}{t:TypeId}{x:At}{i:Nat}(h:Ls P t x i kb=true):oB P t x i k:=by
 unfold Ls at h;unfold oB
 (repeat' split at h)<;>first|(cases h;done)|exact hk _ h
theorem D5{x:At}(h:uR x kb=true):fD x k:=by
 unfold uR at h;unfold fD
 (repeat' split at h)<;>first|(cases h;done)|exact hk _ h
theorem PS{P:Program}{t:TypeId}{ps:List (Nat×At)}(h:Ld P t ps kb=true):ou P t ps k:=by
 unfold Ld at h;unfold ou
 (repeat' split at h)<;>first|(cases h;done)|exact hk _ h
theorem TZ{P:Program}{su du:TypeId}{x:At}(h:TY P su du x kb=true):vH P su du x k:=by
 unfold TY at h;unfold vH
 (repeat' split at h)<;>first|(cases h;done)|exact hk _ h
theorem L4{P:Program}{m:List (Nm×Nat×Rt)}{t:TypeId}{x key:At}{ok:Bool}(h:DY P m t x key ok kb=true):lb P m t x key ok k:=by
 unfold DY at h;unfold lb
 (repeat' split at h)<;>first|(cases h;done)|exact hk _ h
end
section
variable {s:St} {kb:St->Bool} {k:St->Prop} (hk:∀s',kb s'=true->k s')
include hk
theorem PB{P:Program}{t:TypeId}{d:Tmp}(h:KY P s t d kb=true):og P s t d k:=by
 unfold KY at h;unfold og
 (repeat' split at h)<;>first|(cases h;done)|exact hk _ h
theorem Wo{x:Operand}{d:Tmp}(h:Y9 s x d kb=true):Gw s x d k:=by
 unfold Y9 at h;unfold Gw
 (repeat' split at h)<;>first|(cases h;done)|exact hk _ h
theorem yg{P:Program}{E:Ut}{t:TypeId}{n:Nat}{ps:Array (Nat×Operand)}{d:Tmp}(h:oq P E s t n ps d kb=true):db P E s t n ps d k:=by
 unfold oq at h;unfold db;dsimp only at h⊢
 (repeat' split at h)<;>first|(cases h;done)|exact hk _ h
theorem uu{P:Program}{E:Ut}{sub:List Sh}{t:TypeId}{n:Nat}{ps:Array (Nat×Operand)}{d:Tmp}(h:lx P E sub s t n ps d kb=true):cC P E sub s t n ps d k:=by
 unfold lx at h;unfold cC;dsimp only at h⊢
 (repeat' split at h)<;>first|(cases h;done)|exact hk _ h
theorem uy{P:Program}{E:Ut}{sub:List Sh}{t:TypeId}{n:Nat}{ps:Array (Nat×Operand)}{d:Tmp}(h:ly P E sub s t n ps d kb=true):cD P E sub s t n ps d k:=by
 unfold ly at h;unfold cD
 (repeat' split at h)<;>first|(cases h;done)|exact hk _ h
omit hk in
theorem sV{q:Bool}{p:Prop}(hq:q=true->p):∀(path:List Step)(sub:List Sh)(u:U)(l:List (El u)),Cp sub u l path q=true->oL sub u l path p
 |[],_,_,_,h=>by cases h
 |[_],_,_,_,h=>⟨(bh h).1,hq (bh h).2⟩
 |st::st'::r,sub,u,l,h=>by
  unfold Cp at h;unfold oL;split at h
  ·exact⟨(bh h).1,sV hq (st'::r) _ _ _ (bh h).2⟩
  ·cases h
omit hk in
theorem yA{q:Bool}{p:Prop}(hq:q=true->p):∀(a b:List Step),wE a b q=true->m0 a b p
 |[],[],h=>hq h
 |a::r,b::t,h=>by
  unfold wE at h;unfold m0;split at h
  ·exact⟨(bh h).1,yA hq r t (bh h).2⟩
  ·cases h
 |[],_::_,h=>by cases h
 |_::_,[],h=>by cases h
theorem Eo{p:Pl}{t:Tt}(h:XL s p t kb=true):AQ s p t k:=by
 unfold XL at h;unfold AQ
 (repeat' split at h)<;>first|(cases h;done)|exact hk _ h|exact sV (hk _) _ _ _ _ h|exact sV (yA (hk _) _ _) _ _ _ _ h
theorem Mv{p:Pl}{ts:List Tt}(h:Ep s p ts kb=true):lh s p ts k:=by
 unfold Ep at h;unfold lh
 (repeat' split at h)<;>first|(cases h;done)|exact sV (hk _) _ _ _ _ h
omit hk in
theorem nv{kb:St->Bool}{k:St->Prop}(hk:∀s',kb s'=true->k s'):∀(ts:List Tt)(s:St)(p:Pl),tg s p ts kb=true->fZ s p ts k
 |[],_,_,h=>hk _ h
 |t::ts,s,p,h=>by
  cases t with
  |rf q=>
   simp only[tg]at h;simp only[fZ]
   (repeat' split at h)<;>first|(cases h;done)|exact Eo (fun s' h'=>nv hk ts _ _ h') h
  |any=>cases h
  |d c=>cases c<;>first|(cases h;done)|exact Eo (fun s' h'=>nv hk ts _ _ h') h
  |_=>exact Eo (fun s' h'=>nv hk ts _ _ h') h
theorem Rn{P:Program}{t:TypeId}{x v:At}(h:MI P s t x v kb=true):oZ P s t x v k:=by
 unfold MI at h;unfold oZ
 (repeat' split at h)<;>first|(cases h;done)|exact Mv hk h|exact nv hk _ _ _ h
theorem K2{P:Program}{E:Ut}{t u:TypeId}{x y:Operand}{d:Tmp}(h:Dk P E s t u x y d kb=true):kJ P E s t u x y d k:=by
 unfold Dk at h;unfold kJ;dsimp only at h⊢
 (repeat' split at h)<;>first|(cases h;done)|exact⟨(bh h).1,hk _ (bh h).2⟩
theorem Dl{P:Program}{E:Ut}{t u:TypeId}{x y:Operand}{d:Tmp}(h:um P E s t u x y d kb=true):ia P E s t u x y d k:=by
 unfold um at h;unfold ia
 (repeat' split at h)<;>first|(cases h;done)|exact⟨(bh h).1,hk _ (bh h).2⟩
theorem vO{P:Program}{E:Ut}{own:Bool}{t:TypeId}{d:Tmp}(h:sQ P E own s t d kb=true):eF P E own s t d k:=by
 unfold sQ at h;unfold eF
 (repeat' split at h)<;>first|(cases h;done)|exact hk _ h
theorem L1{P:Program}{t:TypeId}{x key:At}(h:DX P s t x key kb=true):la P s t x key k:=by
 unfold DX at h;unfold la
 (repeat' split at h)<;>first|(cases h;done)|exact hk _ h
theorem L8{P:Program}{t:TypeId}{x key v:At}(h:D1 P s t x key v kb=true):lc P s t x key v k:=by
 unfold D1 at h;unfold lc
 (repeat' split at h)<;>first|(cases h;done)|exact hk _ h
theorem AK{b:EnB}{pk:PKt}{t:TypeId}{n c:At}{f:Bool}{d:Tmp}(h:rh b s t n c f d kb=true):dL ⟨b.e.P,b.e.E,b.e.cs,b.e.sh,pk⟩ s t n c f d k:=by
 unfold rh at h;unfold dL;dsimp only
 (repeat' split at h)<;>first|(cases h;done)|exact⟨(bh h).1,hk _ (bh h).2⟩
end
def wc(Cb:CKb)(C:CKt):Prop:=∀(pk:PKt)(s:St)(ops:List Operand)(kb:St->At->Bool)(k:St->At->Prop),(∀s' v,kb s' v=true->k s' v)->Cb s ops kb=true->C pk s ops k
def CN:CBt->CTt->Prop
 |[],[]=>True
 |x::r,y::q=>(x.1=y.1/\wc x.2 y.2)/\CN r q
 |_,_=>False
theorem CN.get:∀{cb:CBt}{cs:CTt},CN cb cs->∀{f:Nat}{Cb:CKb},CBt.get cb f=some Cb->∃C,cs.get f=some C/\wc Cb C
 |[],[],_,f,Cb,h=>by cases h
 |(f0,c)::r,(f1,C)::q,⟨⟨e,h1⟩,h2⟩,f,Cb,h=>by
  dsimp only at e h1;subst e;simp only[CBt.get]at h;simp only[CTt.get];split at h
  ·simp only[acV]at h;subst h;exact⟨C,rfl,h1⟩
  ·exact CN.get h2 h
 |[],_::_,h,_,_,_=>h.elim
 |_::_,[],h,_,_,_=>h.elim
abbrev EnB.w(b:EnB)(pk:PKt):En:=⟨b.e.P,b.e.E,b.e.cs,b.e.sh,pk⟩
section
variable {b:EnB} (hc:CN b.cs b.e.cs) {pk:PKt}
theorem Vf{o:Oper}{s:St}{kb:At->Bool}{k:At->Prop}(hk:∀v,kb v=true->k v)(h:qB b o s kb=true):qT (b.w pk) o s k:=by
 unfold qB at h;unfold qT;dsimp only[EnB.w];split at h
 ·exact hk _ h
 ·exact hk _ h
 ·exact U1 hk h
 ·exact Wj hk h
 ·exact Z1 hk h
 ·exact IK hk h
 ·exact Qq hk h
 ·exact As hk h
 ·exact Aw hk h
 ·split at h
  ·exact Rq hk h
  ·cases h
 ·exact GS hk h
 ·exact TZ hk h
 ·exact Rj hk h
 ·exact D5 hk h
 ·exact PS hk h
 ·split at h
  ·split at h
   ·exact Xn (fun _=>hk _) h
   ·cases h
  ·cases h
 ·cases h
include hc
theorem aa7{o:Oper}{s:St}{kb:St->Bool}{k:St->Prop}(hk:∀s',kb s'=true->k s')(h:lB b o s kb=true):lT (b.w pk) o s k:=by
 unfold lB at h;unfold lT;have esh:∀t,XX (b.w pk) t=XX b.e t:=fun _=>rfl
 simp only[esh];dsimp only[EnB.w];split at h
 ·exact Rn (fun _=>hk _) h
 ·split at h
  ·exact PB hk h
  ·cases h
 ·split at h
  ·exact Wo hk h
  ·cases h
 ·split at h
  ·split at h
   ·exact yg hk h
   ·split at h
    ·exact uy hk h
    ·exact uu hk h
  ·cases h
 ·split at h
  ·split at h
   ·split at h
    ·exact K2 hk h
    ·exact Dl hk h
   ·cases h
  ·exact L1 (fun _=>hk _) h
  ·split at h
   ·rename_i C hg hf;obtain⟨C',h1,h2⟩:=hc.get hg;rw[h1,hf];exact h2 _ _ _ _ _ (fun _ _=>hk _) h
   ·cases h
  ·split at h
   ·split at h
    ·rename_i C hg hf;obtain⟨C',h1,h2⟩:=hc.get hg;rw[h1,hf];exact h2 _ _ _ _ _ (fun _ _=>hk _) h
    ·cases h
   ·(repeat' split at h)<;>cases h
   ·cases h
  ·cases h
 ·split at h
  ·exact vO hk h
  ·split at h
   ·exact vO hk h
   ·cases h
  ·cases h
 ·split at h
  ·cases h
  ·exact L4 (fun _=>hk _) h
 ·split at h
  ·cases h
  ·exact L8 (fun _=>hk _) h
 ·split at h
  ·exact AK hk h
  ·cases h
 all_goals ((repeat' split at h)<;>cases h)
theorem OO{o:Oper}{s:St}{kb:St->Bool}{k:St->Prop}(hk:∀s',kb s'=true->k s')(h:XB b o s kb=true):zj (b.w pk) o s k:=by
 unfold XB at h;unfold zj;split at h
 ·exact Vf (fun _=>hk _) h
 ·exact aa7 hc hk h
theorem Mi{o:Oper}{s:St}{kb:St->Bool}{k:St->Prop}(hk:∀s',kb s'=true->k s')(h:opB b o s kb=true):opT (b.w pk) o s k:=by
 unfold opB at h;unfold opT;have e1:Mk (b.w pk) o=Mk b.e o:=by unfold Mk;rfl
 rw[e1];split at h
 ·cases h
 ·exact OO hc hk h
theorem OQ{all:List Oper}{kb:St->Bool}{k:St->Prop}(hk:∀s',kb s'=true->k s'):∀(l:List Oper)(s:St),AN b all l s kb=true->kz (b.w pk) all l s k
 |[],s,h=>hk s h
 |o::r,s,h=>by
  unfold AN at h;unfold kz;have ih:∀s,AN b all r s kb=true->kz (b.w pk) all r s k:=fun s h=>OQ hk r s h
  split at h
  ·exact Mi hc (fun s' h'=>ih s' h') h
  ·split at h
   ·split at h
    ·split at h
     ·split at h
      ·rename_i e;rw[if_pos e];exact Mi hc (fun s' h'=>ih s' h') h
      ·rename_i e;rw[if_neg e];exact ih _ h
     ·split at h
      ·rename_i e;rw[if_pos e];exact ih _ h
      ·rename_i e;rw[if_neg e];exact Mi hc (fun s' h'=>ih s' h') h
    ·exact ih _ h
    ·cases h
   ·cases h
omit hc in
theorem YD{ops:List Oper}{o:Oper}{s:St}{fb nb:St->Bool}{f no:St->Prop}(hf:∀s',fb s'=true->f s')(hn:∀s',nb s'=true->no s')(h:gB ops o s fb nb=true):gT ops o s f no:=by
 unfold gB at h;unfold gT
 (repeat' split at h)<;>first
  |(cases h;done)
  |exact hf _ h
  |exact hn _ h
  |(rename_i e;rw[if_pos e];first|exact hf _ h|exact hn _ h)
  |(rename_i e;rw[if_neg e];first|exact hf _ h|exact hn _ h)
omit hc in
theorem N0{fb:Nat->Bool}{f:Nat->Prop}(hf:∀i,fb i=true->f i):∀l:List Nat,Wd fb l=true->PA f l
 |[],_=>trivial
 |[i],h=>hf i h
 |i::j::r,h=>by
  unfold Wd at h;split at h
  ·rename_i hi;exact⟨hf i hi,N0 hf (j::r) h⟩
  ·cases h
theorem GN{ops:Array Oper}{kb:St->Bool}{k:St->Prop}(hk:∀s',kb s'=true->k s'):∀(n:Nat)(listed:Array Bool)(s:St),qf b ops n listed s kb=true->fB (b.w pk) ops n listed s k
 |0,listed,s,h=>by
  unfold qf at h;unfold fB;split at h
  ·exact hk _ h
  ·cases h
 |n+1,listed,s,h=>by
  unfold qf at h;unfold fB;have ih:∀l s,qf b ops n l s kb=true->fB (b.w pk) ops n l s k:=fun l s h=>GN hk n l s h
  split at h
  ·exact hk _ h
  ·split at h
   ·split at h
    ·split at h
     ·exact Vf (fun v h'=>ih _ _ h') h
     ·refine YD (fun s' h'=>?_) (fun s' h'=>ih _ _ h') h;split at h'
      ·exact Vf (fun v h2=>ih _ _ h2) h'
      ·cases h'
    ·cases h
   ·refine N0 (fun i h'=>?_) _ h;split at h'
    ·exact YD (fun s' h2=>OO (pk:=(b.w pk).cl.pk) hc (fun s'' h3=>ih _ _ h3) h2) (fun s' h2=>ih _ _ h2) h'
    ·cases h'
def i9(n:Nat):Code->An
 |.seq a b=>.s (i9 n a) (i9 n b)
 |.cond _ a b=>.c (i9 n a) (i9 n b)
 |.block _ a=>.b (i9 n a)
 |.loop a=>.un n (i9 n a)
 |_=>.l
structure KtOk (Kb:KtB) (K:Kt):Prop where
 n:∀s,Kb.n s=true->K.n s
 x:∀i s,Kb.x i s=true->K.x i s
 r:∀s,Kb.r s=true->K.r s
omit hc in
theorem PJ(n:Nat)(c:Code)(s:St):(i9 n c).pick s=i9 n c:=by cases c<;>rfl
theorem kp(n:Nat):∀(c:Code)(s:St){Kb:KtB}{K:Kt},KtOk Kb K->wpB n b c s Kb=true->wpT (b.w pk) (i9 n c) c s K
 |.skip,s,Kb,K,hK,h=>hK.n s h
 |.region i ops dr,s,Kb,K,hK,h=>by
  cases dr with
  |false=>exact OQ hc hK.n _ s h
  |true=>exact GN hc hK.n _ _ s h
 |.seq x y,s,Kb,K,hK,h=>by
  show wpT (b.w pk) (i9 n x) x s ⟨fun s'=>wpT (b.w pk) ((i9 n y).pick s') y s' K,K.x,K.r⟩
  refine kp n x s (Kb:=⟨fun s'=>wpB n b y s' Kb,Kb.x,Kb.r⟩) ⟨fun s' h'=>?_,hK.x,hK.r⟩ h;show wpT (b.w pk) ((i9 n y).pick s') y s' K
  rw[PJ];exact kp n y s' hK h'
 |.cond o x y,s,Kb,K,hK,h=>by
  cases o with
  |tmp t=>
   unfold wpB at h;show(match gtA s.t t with|.one (.c (.d (.bo c)))=>if c=true then wpT (b.w pk) (i9 n x) x s K else wpT (b.w pk) (i9 n y) y s K|_=>False)
   split at h
   ·rename_i c e;rw[e];cases c with
    |true=>exact kp n x s hK h
    |false=>exact kp n y s hK h
   ·cases h
  |_=>unfold wpB at h;cases h
 |.block id x,s,Kb,K,hK,h=>by
  refine kp n x s (Kb:=⟨Kb.n,fun i s'=>match Nat.beq i id with|true=>Kb.n s'|false=>Kb.x i s',Kb.r⟩) ⟨hK.n,fun i s' h'=>?_,hK.r⟩ h;dsimp only at h'⊢;split at h'
  ·rename_i e;rw[e];exact hK.n _ h'
  ·rename_i e;rw[e];exact hK.x _ _ h'
 |.loop x,s,Kb,K,hK,h=>by
  show ql (fun R s'=>wpT (b.w pk) (i9 n x) x s' ⟨R,K.x,K.r⟩) n s
  have key:∀m s,L0 (fun R s'=>wpB n b x s' ⟨R,Kb.x,Kb.r⟩) m s=true->ql (fun R s'=>wpT (b.w pk) (i9 n x) x s' ⟨R,K.x,K.r⟩) m s:=by
   intro m;induction m with
   |zero=>intro s h;cases h
   |succ m ih=>intro s h;exact kp n x s (Kb:=⟨_,Kb.x,Kb.r⟩) ⟨fun s' h'=>ih s' h',hK.x,hK.r⟩ h
  exact key n s h
 |.exit i,s,Kb,K,hK,h=>hK.x i s h
 |.ret,s,Kb,K,hK,h=>hK.r s h
 |.rangeFunc ..,_,_,_,_,h=>by unfold wpB at h;cases h
 |.scope ..,_,_,_,_,h=>by unfold wpB at h;cases h
 |.label ..,_,_,_,_,h=>by unfold wpB at h;cases h
 |.goto ..,_,_,_,_,h=>by unfold wpB at h;cases h
 |.refuse ..,_,_,_,_,h=>by unfold wpB at h;cases h
end
end Go.Am
end

section
namespace Go.Am
open Go Go.Proofs
theorem MA{P:Program}{s:St}{kb:At->Bool}{k:At->Prop}(hk:∀v,kb v=true->k v)(r:ResultVar)(h:Ew P s kb r=true):lj P s k r:=by
 unfold Ew at h;unfold lj
 (repeat' split at h)<;>first|(cases h;done)|exact hk _ h|exact IK hk h
theorem oV{P:Program}{s:St}:∀(rs:List ResultVar){kb:List At->Bool}{k:List At->Prop},(∀v,kb v=true->k v)->tc P s rs kb=true->cE P s rs k
 |[],_,_,hk,h=>hk _ h
 |r::rs,kb,k,hk,h=>MA (k:=fun v=>cE P s rs fun vs=>k (v::vs)) (fun v h'=>oV rs (kb:=fun vs=>kb (v::vs)) (fun vs h2=>hk _ h2) h') r h
theorem EA{P:Program}{rs:List ResultVar}{us:List U}{KKb:Fl us->Bool}{KK:Fl us->Prop}(hk:∀x,KKb x=true->KK x){s:St}(h:Ji P rs us KKb s=true):rC P rs us KK s:=by
 unfold Ji at h;unfold rC;refine oV rs (fun vs h'=>?_) h;split at h'
 ·exact hk _ h'
 ·cases h'
theorem Vi{P:Program}{res:List ResultVar}{sh:List Sh}{u:U}{rs:List U}{KKb:Fl rs×El u->Bool}{KK:Fl rs×El u->Prop}(hk:∀x,KKb x=true->KK x){s:St}(h:zH P res sh u rs KKb s=true):ko P res sh u rs KK s:=by
 unfold zH at h;unfold ko;dsimp only at h⊢;refine oV res (fun vs h'=>?_) h
 (repeat' split at h')<;>first|(cases h';done)|exact hk _ h'
theorem Ij{P:Program}{res:List ResultVar}{kb:St->At->Bool}{k:St->At->Prop}(hk:∀s v,kb s v=true->k s v)(s:St)(h:OB P res kb s=true):jZ P res k s:=by
 unfold OB at h;unfold jZ;split at h
 ·exact hk _ _ h
 ·cases h
abbrev anF(n:Nat)(fn:Func):An:=i9 n (fn.body.getD .skip)
section
variable {n:Nat} {b:EnB} (hc:CN b.cs b.e.cs) {fn:Func} {ps rs:List U}
include hc
theorem yf{x:Fl ps}{KKb:Fl rs->Bool}{KK:Fl rs->Prop}(hk:∀y,KKb y=true->KK y)(h:Gv n b fn ps rs x KKb=true):ao b.e fn (anF n fn) ps rs x KK:=
 kp (pk:=fun _ _=>False) hc n _ _ (K:=⟨rC b.e.P fn.results.toList rs KK,fun _ _=>False,rC b.e.P fn.results.toList rs KK⟩) ⟨fun s h=>EA hk h,fun _ _ h=>(by cases h),fun s h=>EA hk h⟩ h
theorem Ve:wc (Vd n b fn ps rs) (Ct b.e fn (anF n fn) ps rs):=by
 intro pk s ops kb k hk h;unfold Vd at h;unfold Ct;dsimp only at h⊢;split at h
 ·rename_i x hx;exact⟨fun y=>k _ (bC rs y),yf hc (fun y=>hk _ _) h,fun y hy=>hy⟩
 ·cases h
theorem UC:wc (UB n b fn ps rs) (yT ps rs fun x KK=>ao b.e fn (anF n fn) ps rs x KK):=by
 intro pk s ops kb k hk h;unfold UB at h;unfold yT;split at h
 ·exact⟨fun y=>k _ (bC rs y),yf hc (fun y=>hk _ _) h,fun y hy=>hy⟩
 ·cases h
theorem Xb:wc (ZD n b fn) (cn b.e fn (anF n fn)):=by
 intro pk s ops kb k hk h;unfold ZD at h;unfold cn;split at h
 ·exact kp hc n _ _ (K:=⟨jZ b.e.P fn.results.toList k,fun _ _=>False,jZ b.e.P fn.results.toList k⟩) ⟨fun s h=>Ij hk s h,fun _ _ h=>(by cases h),fun s h=>Ij hk s h⟩ h
 ·cases h
theorem XJ{sh:List Sh}{u:U}:wc (ZR n b fn sh u ps rs) (Cr b.e fn (anF n fn) sh u ps rs):=by
 intro pk s ops kb k hk h;have key:∀(Sx:El u->St)(x:El u)(y:Fl ps),wpB n b (fn.body.getD .skip) ⟨1,(0,0,.one (.c (.pl ⟨.out 0,0,[]⟩)))::wn 1 ps y,[(.out 0,0,⟨true,aB sh (flat u x),none⟩)]⟩
   ⟨zH b.e.P fn.results.toList sh u rs (fun z=>kb (Sx z.2) (bC rs z.1)),fun _ _=>false,zH b.e.P fn.results.toList sh u rs (fun z=>kb (Sx z.2) (bC rs z.1))⟩=true ->
   ∃(KK:Fl rs×El u->Prop)(KP:Value->El u->Prop),Oi b.e fn (anF n fn) sh u ps rs x y KK KP/\(∀z x',KK (z,x')->k (Sx x') (bC rs z))/\∀v x',KP v x'->pk v (Sx x'):=by
  intro Sx x y h;have rr:∀s,zH b.e.P fn.results.toList sh u rs (fun z=>kb (Sx z.2) (bC rs z.1)) s=true->ko b.e.P fn.results.toList sh u rs (fun z=>k (Sx z.2) (bC rs z.1)) s:=fun s h=>Vi (fun z=>hk (Sx z.2) (bC rs z.1)) h
  refine⟨fun z=>k (Sx z.2) (bC rs z.1),fun _ _=>False,?_,fun z x' hz=>hz,fun _ _ h=>h.elim⟩;exact kp (pk:=OW sh u fun _ _=>False) hc n _ _ (K:=⟨ko b.e.P fn.results.toList sh u rs (fun z=>k (Sx z.2) (bC rs z.1)),fun _ _=>False,ko b.e.P fn.results.toList sh u rs (fun z=>k (Sx z.2) (bC rs z.1))⟩) ⟨rr,fun _ _ h=>(by cases h),rr⟩ h
 unfold ZR at h;unfold Cr;dsimp only at h⊢
 (repeat' split at h)<;>first|(cases h;done)|exact key _ _ _ h
end
theorem aaN{Cb:CKb}{C:CKt}(h:wc Cb C):wc (apB Cb) (apT C):=by
 intro pk s ops kb k hk hb;unfold apB at hb;unfold apT;split at hb
 ·exact h _ _ _ _ _ (fun s' v h'=>hk _ _ h') hb
 ·cases hb
theorem yF{ps rs:List U}{pb:Fl ps->Bool}{pre:Fl ps->Prop}{f:Fl ps->Fl rs}(hp:∀x,pb x=true->pre x):wc (fnB ps rs pb f) (bd ps rs pre f):=by
 intro pk s ops kb k hk h;unfold fnB at h;unfold bd;dsimp only at h⊢;split at h
 ·split at h
  ·rename_i hb;exact⟨hp _ hb,hk _ _ h⟩
  ·cases h
 ·cases h
theorem T6{ps rs:List U}{f:Fl ps->Fl rs}:wc (fnB ps rs (fun _=>true) f) (ap ps rs f):=by
 intro pk s ops kb k hk h;unfold fnB at h;unfold ap;dsimp only at h⊢;split at h
 ·exact hk _ _ h
 ·cases h
theorem ZZ{tab:List (List UInt8×Nat)}{df:Nat}:wc (swB tab df) (swT tab df):=by
 intro pk s ops kb k hk h;unfold swB at h;unfold swT;dsimp only at h⊢;split at h
 ·rename_i x hx;have key:∀(tab:List (List UInt8×Nat)){K:Nat->Bool}{K':Nat->Prop},(∀i,K i=true->K' i)->X4 x K df tab=true->swP x K' df tab:=by
   intro tab K K' hK;induction tab with
   |nil=>exact hK _
   |cons y r ih=>
    obtain⟨w0,f⟩:=y;intro h;unfold X4 at h;unfold swP;split at h
    ·rename_i e;rw[if_pos e];exact hK _ h
    ·rename_i e;rw[if_neg (by rw[e];decide)];exact ih h
  exact key tab (fun i=>hk _ _) h
 ·cases h
theorem Ko{e:En}(he:e.ok)(hm:e.P.follows .mixedOrders=true){f:Nat}{fn:Func}(hf:e.P.funcs[f]? = some fn) (hname:(fn.name == "runtime.NumGoroutine")=false) (hb:fn.body.isSome=true) {an:An} {ps rs:List U}
  (hlen:Nat.ble ps.length fn.ntmps=true) (hc:fi fn.ntmps (fn.body.getD .skip)=true):Cont e.P f (Ct e fn an ps rs):=by
 have hb':fn.body=some (fn.body.getD .skip):=by cases h:fn.body with
  |none=>rw[h]at hb;cases hb
  |some c=>rfl
 have hcon:=xg (P:=e.P) hf hname hb' (fun avs K=>∃(x:Fl ps)(KK:Fl rs->Prop),avs=dT ps x/\ao e fn an ps rs x KK/\∀y,KK y->K (bC rs y).toV) (fun avs K⟨x,_,hx,_⟩=>by rw[hx,cz];exact ac5 hlen) (fun g avs K hg⟨x,KK,hx,h,hk⟩=>by
  subst hx;exact wU he hm hg hc hk h)
 refine⟨hcon.run,fun pk s ops k k' hk hcc=>?_,fun g pk s a w H γ F1 ops k hX hops hcc=>?_⟩
 ·unfold Ct at hcc⊢;dsimp only at hcc⊢;split at hcc
  ·obtain⟨KK,h1,h2⟩:=hcc;exact⟨KK,h1,fun y hy=>hk _ _ (bE _ _) (h2 y hy)⟩
  ·exact hcc.elim
 ·unfold Ct at hcc;dsimp only at hcc;obtain⟨H1,F2,h1⟩:=cj (ops.map (evA s)) s H F1 hX;generalize bt s (ops.map (evA s))=s1 at hcc h1;split at hcc
  ·rename_i x hx;obtain⟨KK,hbd,hk⟩:=hcc;obtain⟨c1,c2,c3⟩:=cV hx;refine Calls.mono (hcon.call g s1.toS a w H1 γ F2 ops (fun s' av=>∃t v',SEq s' t.toS/\av=v'.toV/\k t v') h1 hops ?_) ?_
   ·unfold oQ;dsimp only;rw[cO hops,dj c1];have e:(ops.map fun x=>(ev s1.toS x).map T.canon)=(ops.map (ev s1.toS)).map (AV.map T.canon):=by rw[adD];rfl
    rw[e,cO hops];refine⟨c2,?_⟩;rw[c3];exact⟨x,KK,rfl,hbd,fun y hy=>⟨s1,_,⟨fun _=>rfl,rfl⟩,rfl,hk y hy⟩⟩
   ·rintro e w' ⟨r,s',av,H',γ',F',k1,⟨t,v',e1,rfl,k2⟩,k3,k4⟩
    refine .inl ⟨r,t,v',H',γ',F',k1,k2,?_,aV e1 k4⟩;rw[e1.2]at k3;exact k3
  ·exact hcc.elim
structure Cl (f:Nat) where
 B:CKb
 I:CKt
 ck:wc B I
 cont:Cont prog f I
abbrev ClS:=List ((f:Nat)×Cl f)
def clB:ClS->CBt
 |[]=>[]
 |x::r=>(x.1,x.2.B)::clB r
def clI:ClS->CTt
 |[]=>[]
 |x::r=>(x.1,x.2.I)::clI r
theorem yw:∀l:ClS,CN (clB l) (clI l)
 |[]=>trivial
 |x::r=>⟨⟨rfl,x.2.ck⟩,yw r⟩
noncomputable abbrev clE(E:Ut)(sh:List (TypeId×List Sh))(l:ClS):EnB:=⟨⟨prog,E,clI l,sh,noP⟩,clB l⟩
theorem WV{P:Program}{f:Nat}{C:CKt}(h:Cont P f C):f<P.funcs.size:=by
 rcases adJ f P.funcs.size with h1|h1
 ·exact h1
 ·have h2:=h.run #[] default
  have h3:P.funcs[f]? = none:=aeO h1
  simp[callFunc,Sem.run,Sem.run_bind,h3,stuck,Result.andThen]at h2
theorem WS:Nat.ble (prog).funcs.size 1000000=true:=kQ0
theorem BX(E:Ut)(sh:List (TypeId×List Sh))(l:ClS):(clE E sh l).e.ok:=by
 intro x hx;have:∀l:ClS,x∈clI l->Cont prog x.1 x.2:=by
  intro l;induction l with
  |nil=>intro h;cases h
  |cons y r ih=>
   intro h;rcases ac8.1 h with rfl|h
   ·exact y.2.cont
   ·exact ih h
 have hc:=this l hx
 have h1:=WV hc
 have h2:=ac5 WS
 exact⟨fun _=>hc,fun h=>by omega⟩
def Md(n:Nat)(fn:Func):Bool:=fn.name != "runtime.NumGoroutine" && (fn.body.isSome&&(Nat.ble n fn.ntmps&&(fi fn.ntmps (fn.body.getD .skip)&&Nat.ble fn.ntmps 100000)))
theorem cY{n:Nat}{fn:Func}(h:Md n fn=true):(fn.name == "runtime.NumGoroutine")=false/\fn.body.isSome=true/\Nat.ble n fn.ntmps=true/\fi fn.ntmps (fn.body.getD .skip)=true/\Nat.ble fn.ntmps 100000=true:=by
 unfold Md at h;simp only[acX,bne,aeV]at h;exact h
theorem uQ:prog.follows .mixedOrders=true:=by kernel_rfl
section
variable (E:Ut) (sh:List (TypeId×List Sh)) (l:ClS) (n:Nat) {f:Nat} (fn:Func) (ps rs:List U)
noncomputable def clP(hf:prog.funcs[f]? = some fn:=by kernel_rfl)(h:Md ps.length fn=true:=by kernel_rfl):Cl f:=
 ⟨Vd n (clE E sh l) fn ps rs,Ct (clE E sh l).e fn (anF n fn) ps rs,Ve (yw l),Ko (BX E sh l) uQ hf (cY h).1 (cY h).2.1 (cY h).2.2.1 (cY h).2.2.2.1⟩
noncomputable def clL(hf:prog.funcs[f]? = some fn:=by kernel_rfl)(h:Md ps.length fn=true:=by kernel_rfl):Cl f:=
 ⟨UB n (clE E sh l) fn ps rs,yT ps rs fun x KK=>ao (clE E sh l).e fn (anF n fn) ps rs x KK,UC (yw l),xh (BX E sh l) uQ hf (cY h).1 (cY h).2.1 (cY h).2.2.1 (cY h).2.2.2.1 (fun _ _ h=>h)⟩
noncomputable def clN(hf:prog.funcs[f]? = some fn:=by kernel_rfl)(h:Md 0 fn=true:=by kernel_rfl):Cl f:=
 ⟨apB (ZD n (clE E sh l) fn),apT (cn (clE E sh l).e fn (anF n fn)),aaN (Xb (yw l)),aC (Fw (BX E sh l) uQ hf (cY h).1 (cY h).2.1 (cY h).2.2.2.1 (cY h).2.2.2.2)⟩
noncomputable def clM(shr:List Sh)(u:U)(hf:prog.funcs[f]? = some fn:=by kernel_rfl)(h:Md (ps.length+1) fn=true:=by kernel_rfl):Cl f:=
 ⟨ZR n (clE E sh l) fn shr u ps rs,Cr (clE E sh l).e fn (anF n fn) shr u ps rs,XJ (yw l),Kn (BX E sh l) uQ hf (cY h).1 (cY h).2.1 (cY h).2.2.1 (cY h).2.2.2.1⟩
noncomputable def clF{pre:Fl ps->Prop}(F:Fl ps->Fl rs)(pb:Fl ps->Bool)(hp:∀x,pb x=true->pre x)(h:Cont prog f (bd ps rs pre F)):Cl f:=⟨fnB ps rs pb F,_,yF hp,h⟩
theorem Sj[DecidableEq (Fl rs)](y:Fl rs)(hf:prog.funcs[f]? = some fn)(h:Md 0 fn=true)(hb:Gv n (clE E sh l) fn [] rs () (fun z=>decide (z=y))=true):Cont prog f (ap [] rs (fun _=>y)):=
 xi (e:=(clE E sh l).e) (BX E sh l) uQ hf (cY h).1 (cY h).2.1 (an:=anF n fn) (cY h).2.2.1 (cY h).2.2.2.1 (fun x KK hK=>yf (yw l) (KKb:=fun z=>decide (z=y)) (fun z hz=>by rw[of_decide_eq_true hz];exact hK) hb)
end
end Go.Am
end

section
namespace Go.Am
def Nm.sw:Nm->Nm
 |.loc i=>.out i
 |.out i=>.loc i
 |.gh v=>.gh v
theorem Nm.sw_sw:∀n:Nm,n.sw.sw=n
 |.loc _=>rfl
 |.out _=>rfl
 |.gh _=>rfl
theorem Nm.sw_tyd:∀n:Nm,n.sw.tyd=n.tyd
 |.loc _=>rfl
 |.out _=>rfl
 |.gh _=>rfl
theorem abF:NmR Nm.sw:=⟨Nm.sw_sw,Nm.sw_tyd⟩
abbrev St.sw(s:St):St:=s.rn Nm.sw
abbrev swG(γ:Gam):Gam:=rnG Nm.sw γ
section
variable {w:World} {H:FH} {γ:Gam} {F:Nm->Fp}
def qm(γ:Gam):Nat->Option Nat:=fun i=>match γ (.loc i)with
 |.blk b=>some b
 |.gh _=>none
theorem aaA{g:G}{s:St}{a a':Act}(h:RX g s.toS a w H γ F){ds:List Deferred}(h1:a'.tmps=a.tmps)(h2:a'.defers=ds):RX ⟨g.nt,g.w0,g.H0,g.own0,qm γ,g.ex,ds⟩ s.sw.toS a' w H (swG γ) (fun n=>F n.sw):=by
 refine NU abF h h1 h2 (fun j b hb=>?_);show γ (.loc j)=.blk b
 unfold qm at hb;split at hb
 ·rename_i b' hb';rw[hb'];simp only[acV]at hb;rw[hb]
 ·cases hb
end
end Go.Am
end

section
namespace Go.Am
open Go Go.RowKit Go.Proofs
end Go.Am
end
