/-
  Part 16: AmLibC · AmE15 · AmE13 · AmE16 · AmE18r · AmRen · AmE19 · AmKeys · AmG3 · AmG2 · AmL43 · AmL44 · AmG24 · AmPkL · AmPkRa · AmPkRb · AmPkRc.
-/
import Derived.Test.YtgpedlcblhiklaaGreatDoorVo15
import Derived.Test.YtgpedlcblhiklaaGreatDoorChecked
set_option linter.unusedSimpArgs false
set_option linter.unusedVariables false
set_option linter.unusedSectionVars false
set_option linter.unnecessarySimpa false
open Lt
open Go.Proofs.Tryz
open Go.IntKind (i64)
section
namespace Go.Am
open Go Go.RowKit Go.Proofs
theorem zx(w:World):Below w.heap.size w w:=Below.refl _ w
theorem JA(c:UInt8):∀l:List UInt8,-1<=Lib.indexByte l c/\Lib.indexByte l c<=(l.length:Int)
 |[]=>by simp[Lib.indexByte]
 |b::l=>by
  have:=JA c l
  grind [Lib.indexByte]
theorem yL{w:World}{H:FH}{γ:Gam}{m:Mm}{l:List UInt8}(h:l.length<=BIG):AR1 w H γ m (.c (.d (.str l))) (.string ⟨l.toArray⟩):=⟨fun _=>rfl,0,rfl,h⟩
theorem UG{w:World}{H:FH}{γ:Gam}{k:IntKind}{n:Int}{y:Value}(h:AR w H γ [] (.one (.c (.d (.int k n)))) y):y=.int k n:=by
 obtain⟨_,m,h⟩:=h;cases m<;>exact h.1
def UL:CKt:=A9 [.s,.b8] [.i .i64] (fun x=>iu x.1 x.2)
theorem V7:Cont prog 239 UL:=yk (gF (fi (fn:=f239) kQ0 (by rfl) (by rfl)) (fun x args w H γ _ hl f i a=>by
 obtain⟨s,c⟩:=x;obtain⟨u,v,rfl,h1,h2⟩:=PN (x:=.one (.c (.d (.str s)))) (y:=.one (.c (.d (.int .u8 (UInt8.toNat c:Int))))) hl f;obtain⟨rfl,hs⟩:=lg h1;have hs:List.length (α:=UInt8) s<=BIG:=hs
 obtain rfl:=UG h2;refine(Tryz.strings_IndexByte ⟨s.toArray⟩ (c.toNat:Int) w).mono ?_;rintro e w' ⟨rfl,hw⟩
 rw[hw];refine⟨_,H,rfl,zx w,fun _ _ _ h=>h,fun b o h1 h2=>absurd h2 h1,fun b o x l c h1 h2=>by grind,a,?_⟩;have g:((c.toNat:Int).toNat).toUInt8=c:=by simp
 have hi:=JA c s
 rw[qy,g];unfold BIG at hs;show AR w H γ [] (.one (.c (.d (.int .i64 (Lib.indexByte s c))))) (.int .i64 (Lib.indexByte s c))
 refine⟨fun _=>rfl,0,rfl,?_⟩;simp only[Lit.wf,aiW,decide_eq_true_eq,show i64.min=-9223372036854775808 from rfl,show i64.max=9223372036854775807 from rfl];omega))
def Zd:CKt:=A9 [.s,.s] [.s,.bo] (fun x=>mE x.1 x.2)
theorem ZX:Cont prog 238 Zd:=yk (gF (fi (fn:=f238) kQ0 (by rfl) (by rfl)) (fun x args w H γ _ hl f g a=>by
 obtain⟨s,p⟩:=x;obtain⟨u,v,rfl,h1,h2⟩:=PN (x:=.one (.c (.d (.str s)))) (y:=.one (.c (.d (.str p)))) hl f;obtain⟨rfl,hs⟩:=lg h1;have hs:List.length (α:=UInt8) s<=BIG:=hs
 obtain⟨rfl,hp⟩:=lg h2;refine(Tryz.strings_CutPrefix ⟨s.toArray⟩ ⟨p.toArray⟩ w).mono ?_;rintro e w' ⟨rfl,hw⟩
 rw[hw];refine⟨_,H,rfl,zx w,fun _ _ _ h=>h,fun b o h1 h2=>absurd h2 h1,fun b o x l c h1 h2=>by grind,a,_,rfl,?_⟩;rw[qy,qy];have hl:(Lib.trimPrefix s p).length<=BIG:=by
  grind [Lib.trimPrefix]
 show ARs w H γ [] [.c (.d (.str (Lib.trimPrefix s p))),.c (.d (.bool (Lib.hasPrefix s p)))] [_,_]
 exact⟨(yL hl:AR1 w H γ [] _ _),⟨fun _=>rfl,0,rfl⟩,trivial⟩))
def aeD:CKt:=uP [.s,.s] [.s,.s,.bo] (fun x=>Yd x.1 x.2) (fun x=>W3 x.1 x.2)
theorem ae5:Cont prog 87 aeD:=gF (fi (fn:=f87) kQ0 (by rfl) (by rfl)) (fun x args w H γ a hl g i f=>by
 obtain⟨s,p⟩:=x;obtain⟨u,v,rfl,h1,h2⟩:=PN (x:=.one (.c (.d (.str s)))) (y:=.one (.c (.d (.str p)))) hl g;obtain⟨rfl,hs⟩:=lg h1;have hs:List.length (α:=UInt8) s<=BIG:=hs
 obtain⟨rfl,hp⟩:=lg h2;have a:s.length < 4294967281:=a
 obtain⟨m,j⟩:=Dp i f (k:=0) (by rfl);refine(Tryz.strings_Cut ⟨s.toArray⟩ ⟨p.toArray⟩ m w (by grind [tZ]) j).mono ?_;rintro e w' ⟨rfl,n,rfl⟩
 refine⟨_,H,rfl,ID _ _ _,fun _ _ _ h=>h,fun b o h1 h2=>absurd h2 h1,fun b o x l c h1 h2=>by grind,f,_,rfl,?_⟩;rw[qy,qy];have hl:(Lib.cut s p).1.length<=BIG/\(Lib.cut s p).2.1.length<=BIG:=by
  grind [Lib.cut]
 show ARs _ H γ [] [.c (.d (.str (Lib.cut s p).1)),.c (.d (.str (Lib.cut s p).2.1)),.c (.d (.bool (Lib.cut s p).2.2))] [_,_,_]
 exact⟨(yL hl.1:AR1 (w.drewN n) H γ [] _ _),(yL hl.2:AR1 (w.drewN n) H γ [] _ _),⟨fun _=>rfl,0,rfl⟩,trivial⟩)
theorem xK(p:ByteArray):∀(k:Nat)(s:ByteArray),∀x∈Lib.splitB p 0 k s,x.size<=s.size
 |0,s,x,hx=>by grind [Lib.splitB_zero]
 |k+1,s,x,hx=>by
  unfold Lib.splitB at hx;split at hx
  ·grind
  ·rcases ai7.1 hx with rfl|hx
   ·grind [ByteArray.size_extract]
   ·have:=xK p k _ x hx
    grind [ByteArray.size_extract]
def UM:CKt:=uP [.s,.s] [.sl .s] (fun x=>KT x.1 x.2) (fun x=>fy x.1 x.2)
theorem V8:Cont prog 86 UM:=gF (fi (fn:=f86) kQ0 (by rfl) (by rfl)) (fun x args w H γ f hl B C a=>by
 obtain⟨s,p⟩:=x;obtain⟨u,v,rfl,h1,h2⟩:=PN (x:=.one (.c (.d (.str s)))) (y:=.one (.c (.d (.str p)))) hl B;obtain⟨rfl,hs⟩:=lg h1;have hs:List.length (α:=UInt8) s<=BIG:=hs
 obtain⟨rfl,hp⟩:=lg h2;obtain⟨f,A⟩:s.length < 4294967281/\1<=p.length:=f;obtain⟨m,D⟩:=Dp C a (k:=0) (by rfl);have r:=tZ s
 refine(Tryz.strings_Split ⟨s.toArray⟩ ⟨p.toArray⟩ m w kQ1 D (by grind [tZ])).mono ?_;rintro e w' ⟨rfl,rfl⟩
 have g:=Lib.splitB_all ⟨p.toArray⟩ (by grind [tZ]) 0 _ ⟨s.toArray⟩ rfl
 have q:=Lib.countB_le ⟨p.toArray⟩ (by grind [tZ]) _ ⟨s.toArray⟩ (ai0 _)
 have n:=xK ⟨p.toArray⟩ (Lib.countB ⟨s.toArray⟩ ⟨p.toArray⟩) ⟨s.toArray⟩
 have t:fy s p=(Lib.splitB ⟨p.toArray⟩ 0 (Lib.countB ⟨s.toArray⟩ ⟨p.toArray⟩) ⟨s.toArray⟩).map (·.data.toList):=rfl
 generalize Lib.splitB ⟨p.toArray⟩ 0 (Lib.countB ⟨s.toArray⟩ ⟨p.toArray⟩) ⟨s.toArray⟩=L at g n t⊢;rw[<- g];rw[r]at q n;refine⟨_,fun b o=>if b=w.heap.size then((L.map Value.string).toArray[o]?).map HV.c else H b o,rfl,(Below.refl _ w).alloc (ai0 _) _,fun b o y h=>?_,fun b o h1 h2=>?_,fun b o x l c h1 h2=>?_,fun b o y h=>?_,fun _=>rfl,1,?_⟩
 ·have:=(a b o y h).lt
  grind
 ·grind
 ·grind
 ·dsimp only at h;split at h
  ·rename_i hb;subst hb;obtain⟨z,hz,rfl⟩:=ajF.1 h;show World.cell? _ _=some z
   grind [World.cell?_alloc_new]
  ·exact(a b o y h).frame (cU (a b o y h).lt)
 ·show FD _ 1 (.li ((fy s p).map (ap .s))) _
  rw[t,kj];unfold BIG at hs⊢;refine⟨_,_,by rw[ai2,ai2],by simp,by grind,.inr ⟨w.heap.size,0,1,rfl,fun i hi=>?_⟩⟩;have hi:i<L.length:=by grind
  have e:((L.map (·.data.toList)).map (ap .s)).getD i []=[.str L[i].data.toList]:=by
   rw[List.getD,ai4,ai4,aiY hi];rfl
  rw[e];refine⟨rfl,fun j hj=>?_⟩;have hj:j=0:=by omega
  subst hj;refine⟨.string L[i],?_,?_⟩
  ·grind
  ·refine⟨by simp,?_⟩
   grind [ak6,Lib.size_eq])
end Go.Am
end

section
namespace Go.Am
variable{j:Nat}
section
variable {g:G} {s1:S} {a:Act} {w:World} {H1:FH} {γ:Gam} {F1:Nm->Fp}
theorem Ob(h1:RX g s1 a w H1 γ F1){o:Operand}{os:List Operand}{r:Nm}{cells:List T}(k:aH o=true/\os.all aH=true)(E:ev s1 o=.one (.c (.pl ⟨r,0,[]⟩)))(d:af s1.m r=some ⟨true,cells⟩)
  (u:(Nm.out j).tyd=r.tyd) (q:cells.all (T.self r)=true) (hfz:(os.map (ev s1)).all AV.isFz=true) {nt:Nat} (L:os.length+1<=nt) :
  ∃b f,γ r=.blk b/\RX ⟨nt,w,H1,F1 r,fun i=>if i=j then some b else none,none,[]⟩ ⟨dV 0 (.one (.c (.pl ⟨.out j,0,[]⟩))::os.map fun x=>(ev s1 x).map T.canon),[(.out j,⟨true,cells.map (T.ren r (.out j))⟩)]⟩
   ⟨((o::os).map a.eval).toArray++Array.replicate (nt - ((o::os).map a.eval).toArray.size) undef,[]⟩ w H1 f (fun _=>F1 r):=by
 have p:=aL h1 k.1
 rw[E]at p;obtain⟨_,l,ad,K,A⟩:=p;have J:=h1.mem.roots _ (ak d)
 obtain⟨b,hγr⟩:∃b,γ r=.blk b:=by
  grind [bZ]
 have v:ad=⟨b,0,none⟩:=by
  grind [plA]
 subst v;have H:0<cells.length:=by
  rw[aA]at l;obtain⟨r0,B,q2⟩:=l;dsimp only at B;rw[d]at B;obtain rfl:=Option.some.inj B;exact q2
 let f:Gam:=fun n=>if n=.out j then .blk b else γ n
 let s:Mm:=[(.out j,⟨true,cells.map (T.ren r (.out j))⟩)]
 let g1:G:=⟨nt,w,H1,F1 r,fun i=>if i=j then some b else none,none,[]⟩
 have y:f (.out j)=.blk b:=by grind
 have M:bZ w H1 f s (.out j) ⟨true,cells.map (T.ren r (.out j))⟩ (F1 r):=
  vC J u q hγr d y ⟨cells.map (T.ren r (.out j)),by simp[s,af],by simp⟩
 have C:∀c,F1 r c<=tot F1 s1.m c:=fun c=>bX (F:=F1) (ak d) c
 let I:Nm->Fp:=fun _=>F1 r
 have t:∀c,tot I s c=F1 r c:=fun c=>(Nat.add_zero (F1 r c))
 have D:Mem w H1 f s I:=by
  refine⟨h1.mem.agree,fun x hx=>?_,by simp[s],fun c=>by rw[t];exact ajJ (C c) (h1.mem.le1 c),fun c hc=>by rw[t]at hc;exact h1.mem.lt c (by grind),fun c hc=>by rw[t]at hc;exact h1.mem.nofz c (by grind)⟩
  grind
 refine⟨b,f,hγr,?_⟩;refine⟨D,⟨ai0 _,rfl,rfl,rfl,fun _ _ _=>rfl,fun _ _ _ h=>h,fun b o h2 h3=>absurd h3 h2,fun c hc=>.inl (by grind),qY⟩,?_,⟨rfl,fun i b' e=>?_,kl h1⟩,fun i=>?_⟩
 ·grind
 ·grind
 ·have hget:∀x,(o::os)[i]? = some x->(((o::os).map a.eval).toArray++Array.replicate (nt - ((o::os).map a.eval).toArray.size) undef).getD i undef=a.eval x:=by
   intro x hx;rw[akQ,akJ (by grind)]
   grind
  cases i with
  |zero=>
   rw[G.tv_none rfl,hget o rfl,A];simp only[dV,bd,if_true];refine⟨fun _=>rfl,?_,⟨b,0,none⟩,?_,rfl⟩
   ·rw[aA];refine⟨⟨true,cells.map (T.ren r (.out j))⟩,by simp[s,af],?_⟩;show 0 < (cells.map (T.ren r (.out j))).length
    grind
   grind [plA]
  |succ i=>
   have z:bd (dV 0 (.one (.c (.pl ⟨.out j,0,[]⟩))::os.map fun x=>(ev s1 x).map T.canon)) (i+1)=((os.map fun x=>(ev s1 x).map T.canon)[i]?).getD .any:=by
    grind [jv]
   show AR w H1 f s (bd (dV 0 (.one (.c (.pl ⟨.out j,0,[]⟩))::os.map fun x=>(ev s1 x).map T.canon)) (i+1)) _
   rw[z,ai4];cases hi:os[i]? with
   |none=>simp only[Option.map_none,Option.getD_none];trivial
   |some x=>
    have hx:=aL h1 (ajB.1 k.2 x (akI hi))
    simp only[Option.map_some,akG];have hz:(ev s1 x).isFz=true:=ajB.1 hfz (ev s1 x) (alI (akI hi))
    rw[G.tv_none rfl,hget x (by grind)];exact iK fu (yN (fun _ _ _ h=>h) hz hx)
theorem TY(h1:RX g s1 a w H1 γ F1){r:Nm}{cells:List T}(B:af s1.m r=some ⟨true,cells⟩)(N:(Nm.out j).tyd=r.tyd){b:Nat}(hγr:γ r=.blk b){nt:Nat}{s2:S}{a':Act}{w':World}{D:FH}{γ':Gam}{A:Nm->Fp}
  (H:RX ⟨nt,w,H1,F1 r,fun i=>if i=j then some b else none,none,[]⟩ s2 a' w' D γ' A) {d:List T} (z:af s2.m (.out j)=some ⟨true,d⟩) (ai:d.length=cells.length) (hs2:d.all (T.self (.out j))=true) :
  ∃F3,RX g ⟨oP (lQ r) s1.t,(r,⟨true,d.map (T.ren (.out j) r)⟩)::aP (lQ r) (cv s1.m r)⟩ a w' D γ F3:=by
 have ag:∀c,F1 r c<=tot F1 s1.m c:=fun c=>bX (F:=F1) (ak B) c
 have k:=H.fr
 dsimp only at k;have hd:=ym h1 r
 have P:(s1.drop r).m=aP (bU r) (cv s1.m r):=rfl
 have l:=hd.mem
 rw[P]at l;generalize hmd0:aP (bU r) (cv s1.m r)=md at l;have u:∀c,tot F1 md c+F1 r c=tot F1 s1.m c:=fun c=>by
  grind [bu,qb]
 have s:∀c,tot F1 md c≠0->w'.heap[c]? = w.heap[c]? := fun c hc=>
  k.block c (h1.mem.lt c (by grind)) (by have:=u c;have:=h1.mem.le1 c;omega)
 have I:∀c,c<w.heap.size->F1 r c=0->H1 c=D c:=by
  intro c hc h0
  funext o
  cases hh:H1 c o with
  |some y=>rw[k.hold c o y hh]
  |none=>
   cases ah:D c o with
   |none=>rfl
   |some y=>
    rcases k.hnew c o (by grind) hh with h'|h'
    all_goals omega
 have V:=gH (w':=w') l s
 have ab:Mem w' D γ md F1:=by
  refine⟨H.mem.agree,fun x hx=>bh V k.hold rfl (fun c hc=>s c (by grind [bX])) (l.roots x hx),l.keys,l.le1,fun c hc=>by grind [Mem.lt],fun c hc o=>?_⟩;rw[<- I c (l.lt c hc) (by have:=u c;have:=h1.mem.le1 c;omega)];exact l.nofz c hc o
 have K:=H.mem.roots _ (ak z)
 have O:γ' (.out j)=.blk b:=H.df.2.1 j b (by simp)
 have v:af md r=none:=by rw[<- hmd0];exact W6 h1.mem.keys
 have G:upd γ r (.blk b)=γ:=by
  grind [fF,oE]
 have U:bZ w' D (upd γ r (.blk b)) ((r,⟨true,d.map (T.ren (.out j) r)⟩)::md) r ⟨true,d.map (T.ren (.out j) r)⟩ (A (.out j)):=
  vC K N.symm hs2 O z fF ⟨d.map (T.ren (.out j) r),by grind [af],by simp⟩
 have al:∀c,A (.out j) c<=tot A s2.m c:=fun c=>bX (F:=A) (ak z) c
 have X:∀c,A (.out j) c≠0->F1 r c≠0\/w.heap.size<=c:=fun c hc=>k.tt c (by grind)
 have L:∀c,A (.out j) c≠0->tot F1 md c=0:=fun c hc=>by
  rcases X c hc with h'|h'
  ·have:=u c;have:=h1.mem.le1 c;omega
  grind [Mem.lt]
 obtain⟨M,ad⟩:=Ew ab (n:=r) (rc:=.blk b) (r:=⟨true,d.map (T.ren (.out j) r)⟩) (f:=A (.out j)) v U (fun c=>by
   by_cases hc:A (.out j) c=0
   ·grind [Mem.le1]
   ·have:=L c hc;have:=H.mem.le1 c;grind)
  (fun c hc=>⟨H.mem.lt c (by grind),H.mem.nofz c (by grind)⟩)
 rw[G]at M;have am:Fr w H1 (tot F1 s1.m) w' D (tot (upd F1 r (A (.out j))) ((r,⟨true,d.map (T.ren (.out j) r)⟩)::md)):=by
  refine⟨k.size,k.os,k.tape,k.output,fun c hc h0=>k.block c hc (by grind),k.hold,fun c o h2 h3=>?_,fun c hc=>?_,k.nz⟩
  all_goals grind
 have J:KeepsB (lQ r) w γ s1.m w' γ ((r,⟨true,d.map (T.ren (.out j) r)⟩)::md):=by
  have aa:=ql (w:=w') (γ:=γ) (rc:=.blk b) (r:=⟨true,d.map (T.ren (.out j) r)⟩) v
  rw[G]at aa;have ae:KeepsB (bU r) w γ s1.m w γ md:=by grind [fp]
  constructor
  ·intro q p hq;by_cases C:q.root=r
   ·obtain⟨qr,qo,qp⟩:=q;dsimp only at C;subst C;simp only[lQ,decide_true,ajT,Bool.false_or,Bool.not_eq_false',List.isEmpty_iff]at p;subst p;refine⟨?_,by rfl⟩;rw[aA]at hq⊢;obtain⟨r0,Q,q2⟩:=hq;dsimp only at Q q2;rw[B]at Q;obtain rfl:=Option.some.inj Q;refine⟨⟨true,d.map (T.ren (.out j) qr)⟩,by grind [af],?_⟩;have aj:qo<cells.length:=q2
    show qo < (d.map (T.ren (.out j) qr)).length
    grind
   grind [KeepsB.pl,bU,Keeps.pl,Keeps.pl]
  grind [lQ,KeepsB.rf,bU,Keeps.rf,Keeps.rf]
 have Z:af ((r,(⟨true,d.map (T.ren (.out j) r)⟩:Root))::aP (lQ r) (cv s1.m r)) r=some ⟨true,d.map (T.ren (.out j) r)⟩:=by grind [af]
 have E:KeepsB (lQ r) w γ s1.m w' γ ((r,⟨true,d.map (T.ren (.out j) r)⟩)::aP (lQ r) (cv s1.m r)):=by
  constructor
  ·intro q p hq;refine⟨?_,(J.pl q p hq).2⟩;by_cases C:q.root=r
   ·have h:=(J.pl q p hq).1
    grind [aA,af]
   ·have h2:cj (aP (lQ r) (cv s1.m r)) q:=sT (by grind [aA,mF])
    grind [aA,af]
  ·intro q p hq;have C:q.root≠r:=by
    grind [lQ]
   refine⟨?_,(J.rf q p hq).2⟩;have h2:iG (aP (lQ r) (cv s1.m r)) q:=sU (by grind [iG,mF])
   grind [iG,af]
 have Y:∀W:Nm->Fp,tot W ((r,(⟨true,d.map (T.ren (.out j) r)⟩:Root))::aP (lQ r) (cv s1.m r))=tot W ((r,⟨true,d.map (T.ren (.out j) r)⟩)::md):=fun W=>by
  grind [eT,bu]
 have R:Mem w' D γ ((r,⟨true,d.map (T.ren (.out j) r)⟩)::aP (lQ r) (cv s1.m r)) (upd F1 r (A (.out j))):=by
  refine⟨M.agree,fun x hx=>?_,?_,fun b=>by rw[Y];exact M.le1 b,fun b hb=>M.lt b (by simp_all),fun b hb=>M.nofz b (by simp_all)⟩
  ·rcases ai7.1 hx with rfl|hx
   ·grind [fF,vC]
   ·simp only[aP,ajK]at hx;obtain⟨x0,hx0,rfl⟩:=hx;dsimp only;have ac:x0.1≠r:=fun e=>qX (n:=r) h1.mem.keys (by grind)
    rw[oE ac];refine sg E k.hold rfl (fun c hc=>s c ?_) (h1.mem.roots x0 (AK hx0))
    grind [bX,bu]
  ·have:=M.keys
   grind [nZ]
 refine⟨_,jR h1 R (by grind) (fun i=>?_) (fun _=>rfl)⟩;rw[sJ];exact yj E k.hold (h1.t i)
end
theorem aaK{α β:Type}{r:Except Value α×β}{K K':α->β->Prop}{KP:Value->β->Prop}(h:∀x y,K x y->K' x y)(hr:exP r K KP):exP r K' KP:=by
 grind [exP]
variable{an:An}{fn:Func}{ps rs:List U}{sh:List Sh}{u:U}
theorem LY{e:En}(he:e.ok)(hm:e.P.follows .mixedOrders=true){f:Nat}(hf:e.P.funcs[f]? = some fn) (U:(fn.name == "runtime.NumGoroutine")=false) (hb:fn.body.isSome=true)    
  (aa:Nat.ble (ps.length+1) fn.ntmps=true) (hc:kz fn.ntmps (fn.body.getD .skip)=true):Cont e.P f (Qz e fn an sh u ps rs):=by
 have am:fn.body=some (fn.body.getD .skip):=by cases h:fn.body<;>grind
 refine⟨Gb hf U hb,fun pk s ops k k' hk l=>?_,fun g pk s a w H γ F1 ops k hX az l=>?_⟩
 ·unfold Qz at l⊢;split at l
  ·omega
  ·dsimp only at l⊢;split at l
   ·split at l
    ·split at l
     ·split at l
      ·split at l
       ·obtain⟨KK,KP,b1,b2,b3⟩:=l;refine⟨KK,KP,b1,fun z x' hz=>hk _ _ ?_ (b2 z x' hz),b3⟩;exact((fo _ _).trans (dJ _ _ _ _ _)).trans ⟨ajV _,iL (ai0 _),((oY _).trans (eY (ai0 _))).trans (mi _ _ _ (ai0 _))⟩
       omega
      omega
     omega
    omega
   omega
 ·unfold Qz at l;cases ops with
  |nil=>grind
  |cons o os=>
   dsimp only at l;have B:aH o=true/\os.all aH=true:=by grind
   obtain⟨H1,F2,h1⟩:=km (os.map (evA s)) s H F1 hX;generalize fb s (os.map (evA s))=s1 at l h1;split at l
   ·rename_i r aA;obtain⟨H2,Q,F3,h2⟩:=dZ (g:=g) r (kw u) sh 0 (Zp h1);generalize bR s1 r (kw u) sh 0=s2 at l h2;split at l
    ·rename_i n ad;split at l
     ·rename_i cells aC Y V;have ap:n=r:=by grind
      subst ap;split at l
      ·rename_i ts R;split at l
       ·rename_i x y hx hy;have aw:=gR h2
        obtain⟨c1,c2,c3⟩:=kq hy;obtain⟨k1,_⟩:=yE R (nG hx);have p:af s2.toS.m n=some ⟨true,cells.map Tt.toT⟩:=by
         have:=bz V
         exact this
        have W:os.length=ps.length:=by
         grind [jo]
        obtain⟨b,ai,hγr,ae⟩:=Ob (j:=0) h2 B (by rw[ah B.1,ad];rfl) p (by rw[Y];rfl) (sv R).1 (by grind [Qr]) (nt:=fn.ntmps) (by rw[W];exact ajA aa);have I:=C1 ae (.out 0)
        have e0:(⟨1,(0,0,.one (.c (.pl ⟨.out 0,0,[]⟩)))::SC 1 ps y,[(.out 0,0,⟨true,bO sh (flat u x),none⟩)]⟩:St).toS=⟨dV 0 (.one (.c (.pl ⟨.out 0,0,[]⟩))::os.map fun x=>(ev s2.toS x).map T.canon),[(Nm.out 0,(⟨true,(cells.map Tt.toT).map (T.ren n (.out 0))⟩:Root))].map fun x=>(x.1,if x.1=.out 0 then lR x.2 else x.2)⟩:=by
         have L:(os.map fun x=>(ev s2.toS x).map T.canon)=lc ps y:=by
          have e:(os.map fun x=>(ev s2.toS x).map T.canon)=(os.map (ev s2.toS)).map (AV.map T.canon):=by rw[aj9];rfl
          grind [Qr]
         rw[L];refine b9.S_ext ?_ ?_
         ·simp only[St.toS,aiZ,dV,uk];rfl
         ·rw[(sv R).2]
          grind [Rt.toR,holed,lR]
        rw[<- e0]at I;obtain⟨KK,KP,h,ax,ao⟩:=l;have M:∀{s':S}{a':Act}{w':World}{H':FH}{γ':Gam}{F':Nm->Fp}{d D:List Tt}{q:El u},RX ⟨fn.ntmps,w,H2,F3 n,fun i=>if i=0 then some b else none,none,[]⟩ s' a' w' H' γ' F' ->
          af s'.m (.out 0)=some ⟨true,d.map Tt.toT⟩->iH sh d=some D->nF u D=some q ->
          ∃F4,RX g (⟨s2.nx+1,oO (mr n) s2.nx s2.t,(n,s2.nx,⟨true,bO sh (flat u q),none⟩)::cT (mr n) s2.nx (gi s2.m n)⟩:St).toS a w' H' Q F4:=by
         intro s' a' w' H' γ' F' d D q N ab q2 Z;obtain⟨k3,_⟩:=yE q2 (nG Z);have hl:(d.map Tt.toT).length=(cells.map Tt.toT).length:=by
          have l2:∀(sh:List Sh)(a b:List C),a.length=b.length->(bO sh a).length=(bO sh b).length:=by
           intro sh;induction sh with
           |nil=>intro a b _;rfl
           |cons s r ih=>
            intro a b aD;have aq:∀(c:C)(cs:List C),(bO (s::r) (c::cs)).length=(bO r cs).length+1:=by
             intro c cs;cases s<;>cases c<;>rfl
            cases a with
            |nil=>grind
            |cons c cs=>cases b<;>grind
          grind [xx,ai2]
         obtain⟨F4,hX'⟩:=TY (j:=0) h2 p (by rw[Y];rfl) hγr N ab hl (sv q2).1;refine⟨F4,?_⟩;have aB:=C1 hX' n
         have ak:((n,(⟨true,(d.map Tt.toT).map (T.ren (.out 0) n)⟩:Root))::aP (lQ n) (cv s2.toS.m n)).map (fun x=>(x.1,if x.1=n then lR x.2 else x.2))=(n,⟨true,(bO sh (flat u q)).map Tt.toT⟩)::aP (lQ n) (cv s2.toS.m n):=by
          simp only[aiZ,if_true]
          congr 1
          ·grind [D3,lR]
          ·refine(ajG fun z hz=>?_).trans (List.map_id _);have aE:z.1≠n:=by
            intro e;have ag:z.1∈(aP (lQ n) (cv s2.toS.m n)).map (·.1):=alI (f:=(·.1)) hz
            have N:(aP (lQ n) (cv s2.toS.m n)).map (·.1)=(cv s2.toS.m n).map (·.1):=by simp only[aP,aj9];rfl
            rw[N,e]at ag;exact qX h2.mem.keys ag
           grind
         have ay:(⟨s2.nx+1,oO (mr n) s2.nx s2.t,(n,s2.nx,⟨true,bO sh (flat u q),none⟩)::cT (mr n) s2.nx (gi s2.m n)⟩:St).toS=⟨oP (lQ n) s2.toS.t,(n,⟨true,(bO sh (flat u q)).map Tt.toT⟩)::aP (lQ n) (cv s2.toS.m n)⟩:=by
          refine b9.S_ext (qJ _ _ _) ?_;simp only[St.toS,aiZ]
          congr 1
          have:=fB (mr n) s2.nx (gi s2.m n)
          rw[pu _ _ aw]at this;exact this
         grind
        refine calls_of_wp hf am (Code.wp_mono (fun ex a' w' hl=>?_) (rZ (e:=⟨e.P,e.E,e.cs,e.sh,Yw sh u KP⟩) he hm (g:=⟨fn.ntmps,w,H2,F3 n,fun i=>if i=0 then some b else none,none,[]⟩) _ an _ _ hc h _ w ⟨H2,ai,_,I⟩));obtain⟨s',hq,hR⟩:=hl;have fin:∀t:St,s'=t.toS->QF e.P fn.results.toList sh u rs KK t ->
          a'.defers=[]/\∃v,(results fn a'.tmps).run e.P w'=.ok v w'/\pj g a pk k (.returned v) w':=by
         rintro t rfl J
         unfold QF at J;dsimp only at J;have A:=dZ (.out 0) (kw u) sh 0 (sf fn.results.toList hR)
         generalize bR (pE t fn.results.toList) (.out 0) (kw u) sh 0=s3 at J A;have ac:=sG (us:=rs) (k:=fun vs=>match dc rs vs,cw s3.m (.out 0)with
          |some ar,some ⟨true,cells,none⟩=>match iH sh cells with
           |some ts=>match nF u ts with
            |some av=>KK (ar,av)
            |none=>False
           |none=>False
          |_,_=>False) (by
           intro vs G;split at G
           all_goals grind) J
         have al:=lL (us:=rs) (K:=fun r=>∃cells ts q,cw s3.m (.out 0)=some ⟨true,cells,none⟩/\iH sh cells=some ts/\nF u ts=some q/\KK (r,q)) (ad0 A) (by
           intro vs G;split at G
           ·rename_i x1 d h1 h2;split at G
            ·rename_i ts h3;split at G
             all_goals grind
            grind
           grind) J
         obtain⟨Hs,au,Fs,X⟩:=A;obtain⟨y0,v,H4,F4,L,N,e3,e4,r0,e5,d,D,q,q1,q2,Z,q4⟩:=Yt X rfl (QD ac (K:=fun v=>∃r,v=(gy rs r).toV/\∃cells ts q,cw s3.m (.out 0)=some ⟨true,cells,none⟩/\iH sh cells=some ts/\nF u ts=some q/\KK (r,q)) (fun r hr=>⟨r,rfl,hr⟩) al);rw[ac]at N e3;obtain⟨F5,O⟩:=M N (bz q1) q2 Z;refine⟨N.df.1,y0,L,.inl ⟨y0,_,gy rs r0,H4,Q,F5,rfl,ax _ _ q4,?_,O⟩⟩;rw[<- e5];exact iK fu (yN (fun _ _ _ h=>h) e4 e3)
        cases ex with
        |normal=>obtain⟨t,L,J⟩:=hq;exact fin t L J
        |ret=>obtain⟨t,L,J⟩:=hq;exact fin t L J
        |exit i=>obtain⟨t,L,J⟩:=hq;grind
        |panic c=>
         obtain⟨v,t,rfl,rfl,hv⟩:=hq;unfold Yw at hv;dsimp only at hv;have A:=dZ (.out 0) (kw u) sh 0 hR
         have aj:a'.defers=[]:=by obtain⟨_,_,_,hX'⟩:=hR;exact hX'.df.1
         generalize bR t (.out 0) (kw u) sh 0=s3 at hv A;split at hv
         ·rename_i d q1;split at hv
          ·rename_i D q2;split at hv
           ·rename_i q Z;obtain⟨Hs,au,Fs,X⟩:=A;obtain⟨F5,O⟩:=M X (bz q1) q2 Z;exact⟨aj,.inr ⟨v,_,rfl,ao _ _ hv,Hs,Q,F5,O⟩⟩
           grind
          grind
         grind
        |_=>exact hq.elim
       grind
      grind
     grind
    grind
   grind
variable{e:En}{f:Nat}
theorem Cp(he:e.ok)(l:e.P.follows .mixedOrders=true)(hf:e.P.funcs[f]? = some fn) (c:(fn.name == "runtime.NumGoroutine")=false) (hb:fn.body.isSome=true) {an:An} {sh:List Sh} {u:U} {ps rs:List U} {pre:El u->Fl ps->Prop} {Fn:El u->Fl ps->Except Value (Fl rs)×El u}
  (i:Nat.ble (ps.length+1) fn.ntmps=true) (hc:kz fn.ntmps (fn.body.getD .skip)=true) (j:∀x y,pre x y->∀(KK:Fl rs×El u->Prop)(KP:Value->El u->Prop),exP (Fn x y) (fun z x'=>KK (z,x')) KP->yq e fn an sh u ps rs x y KK KP):Cont e.P f (KU sh u ps rs pre Fn):=by
 have h:=LY he l hf c hb (an:=an) (sh:=sh) (u:=u) (ps:=ps) (rs:=rs) i hc
 refine⟨h.run,fun pk s ops k k' hk b=>?_,fun g pk s a w H γ F ops k hX d b=>h.call g pk s a w H γ F ops k hX d ?_⟩
 ·unfold KU at b⊢;split at b
  ·omega
  ·dsimp only at b⊢
   (repeat' split at b)<;>first|exact b.elim|skip
   refine⟨b.1,aaK (fun z x' hz=>hk _ _ ?_ hz) b.2⟩;exact((fo _ _).trans (dJ _ _ _ _ _)).trans ⟨ajV _,iL (ai0 _),((oY _).trans (eY (ai0 _))).trans (mi _ _ _ (ai0 _))⟩
 ·unfold KU at b;unfold Qz;split at b
  ·omega
  ·dsimp only at b⊢
   (repeat' split at b)<;>first|exact b.elim|skip
   rename_i x y _ _;refine⟨fun z=>Fn x y=(.ok z.1,z.2),fun v x'=>Fn x y=(.error v,x'),j _ _ b.1 _ _ ?_,fun z x' hz=>?_,fun v x' hv=>?_⟩
   ·generalize Fn x y=r;obtain⟨r1,r2⟩:=r;cases r1<;>rfl
   ·have h2:=b.2;rw[show Fn x y=(.ok z,x')from hz]at h2;exact h2
   ·have h2:=b.2;rw[hv]at h2;exact h2
theorem GC{e:En}(he:e.ok)(j:e.P.follows .mixedOrders=true){g:G}(k:g.nt=fn.ntmps)(hc:kz fn.ntmps (fn.body.getD .skip)=true){x:Fl ps}{KK:Fl rs->Prop}{K:AV->Prop}
  (f:∀r,KK r->K (gy rs r).toV) (h:IH e fn an ps rs x KK):AW e.P g (fn.body.getD .skip) (agL e.P fn.results.toList K) ⟨dV 0 (lc ps x),[]⟩:=by
 have h1:=rZ (e:=⟨e.P,e.E,e.cs,e.sh,fun _ _=>False⟩) he j (g:=g) _ an (MM ps x) _ (by grind) h
 have e0:(MM ps x).toS=⟨dV 0 (lc ps x),[]⟩:=b9.S_ext (uk 0 ps x) rfl
 rw[e0]at h1;refine yO h1 (fun ex s' a w h' d=>?_);cases ex with
 |normal=>
  obtain⟨t,rfl,b⟩:=h';exact Ga f b d
 |ret=>
  obtain⟨t,rfl,b⟩:=h';exact Ga f b d
 |exit i=>exact h'.elim (fun t b=>b.2.elim)
 |panic c=>obtain⟨_,_,_,_,hf⟩:=h';grind
 |_=>exact h'.elim
theorem ah5(a:scU u=true)(x:El u):∀{H H':FH}{y:Value},FDx H (am u x).toD y->FDx H' (am u x).toD y:=by
 intro H H' y h;cases u with
 |i k=>obtain⟨rfl,h2⟩:=fH h;exact⟨0,rfl,h2⟩
 |b8=>obtain⟨rfl,h2⟩:=fH h;exact⟨0,rfl,h2⟩
 |bo=>obtain rfl:=jl h;exact⟨0,rfl⟩
 |s=>obtain⟨rfl,h2⟩:=il h;exact⟨0,rfl,h2⟩
 |_=>cases a
theorem acI(a:scU u=true)(x:El u):Cm u x=.c (.d (am u x)):=by cases u<;>first|rfl|cases a
theorem ah4{w w':World}{H H':FH}{γ γ':Gam}{m m':Mm}:∀{rs:List U}{y:Fl rs}{z:Value},rs.all scU=true->AR w H γ m (gy rs y).toV z->AR w' H' γ' m' (gy rs y).toV z:=by
 have one:∀{u:U}{x:El u}{z:Value},scU u=true->AR1 w H γ m (Cm u x).toV z->AR1 w' H' γ' m' (Cm u x).toV z:=by
  intro u x z a h;rw[acI a]at h⊢;exact⟨h.1,ah5 a x h.2⟩
 have all:∀(rs:List U)(y:Fl rs)(zs:List Value),rs.all scU=true->ARs w H γ m ((gy.resL rs y).map A1.toV) zs->ARs w' H' γ' m' ((gy.resL rs y).map A1.toV) zs:=by
  intro rs;induction rs with
  |nil=>intro y zs _ h;cases zs with
   |nil=>trivial
   |cons _ _=>exact h.elim
  |cons u r ih=>
   intro y zs hs h;simp only[ajE,aiW]at hs;cases zs with
   |nil=>exact h.elim
   |cons z zs=>exact⟨one hs.1 h.1,ih _ zs hs.2 h.2⟩
 intro rs y z hs h
 match rs,y with
 |[],_=>obtain⟨l,h1,h2⟩:=h;exact⟨l,h1,all [] () _ rfl h2⟩
 |[u],y=>
  simp only[ajE,alC,akK]at hs;have e:(gy [u] y).toV=.one (Cm u y).toV:=by show(BC u y).toV=_;rw[vh];rfl
  rw[e]at h⊢;exact one hs h
 |u::v::r,y=>obtain⟨l,h1,h2⟩:=h;exact⟨l,h1,all (u::v::r) y _ hs h2⟩
section
variable {P:Program} {g:G} {a:Act} {w:World} {H:FH} {γ:Gam} {F:Nm->Fp}
theorem Ln{s:St}{p:Pl}{l:List (El u)}{r:Rt}(hr:cw s.m p.root=some r)(k:r.hole=none)(h:sliceAt s.m p=some ⟨sh,u,l⟩)(hp:okP s.toS.m p):aZ s.toS.m p=some (.ow sh (l.map (ap u))):=by
 unfold sliceAt at h;split at h
 ·rename_i t u' l' b;cases h;have e:r.toR=⟨r.blk,r.cells.map Tt.toT⟩:=by unfold Rt.toR;rw[k];rfl
  have i:af s.toS.m p.root=some ⟨r.blk,r.cells.map Tt.toT⟩:=by rw[<- e];exact bz hr
  unfold atT at b;rw[hr]at b;dsimp only at b;unfold aZ;rw[i];dsimp only;cases a:p.path with
  |nil=>
   rw[a]at b;dsimp only at b⊢;split at b
   ·simp only[aiX]at b;have:(r.cells.drop p.off)[0]? = some (.ow sh u l):=by
     grind [akP]
    rw[ak7,Nat.add_zero]at this;rw[ai4,this];rfl
   grind
  |cons st q=>
   rw[a]at b;dsimp only at b⊢;split at b
   ·rename_i sub n l2 _ hc;unfold okP at hp;rw[a]at hp;obtain⟨v,j,l',g,f,o⟩:=hp;rw[i]at g;obtain rfl:=Option.some.inj g;dsimp only at f;have d:(r.cells.map Tt.toT)[p.off]? = some (.ow sub (l2.map (ap n))):=by rw[ai4,hc];rfl
    rw[d]at f;have c:=Option.some.inj f
    simp only[T.ow.injEq]at c;obtain⟨rfl,rfl⟩:=c;rw[d];dsimp only;rw[Ao o b]
   grind
 grind
def mO(w:World)(H:FH)(t:Fp):FH:=fun b o=>if t b≠0 then(w.cell? ⟨b,o,none⟩).map HV.c else H b o
theorem uA{s:S}(h:RX g s a w H γ F):∀b o y,H b o=some y->mO w H (tot F s.m) b o=some y:=by
 intro b o y hy;unfold mO;split
 ·rename_i hb;rw[h.mem.nofz b hb o]at hy;cases hy
 omega
theorem Kj{s:S}(h:RX g s a w H γ F):∀b o y,mO w H (tot F s.m) b o=some y->RdV w b o y:=by
 intro b o y hy;unfold mO at hy;split at hy
 ·obtain⟨z,hz,rfl⟩:=ajF.1 hy;exact hz
 ·exact h.mem.agree b o y hy
theorem NG(s:St)(v:At):lent s v=v\/∃p r sh u l,v=.one (.c (.rf p))/\lent s v=sct (.li u l)/\cw s.m p.root=some r/\r.hole=none/\sliceAt s.m p=some ⟨sh,u,l⟩:=by
 unfold lent
 grind
theorem abI{s:St}(h:RX g s.toS a w H γ F){v:At}{z:Value}(hv:AR w H γ s.toS.m v.toV z)(hz:(lent s v).toV.isFz=true):AR w (mO w H (tot F s.toS.m)) γ [] (lent s v).toV z:=by
 rcases NG s v with e|⟨p,r,sh,u,l,rfl,e,hr,d,hs⟩
 ·grind [yN,uA]
 ·rw[e];have i:=Ln hr d hs (pQ hv.2.1)
  obtain⟨f,y,c,⟨k,j⟩,n,_⟩:=zc h.mem (fC hv.2.1) i;rw[hv.2.2]at c;obtain rfl:=Option.some.inj c;refine⟨fun _=>rfl,Vm (uA h) k _ _ f _ j (fun b hb o x hx=>?_)⟩
  grind [mO]
theorem XG{s:St}(h:RX g s.toS a w H γ F){ops:List Operand}(c:ops.all aH=true){x:Fl ps}(hx:dc ps (ops.map fun x=>lent s (evA s x))=some x){nt:Nat}(d:ops.length<=nt) :
  RX ⟨nt,w,mO w H (tot F s.toS.m),fun _=>0,fun _=>none,none,[]⟩ ⟨dV 0 (lc ps x),[]⟩ ⟨(ops.map a.eval).toArray++Array.replicate (nt - (ops.map a.eval).toArray.size) undef,[]⟩ w (mO w H (tot F s.toS.m)) γ F:=by
 obtain⟨f,c2,c3⟩:=kq hx;refine⟨⟨Kj h,fun x hx=>by grind,by simp,fun b=>ajW _,fun b hb=>absurd rfl hb,fun b hb=>absurd rfl hb⟩,⟨ai0 _,rfl,rfl,rfl,fun _ _ _=>rfl,fun _ _ _ h=>h,fun b o h2 h3=>absurd h3 h2,fun b hb=>absurd rfl hb,qY⟩,?_,⟨rfl,fun j b e=>by simp at e,y6 (uA h) (kl h)⟩,fun i=>?_⟩
 ·grind
 ·show AR w _ γ [] (bd (dV 0 (lc ps x)) i) (Array.getD _ i undef)
  rw[<- c3,jv];simp only[ajW,if_true,Nat.sub_zero,ai4];cases hi:ops[i]? with
  |none=>simp only[Option.map_none,Option.getD_none];trivial
  |some y=>
   have hop:=ajB.1 c y (akI hi)
   have hy:=aL h hop
   rw[ah hop]at hy;simp only[Option.map_some,akG];have hz:(lent s (evA s y)).toV.isFz=true:=by
    grind
   have hget:((ops.map a.eval).toArray++Array.replicate (nt - (ops.map a.eval).toArray.size) undef).getD i undef=a.eval y:=by
    rw[akQ,akJ (by grind)];simp[hi]
   rw[hget];exact iK fu (abI h hy hz)
theorem Ra{s1:S}(h1:RX g s1 a w H γ F){w':World}{j:FH}{tt:Fp}(d:Fr w (mO w H (tot F s1.m)) (fun _=>0) w' j tt)(q:∀b o y,j b o=some y->RdV w' b o y) :
  RX g s1 a w' (fun b o=>if tot F s1.m b≠0 then none else j b o) γ F:=by
 have hold:∀b,b<w.heap.size->w'.heap[b]? = w.heap[b]? := fun b hb=>d.block b hb rfl
 have e:∀b,tot F s1.m b≠0->w'.heap[b]? = w.heap[b]? := fun b hb=>hold b (h1.mem.lt b hb)
 have n:=gH (w':=w') h1.mem e
 have f:∀b o y,H b o=some y->(if tot F s1.m b≠0 then none else j b o)=some y:=by
  intro b o y hy;split
  ·rename_i hb;rw[h1.mem.nofz b hb o]at hy;cases hy
  ·exact d.hold b o y (uA h1 b o y hy)
 have hnew:∀b o,(if tot F s1.m b≠0 then none else j b o)≠none->H b o=none->w.heap.size<=b:=by
  intro b o h2 h3;split at h2
  ·grind
  ·rename_i hb;have h4:mO w H (tot F s1.m) b o=none:=by grind [mO]
   rcases d.hnew b o h2 h4 with h'|h'
   all_goals omega
 have k:Mem w' (fun b o=>if tot F s1.m b≠0 then none else j b o) γ s1.m F:=by
  refine⟨fun b o y hy=>?_,fun x hx=>bh n f rfl (fun b hb=>e b (by grind [bX])) (h1.mem.roots x hx),h1.mem.keys,h1.mem.le1,fun b hb=>by have:=h1.mem.lt b hb;grind,fun b hb o=>?_⟩
  all_goals grind
 have p:Fr w H (tot F s1.m) w' (fun b o=>if tot F s1.m b≠0 then none else j b o) (tot F s1.m):=
  ⟨d.size,d.os,d.tape,d.output,fun b hb _=>hold b hb,f,fun b o h2 h3=>.inr (hnew b o h2 h3),fun b hb=>.inl hb,d.nz.1,fun b o x l c h2 h3=>by
   grind [Fr.nz,mO]⟩
 exact jR h1 k p (fun i=>dy n f (h1.t i)) (fun _=>rfl)
theorem LX(he:e.ok)(u:e.P.follows .mixedOrders=true)(hf:e.P.funcs[f]? = some fn) (c:(fn.name == "runtime.NumGoroutine")=false) (hb:fn.body.isSome=true)   {Φ:Fl ps->(Fl rs->Prop)->Prop}
  (i:Nat.ble ps.length fn.ntmps=true) (hc:kz fn.ntmps (fn.body.getD .skip)=true) (n:∀x KK,Φ x KK->IH e fn an ps rs x KK):Cont e.P f (Qi ps rs Φ):=by
 have o:fn.body=some (fn.body.getD .skip):=by cases h:fn.body<;>grind
 refine⟨Gb hf c hb,fun pk s ops k k' hk b=>?_,fun g pk s a w H γ F ops k hX d b=>?_⟩
 ·grind [Qi,Ext.refl]
 ·unfold Qi at b;split at b
  rotate_left
  ·grind
  rename_i x hx hs;obtain⟨KK,h1,hk⟩:=b;have l:ops.length=ps.length:=by
   obtain⟨_,_,c3⟩:=kq hx
   grind [jo]
  have t:=GC (g:=⟨fn.ntmps,w,mO w H (tot F s.toS.m),fun _=>0,fun _=>none,none,[]⟩) he u rfl hc (K:=fun r=>∃y,KK y/\r=(gy rs y).toV) (fun r hr=>⟨r,hr,rfl⟩) (n x KK h1)
  refine calls_of_wp hf o (Code.wp_mono (fun ex a' w' hl=>?_) (t _ w ⟨_,γ,F,XG hX d hx (nt:=fn.ntmps) (by rw[l];exact ajA i)⟩));obtain⟨s',hq,H',γ',F',hX'⟩:=hl;have fin:wK e.P s' fn.results.toList (fun r=>∃y,KK y/\r=(gy rs y).toV)->a'.defers=[]/\∃v,(results fn a'.tmps).run e.P w'=.ok v w'/\pj g a pk k (.returned v) w':=by
   intro hq;obtain⟨z,v,s2,C,E,p,j,q,D,y,A,B⟩:=F7 hX' rfl hq;refine⟨j.df.1,z,p,.inl ⟨z,s,gy rs y,_,γ,F,rfl,hk y A,?_,Ra hX j.fr j.mem.agree⟩⟩;have:=iK fu q
   grind [ah4]
  cases ex with
  |normal=>exact fin hq
  |ret=>exact fin hq
  |_=>exact hq.elim
theorem QW(he:e.ok)(l:e.P.follows .mixedOrders=true)(hf:e.P.funcs[f]? = some fn) (b:(fn.name == "runtime.NumGoroutine")=false) (hb:fn.body.isSome=true)  {rs:List U} {pre:Fl ps->Prop} {Fn:Fl ps->Fl rs}
  (c:Nat.ble ps.length fn.ntmps=true) (hc:kz fn.ntmps (fn.body.getD .skip)=true) (j:∀x,pre x->∀KK:Fl rs->Prop,KK (Fn x)->IH e fn an ps rs x KK):Cont e.P f (XF ps rs pre Fn):=by
 have h:=LX he l hf b hb (rs:=rs) (Φ:=fun x KK=>pre x/\KK=fun y=>y=Fn x) c hc (fun x KK⟨h1,h2⟩=>j x h1 KK (by rw[h2]))
 refine⟨h.run,fun pk s ops k k' hk i=>?_,fun g pk s a w H γ F ops k hX d i=>h.call g pk s a w H γ F ops k hX d ?_⟩
 all_goals grind [XF,Ext.refl,Qi]
end
abbrev Yk(ps rs:List U)(pre:Fl ps->Prop)(post:Fl ps->Fl rs->Prop):CKt:=phT ps rs fun x K _=>pre x/\∀y,post x y->K y
structure NmR (σ:Nm->Nm):Prop where
 inv:∀n,σ (σ n)=n
 tyd:∀n,(σ n).tyd=n.tyd
theorem NmR.inj{σ:Nm->Nm}(h:NmR σ){n n':Nm}(e:σ n=σ n'):n=n':=by rw[<- h.inv n,<- h.inv n',e]
def Pl.rn(σ:Nm->Nm)(p:Pl):Pl:=⟨σ p.root,p.off,p.path⟩
def T.rn(σ:Nm->Nm):T->T
 |.pl p=>.pl (p.rn σ)
 |.rf p=>.rf (p.rn σ)
 |t=>t
def AV1.rn(σ:Nm->Nm):AV1->AV1
 |.c t=>.c (t.rn σ)
 |.agg ts=>.agg (ts.map (T.rn σ))
def AV.rn(σ:Nm->Nm):AV->AV
 |.one x=>.one (x.rn σ)
 |.tup xs=>.tup (xs.map (AV1.rn σ))
 |.any=>.any
def Root.rn(σ:Nm->Nm)(r:Root):Root:=⟨r.blk,r.cells.map (T.rn σ)⟩
def rnM(σ:Nm->Nm)(m:Mm):Mm:=m.map fun x=>(σ x.1,x.2.rn σ)
def S.rn(σ:Nm->Nm)(s:S):S:=⟨s.t.map fun x=>(x.1,x.2.rn σ),rnM σ s.m⟩
def Tt.rn(σ:Nm->Nm):Tt->Tt
 |.pl p=>.pl (p.rn σ)
 |.rf p=>.rf (p.rn σ)
 |t=>t
def A1.rn(σ:Nm->Nm):A1->A1
 |.c t=>.c (t.rn σ)
 |.agg ts=>.agg (ts.map (Tt.rn σ))
def At.rn(σ:Nm->Nm):At->At
 |.one x=>.one (x.rn σ)
 |.tup xs=>.tup (xs.map (A1.rn σ))
 |.any=>.any
def Rt.rn(σ:Nm->Nm)(r:Rt):Rt:=⟨r.blk,r.cells.map (Tt.rn σ),r.hole⟩
def St.rn(σ:Nm->Nm)(s:St):St:=⟨s.nx,s.t.map fun x=>(x.1,x.2.1,x.2.2.rn σ),s.m.map fun x=>(σ x.1,x.2.1,x.2.2.rn σ)⟩
variable{y:Value}
section
variable {σ:Nm->Nm}
theorem Tt.rn_toT:∀t:Tt,(t.rn σ).toT=t.toT.rn σ
 |.d _=>rfl
 |.nil=>rfl
 |.ow _ _ _=>rfl
 |.mp _ _ _=>rfl
 |.it _ _ _ _=>rfl
 |.mo _ _ _ _=>rfl
 |.el _ _=>rfl
 |.ga _ _ _=>rfl
 |.pl _=>rfl
 |.rf _=>rfl
 |.any=>rfl
theorem VG(ts:List Tt):(ts.map (Tt.rn σ)).map Tt.toT=(ts.map Tt.toT).map (T.rn σ):=by
 grind [ajG,Tt.rn_toT]
theorem A1.rn_toV:∀x:A1,(x.rn σ).toV=x.toV.rn σ
 |.c t=>congrArg AV1.c t.rn_toT
 |.agg ts=>congrArg AV1.agg (VG ts)
theorem At.rn_toV:∀x:At,(x.rn σ).toV=x.toV.rn σ
 |.one x=>congrArg AV.one x.rn_toV
 |.tup xs=>congrArg AV.tup (by
  grind [ajG,A1.rn_toV])
 |.any=>rfl
theorem Xd(ts:List T)(h:Option (Nat×Step×List Step)):holed (ts.map (T.rn σ)) h=(holed ts h).map (T.rn σ):=by
 cases h with
 |none=>rfl
 |some x=>
  obtain⟨off,st,q⟩:=x;simp only[holed,ai4];cases ts[off]? with
  |none=>rfl
  |some t=>
   cases t<;>grind [T.rn,ajP]
theorem Rt.rn_toR(r:Rt):(r.rn σ).toR=r.toR.rn σ:=by
 grind [Rt.toR,Rt.rn,Root.rn,VG,Xd]
theorem St.rn_toS(s:St):(s.rn σ).toS=s.toS.rn σ:=by
 simp_all[St.toS,St.rn,S.rn,rnM,At.rn_toV,Rt.rn_toR]
theorem aaV(t:List (Nat×AV))(i:Nat):bd (t.map fun x=>(x.1,x.2.rn σ)) i=(bd t i).rn σ:=by
 induction t with
 |nil=>rfl
 |cons x r ih=>
  grind [bd]
theorem aaC{cells:List T}{o:Nat}{sub:List Sh}{l:List (List D)}:(cells.map (T.rn σ))[o]? = some (.ow sub l) ↔ cells[o]? = some (.ow sub l):=by
 rw[ai4];cases cells[o]? with
 |none=>simp
 |some t=>cases t<;>simp[T.rn]
variable (hσ:NmR σ)
include hσ
theorem Qc(m:Mm)(n:Nm):af (rnM σ m) (σ n)=(af m n).map (Root.rn σ):=by
 induction m with
 |nil=>rfl
 |cons x r ih=>
  obtain⟨k,v⟩:=x;simp only[rnM,aiZ,af];by_cases hk:k=n
  ·grind
  ·rw[if_neg hk,if_neg (fun e=>hk (hσ.inj e))];exact ih
theorem abR{m:Mm}{p:Pl}(h:cj m p):cj (rnM σ m) (p.rn σ):=by
 grind [cj,Pl.rn,Qc,Root.rn,aaC]
theorem abS{m:Mm}{p:Pl}(h:iG m p):iG (rnM σ m) (p.rn σ):=by
 grind [iG,Pl.rn,Qc,Root.rn,T.rn]
variable {w:World} {H:FH} {γ:Gam} {m:Mm} {F:Nm->Fp}
abbrev rnG(σ:Nm->Nm)(γ:Gam):Gam:=fun n=>γ (σ n)
theorem agB(p:Pl):plA w (rnG σ γ) (p.rn σ)=plA w γ p:=by
 simp_all[plA,Pl.rn,rnG,NmR.inv]
theorem agC(p:Pl):plV w (rnG σ γ) (p.rn σ)=plV w γ p:=by
 simp_all[plV,Pl.rn,rnG,NmR.inv]
theorem VF{t:T}{f:Fp}(h:TR w H γ m t f y):TR w H (rnG σ γ) (rnM σ m) (t.rn σ) f y:=by
 cases t with
 |pl p=>
  obtain⟨h1,h2,a,h3,h4⟩:=h;exact⟨h1,abR hσ h2,a,(agB hσ p).trans h3,h4⟩
 |rf p=>
  obtain⟨h1,h2,h3⟩:=h;exact⟨h1,abS hσ h2,(agC hσ p).trans h3⟩
 |_=>exact h
theorem adJ{ts:List T}{f:Fp}{vs:List Value}(h:Ts (TR w H γ m) ts f vs):Ts (TR w H (rnG σ γ) (rnM σ m)) (ts.map (T.rn σ)) f vs:=by
 unfold Ts at h⊢;rw[ai2];have key:∀(a:List Unit)(xs:List T)(f:Fp)(vs:List Value),Cs (fun _ t=>TR w H γ m t) a xs f vs->Cs (fun _ t=>TR w H (rnG σ γ) (rnM σ m) t) a (xs.map (T.rn σ)) f vs:=by
  intro a xs;induction xs generalizing a with
  |nil=>intro f vs h;cases a<;>exact h
  |cons x xs ih=>
   intro f vs h;cases a with
   |nil=>exact h.elim
   |cons u a=>
    obtain⟨v,r,f1,b,hv,hf,k1,k2⟩:=h;exact⟨v,r,f1,b,hv,hf,VF hσ k1,ih a b r k2⟩
 grind
theorem VC{n:Nm}{r:Root}{f:Fp}(h:bZ w H γ m n r f):bZ w H (rnG σ γ) (rnM σ m) (σ n) (r.rn σ) f:=by
 unfold bZ at h⊢;by_cases hb:r.blk=true
 ·rw[if_pos hb]at h;rw[if_pos (show(r.rn σ).blk=true from hb)];obtain⟨b,cs,ty,fz,g,h1,h2,h3,h4,h5,h6⟩:=h;exact⟨b,cs,ty,fz,g,by rw[rnG,hσ.inv];exact h1,h2,⟨h3.1,fun t a=>h3.2 t (by grind [NmR.tyd])⟩,by grind [Root.rn],adJ hσ h5,h6⟩
 ·rw[if_neg hb]at h;rw[if_neg (show ¬ (r.rn σ).blk=true from hb)];obtain⟨v,t,h1,h2,h3⟩:=h
  simp_all[rnG,NmR.inv,Root.rn,VF]
theorem Gi(m:Mm):tot (fun n=>F (σ n)) (rnM σ m)=tot F m:=by
 funext b
 induction m with
 |nil=>rfl
 |cons x r ih=>
  simp_all[rnM,tot,NmR.inv]
theorem aeG(h:Mem w H γ m F):Mem w H (rnG σ γ) (rnM σ m) (fun n=>F (σ n)):=by
 refine⟨h.agree,fun x hx=>?_,?_,fun b=>by rw[Gi hσ];exact h.le1 b,fun b hb=>h.lt b (by simp_all[Gi]),fun b hb=>h.nofz b (by simp_all[Gi])⟩
 ·simp only[rnM,ajK]at hx;obtain⟨y,hy,rfl⟩:=hx
  simp_all[NmR.inv,VC,Mem.roots]
 ·have:(rnM σ m).map (·.1)=(m.map (·.1)).map σ:=by simp_all[rnM]
  rw[this,List.nodup_iff_pairwise_ne,List.pairwise_map];exact(List.nodup_iff_pairwise_ne.1 h.keys).imp (fun a e=>a (hσ.inj e))
theorem UE{x:AV1}(h:AR1 w H γ m x y):AR1 w H (rnG σ γ) (rnM σ m) (x.rn σ) y:=by
 cases x with
 |c t=>exact VF hσ h
 |agg ts=>
  obtain⟨cs,h1,h2,h3⟩:=h;exact⟨cs,h1,by grind,adJ hσ h3⟩
theorem UI:∀{xs:List AV1}{a:List Value},ARs w H γ m xs a->ARs w H (rnG σ γ) (rnM σ m) (xs.map (AV1.rn σ)) a
 |[],[],_=>trivial
 |_::_,_::_,h=>⟨UE hσ h.1,UI h.2⟩
 |[],_::_,h=>h.elim
 |_::_,[],h=>h.elim
theorem ac6{x:AV}(h:AR w H γ m x y):AR w H (rnG σ γ) (rnM σ m) (x.rn σ) y:=by
 cases x with
 |one x=>exact UE hσ h
 |tup xs=>obtain⟨l,h1,h2⟩:=h;exact⟨l,h1,UI hσ h2⟩
 |any=>trivial
theorem PE{g:G}{s:St}{a a':Act}{ds:List Deferred}{out:Nat->Option Nat}(h:RX g s.toS a w H γ F)(h1:a'.tmps=a.tmps)(h2:a'.defers=ds)(ho:∀j b,out j=some b->γ (σ (.out j))=.blk b) :
  RX ⟨g.nt,g.w0,g.H0,g.own0,out,g.ex,ds⟩ (s.rn σ).toS a' w H (rnG σ γ) (fun n=>F (σ n)):=by
 rw[St.rn_toS];refine⟨aeG hσ h.mem,?_,by grind [RX.nt],⟨h2,fun j b hb=>ho j b hb,h.df.2.2⟩,fun i=>?_⟩
 ·show Fr g.w0 g.H0 g.own0 w H (tot (fun n=>F (σ n)) (rnM σ s.toS.m))
  rw[Gi hσ];exact h.fr
 ·show AR w H (rnG σ γ) (rnM σ s.toS.m) (bd (s.toS.t.map fun x=>(x.1,x.2.rn σ)) i) _
  rw[aaV];have e:G.tv ⟨g.nt,g.w0,g.H0,g.own0,out,g.ex,ds⟩ a' i=g.tv a i:=by
   grind [G.tv]
  rw[e];exact ac6 hσ (h.t i)
end
def xX(i:Nat):Nat:=i % 1000000 / 1000
def Lv(k i:Nat):Nat:=match Nat.beq (xX i) 0 with
 |true=>i+k*1000
 |false=>match Nat.beq (xX i) k with
  |true=>i-k*1000
  |false=>i
def Uq(k:Nat):Nm->Nm
 |.loc i=>.loc (Lv k i)
 |.gh i=>.gh (Lv k i)
 |.out i=>.out i
theorem BA{k:Nat}(hk:1<=k/\k < 1000)(i:Nat):Lv k (Lv k i)=i/\Lv k i / 1000000=i / 1000000:=by
 unfold Lv;cases h0:Nat.beq (xX i) 0 with
 |true=>
  have h:=ai5 h0
  unfold xX at h;dsimp only;have h1:xX (i+k*1000)=k:=by grind [xX]
  grind [ai5,Nat.beq_refl]
 |false=>
  dsimp only;cases a:Nat.beq (xX i) k with
  |true=>
   have h:=ai5 a
   unfold xX at h;dsimp only;have h1:xX (i-k*1000)=0:=by grind [xX]
   grind [Nat.beq_refl]
  |false=>
   grind
theorem QL{k:Nat}(hk:1<=k/\k < 1000):NmR (Uq k):=by
 refine⟨fun n=>?_,fun n=>?_⟩
 ·cases n with
  |loc i=>exact congrArg Nm.loc (BA hk i).1
  |gh i=>exact congrArg Nm.gh (BA hk i).1
  |out i=>rfl
 ·cases n with
  |loc i=>
   show(if Lv k i < 1000000 then none else some (Lv k i / 1000000))=(if i < 1000000 then none else some (i / 1000000))
   grind [BA]
  |gh i=>rfl
  |out i=>rfl
def ahY(k:Nat)(n:Nm):Bool:=match n with
 |.loc i=>Nat.beq (xX i) k
 |.gh i=>Nat.beq (xX i) k
 |.out _=>false
def adR:Nat->Nat->List (Nm×Nat×Rt)->Nat
 |0,k,_=>k
 |n+1,k,m=>match m.any (fun x=>ahY k x.1)with
  |true=>adR n (k+1) m
  |false=>k
def apK(s:St):Option Nat:=match adR 900 1 s.m with
 |k=>match Nat.ble 1 k&&Nat.blt k 1000 with
  |true=>some k
  |false=>none
def apT(C:CKt):CKt:=fun pk s ops k=>match apK s with
 |some j=>C (fun v s'=>pk v (s'.rn (Uq j))) (s.rn (Uq j)) ops (fun s' v=>k (s'.rn (Uq j)) (v.rn (Uq j)))
 |none=>False
theorem Pl.rn_rn{σ:Nm->Nm}(hσ:NmR σ)(p:Pl):(p.rn σ).rn σ=p:=by simp[Pl.rn,hσ.inv]
theorem Tt.rn_rn{σ:Nm->Nm}(hσ:NmR σ)(t:Tt):(t.rn σ).rn σ=t:=by cases t<;>simp[Tt.rn,Pl.rn_rn hσ]
theorem A1.rn_rn{σ:Nm->Nm}(hσ:NmR σ)(x:A1):(x.rn σ).rn σ=x:=by
 cases x with
 |c t=>simp[A1.rn,Tt.rn_rn hσ]
 |agg ts=>simp[A1.rn,Function.comp_def,Tt.rn_rn hσ]
theorem At.rn_rn{σ:Nm->Nm}(hσ:NmR σ)(x:At):(x.rn σ).rn σ=x:=by
 cases x with
 |one t=>simp[At.rn,A1.rn_rn hσ]
 |tup ts=>simp[At.rn,Function.comp_def,A1.rn_rn hσ]
 |any=>rfl
theorem Rt.rn_rn{σ:Nm->Nm}(hσ:NmR σ)(r:Rt):(r.rn σ).rn σ=r:=by
 simp_all[Rt.rn,Function.comp_def,Tt.rn_rn]
theorem Km{σ:Nm->Nm}(t:List (Nat×Nat×At))(k:Nat):cD (t.map fun x=>(x.1,x.2.1,x.2.2.rn σ)) k=(cD t k).map fun x=>(x.1,x.2.rn σ):=by
 induction t<;>grind [cD]
theorem Kk{σ:Nm->Nm}(hσ:NmR σ)(m:List (Nm×Nat×Rt))(n:Nm):cX (m.map fun x=>(σ x.1,x.2.1,x.2.2.rn σ)) (σ n)=(cX m n).map fun x=>(x.1,x.2.rn σ):=by
 induction m with
 |nil=>rfl
 |cons x r ih=>
  obtain⟨i,j,v⟩:=x;simp only[aiZ,cX];by_cases h:i=n
  ·grind
  ·rw[if_neg (fun e=>h (hσ.inj e)),if_neg h];exact ih
theorem Ext.rn{σ:Nm->Nm}(hσ:NmR σ){s s':St}(h:Ext (s.rn σ) s'):Ext s (s'.rn σ):=by
 refine⟨h.nx,fun k j v hk hj=>?_,fun n j r hn hj=>?_⟩
 ·rw[show(s'.rn σ).t=s'.t.map fun x=>(x.1,x.2.1,x.2.2.rn σ)from rfl,Km]at hk;cases h1:cD s'.t k with
  |none=>grind
  |some x=>
   rw[h1]at hk;obtain⟨j',v'⟩:=x;simp only[Option.map_some,aiX,Prod.mk.injEq]at hk;obtain⟨rfl,rfl⟩:=hk;have h2:=h.t k j' v' h1 hj
   rw[show(s.rn σ).t=s.t.map fun x=>(x.1,x.2.1,x.2.2.rn σ)from rfl,Km]at h2;cases h3:cD s.t k<;>grind [At.rn_rn]
 ·rw[<- hσ.inv n,show(s'.rn σ).m=s'.m.map fun x=>(σ x.1,x.2.1,x.2.2.rn σ)from rfl,Kk hσ]at hn;cases h1:cX s'.m (σ n)with
  |none=>grind
  |some x=>
   rw[h1]at hn;obtain⟨j',v'⟩:=x;simp only[Option.map_some,aiX,Prod.mk.injEq]at hn;obtain⟨rfl,rfl⟩:=hn;have h2:=h.m (σ n) j' v' h1 hj
   rw[show(s.rn σ).m=s.m.map fun x=>(σ x.1,x.2.1,x.2.2.rn σ)from rfl,Kk hσ]at h2;cases h3:cX s.m n<;>grind [Rt.rn_rn]
theorem VP{s:St}(h:apK s=some j):1<=j/\j < 1000:=by
 unfold apK at h;dsimp only at h;split at h
 all_goals simp_all
theorem Ze{P:Program}{C:CKt}(h:Cont P f C):Cont P f (apT C):=by
 refine⟨h.run,fun pk s ops k k' hk hc=>?_,fun g pk s a w H γ F ops k hX c hc=>?_⟩
 ·unfold apT at hc⊢;split at hc
  ·rename_i j hj;have hσ:=QL (VP hj)
   exact h.ext _ _ _ _ _ (fun s' v he=>hk _ _ (he.rn hσ)) hc
  omega
 ·unfold apT at hc;split at hc
  ·rename_i j hj;have hσ:=QL (VP hj)
   have d:=PE hσ (out:=g.out) (ds:=g.dfs) hX rfl hX.df.1 (fun i b hb=>hX.df.2.1 i b hb)
   refine(h.call _ _ _ a w H _ _ ops _ d c hc).mono ?_;rintro e w' (⟨r,s',av,H',γ',F',rfl,k1,k2,k3⟩|⟨v,s',rfl,k1,H',γ',F',k2⟩)
   ·refine .inl ⟨r,_,_,H',_,_,rfl,k1,?_,PE hσ (out:=g.out) (ds:=g.dfs) k3 rfl k3.df.1 (fun i b hb=>k3.df.2.1 i b hb)⟩;rw[At.rn_toV];show AR w' H' _ (s'.rn (Uq j)).toS.m _ _
    rw[St.rn_toS];exact ac6 hσ k2
   ·exact .inr ⟨v,_,rfl,k1,H',_,_,PE hσ (out:=g.out) (ds:=g.dfs) k2 rfl k2.df.1 (fun i b hb=>k2.df.2.1 i b hb)⟩
  grind
end Go.Am
end

section
namespace Go.Am
open Go Go.Proofs
def lky:U->Bool
 |.i _=>true
 |.bo=>true
 |.s=>true
 |_=>false
theorem XH{u:U}(h:lky u=true):leaf u=true:=by cases u<;>first|rfl|cases h
theorem abK{u:U}(h:lky u=true)(x:El u):(am u x).toD.isKey=true:=by cases u<;>first|rfl|cases h
def abN(n:Nm):CKt:=fun _ s ops k=>match ops with
 |[x]=>
  let s0:=gZ s (evA s x)
  let s1:=s0.fresh n
  match evA s1 x with
  |.one (.c (.d (.mp ku vu z)))=>match lky ku&&leaf vu with
   |true=>z.isSome=true/\k (s1.root n ⟨false,[.mp ku vu (z.getD [])],none⟩) (.one (.c (.rf ⟨n,0,[]⟩)))
   |false=>False
  |_=>False
 |_=>False
section
variable {P:Program}
theorem UO{f:Nat}{fn:Func}{n:Nm}(hno:n.isOut=false)(hf:P.funcs[f]? = some fn) (c:(fn.name == "runtime.NumGoroutine")=false) (hb:fn.body.isSome=true)
  (d:∀(b:Nat)(es:Array MapEntry)(ck:Nat)(w:World),w.heap[b]? = some (.map es ck)->Calls P f #[.map (some b)] w fun e w'=>e=.returned (.map (some w.heap.size))/\w'=w.alloc (.map es ck)):Cont P f (abN n):=by
 refine⟨fun args w=>fi hf c hb args w,fun pk s ops k k' hk hc=>?_,fun g pk s a w H γ F1 ops k hX p hc=>?_⟩
 ·unfold abN at hc⊢;split at hc
  ·dsimp only at hc⊢;split at hc
   ·split at hc
    ·exact⟨hc.1,hk _ _ ((iM _ _).trans ((bY _ _).trans (dk _ _ _))) hc.2⟩
    omega
   omega
  omega
 ·unfold abN at hc;split at hc
  ·rename_i o;dsimp only at hc;have ho:aH o=true:=by grind
   obtain⟨H1,q,h1⟩:=gS hX (evA s o);generalize gZ s (evA s o)=s0 at hc h1;have h2:=cW h1 n
   have hn:=cC h1 n
   have u:(s0.fresh n).toS=s0.toS.fresh n:=bE (gR h1)
   rw[<- u]at h2 hn;generalize s0.fresh n=s1 at hc h2 hn;have hv:=aL h2 ho
   rw[ah ho]at hv;split at hc
   ·rename_i ku vu z he;rw[he]at hv;split at hc
    ·rename_i j;rw[aiW]at j;obtain⟨hz,hc⟩:=hc;obtain⟨l,rfl⟩:∃l,z=some l:=by cases z<;>grind
     have hd:FDx H1 (.mp (some (l.map fun x=>((ap ku x.1).headD .any,(ap vu x.2).headD .any)))) (a.eval o):=hv.2
     have el:(l.map fun x=>((ap ku x.1).headD .any,(ap vu x.2).headD .any))=l.map fun x=>((am ku x.1).toD,(am vu x.2).toD):=ajG fun x _=>by grind [pw,XH]
     rw[el]at hd;obtain⟨b,es,ck,B,c2,c3,c4⟩:=UV h2.mem.agree (fun e he=>by
      grind [abK]) hd
     rw[aj9]at c4;have c4:MpO w H1 (l.map (vV ku vu)) es.toList (fun _=>0):=c4
     rw[show(([o].map a.eval).toArray:Array Value)=#[.map (some b)]by grind];refine Calls.mono (d b es ck w c2) ?_;rintro e w' ⟨rfl,rfl⟩
     have hold:∀k,k<w.heap.size->(w.alloc (.map es ck)).heap[k]? = w.heap[k]? := fun k hk=>cU hk
     have h3:=o7 h2 (w':=w.alloc (.map es ck)) (by simp) rfl rfl rfl (fun b hb=>.inl (hold b hb))
     have A:tot q s1.toS.m w.heap.size=0:=by
      rcases ajZ (tot q s1.toS.m w.heap.size)with h'|h'
      ·exact h'
      ·have:=h2.mem.lt w.heap.size kQ1;omega
     obtain⟨γ',F',h4,i⟩:=dQ h3 hno hn (v:=.map (some w.heap.size)) (t:=.mp (l.map (vV ku vu))) (f:=fun b=>if b=w.heap.size then 1 else 0) ⟨w.heap.size,es,ck,fun _=>0,rfl,bC,c3,j6 (fun _ _ _ h=>h) (fun b hb=>absurd rfl hb) c4,fun _=>(ak2 _).symm⟩ (fun b=>by
       by_cases e:b=w.heap.size
       ·grind
       ·rw[if_neg e];have:=h2.mem.le1 b;omega) (fun b hb=>by
       have e:b=w.heap.size:=by
        grind
       subst e;refine⟨by simp,fun o=>?_⟩;cases hc:H1 w.heap.size o with
       |none=>rfl
       |some y=>have:=(h2.mem.agree _ _ _ hc).lt;omega) (fun b hb=>by
       right
       have e:b=w.heap.size:=by
        grind
       have:=h2.fr.size
       omega)
     have r:(s1.root n ⟨false,[.mp ku vu l],none⟩).toS=⟨s1.toS.t,(n,⟨false,[.mp (l.map (vV ku vu))]⟩)::s1.toS.m⟩:=rfl
     rw[<- r]at h4;refine .inl ⟨_,_,_,H1,γ',F',rfl,hc,?_,h4⟩;exact vo (l:=l.map (vV ku vu)) (by show af ((n,(⟨false,[.mp (l.map (vV ku vu))]⟩:Root))::s1.toS.m) n=_;simp[af]) i
    grind
   grind
  grind
end
end Go.Am
end

section
namespace Go.Am
open Go Go.RowKit Go.Maps Go.Sort Go.Shelf Go.Proofs
theorem zG:Cont prog 103 (abN (.gh 800000)):=UO rfl func103 (by rfl) (by rfl) (fun b es ck w hb=>AnyW.maps_Clone Tryz.clone106 b es ck w hb)
set_option maxHeartbeats 1000000 in
theorem NS{H:Type}(b j:Nat)(h:DataW H)(R:Value->Option (DataW H×List MemPlace))(w:World)(d:w.ownsMap prog 9 R b j h)(f:Maps.size h<=maxLen)(a:Maps.size h*16<=140737488355328) :
  Calls prog 166 #[.map (some b)] w fun e w'=>∃(v:Value)(c:List (List UInt8)),e=.returned v/\c.Perm (strKeys h) /\
   w'.ownsRow w.heap.size 9 1 v c.length ((c.mergeSort (fun x y=>decide (x<=y))).map encStr)/\(v=.slice none 0 0 ↔ c=[])/\Below w.heap.size w w':=by
 refine(callsIn_wide (n:=6)).1 ?_;have l:Fence.wide.fn 200:=trivial
 have k:Fence.wide.fn 72:=trivial
 refine callsIn_of_wp func166 rfl trivial ?_ rfl;simp only[Tryz.ntmps166,List.size_toArray,ai1,ai6,Nat.reduceAdd,Nat.reduceSub,Array.replicate_succ,Array.replicate_zero,List.push_toArray,List.append_toArray,aj0,akV]
 gi_wp2_with (first
  |(gi_at_call 200;refine(Tryz.maps_Keys_210 _ _).mono ?_;rintro e w' ⟨rfl,rfl⟩)
  |(gi_at_call 72;refine(Tryz.slices_Sorted_keys_209_210 b j h R w d f a).mono ?_;rintro e w' ⟨v,c,rfl,m,g,i,hb⟩))
 go_ret
 exact⟨v,c,rfl,m,ownsRow_base_a g (by simp),i,((Below.refl _ w).alloc (ai0 _) _).trans (hb.mono (by simp))⟩
def Rs:Value->Option (DataW Unit×List MemPlace):=fun _=>some (.lit (.bool true),[])
theorem abW{b ck:Nat}{es:Array MapEntry}{w:World}(hb:w.heap[b]? = some (.map es ck))(d:MapKept.Stamped es ck)(f:es.size<=1000000)(hk:∀e∈es.toList,∃l:List UInt8,e.key=.string ⟨l.toArray⟩/\l.length<=BIG) :
  ∃c:DataW Unit,w.ownsMap prog 9 Rs b es.size c/\(∀v,v∈strKeys c ↔ ∃e∈es.toList,e.key=.string ⟨v.toArray⟩)/\Maps.size c=es.size:=by
 have a:∀e∈es.toList,∀l:List UInt8,e.key=.string ⟨l.toArray⟩->l.length<=BIG->WideElems.rd prog 9 Rs e=some (.string l,.lit (.bool true)):=fun e he l h1 h2=>by
  unfold WideElems.rd;rw[h1,WideMaps.keyOf_string_mk underlying9 (by show l.toArray.size<=_;grind [BIG,maxLen])];rfl
 have hp:=WideShapes.sorted_perm (es.toList.map (WideElems.rg prog 9 Rs))
 refine⟨_,⟨es,ck,hb,⟨by grind [maxLen],d,fun e he=>?_⟩,ai0 _,rfl⟩,fun v=>?_,?_⟩
 ·grind
 ·show v∈List.map _ _ ↔ _
  rw[(hp.map _).mem_iff];simp only[ajK];constructor
  ·rintro⟨_,⟨e,he,rfl⟩,rfl⟩
   obtain⟨l,h1,h2⟩:=hk e he;refine⟨e,he,?_⟩;unfold WideElems.rg;rw[a e he l h1 h2,h1];rfl
  ·rintro⟨e,he,h1⟩
   obtain⟨l,h3,h2⟩:=hk e he;refine⟨_,⟨e,he,rfl⟩,?_⟩;unfold WideElems.rg;rw[a e he l h3 h2];rw[h3]at h1;have:l=v:=by grind
   rw[<- this];rfl
 grind [Maps.size,List.Perm.length_eq,ai2]
theorem DD{f m:Nat}{args:Array Value}{L:List (List UInt8×Bool)}{u:Value}{w:World}{H:FH}{γ:Gam}(hn:L.length<=1000000)(D:FD H m (.mp (some (L.map fun x=>(.str x.1,.bool x.2)))) u)(d:∀b o y,H b o=some y->RdV w b o y)
  (hc:∀b V(g:DataW Unit),u=.map (some b)->w.ownsMap prog 9 Rs b V g->Maps.size g<=maxLen->Maps.size g*16<=140737488355328->Calls prog f args w fun e w'=>∃(v:Value)(k:List (List UInt8)),e=.returned v/\k.Perm (strKeys g) /\
   w'.ownsRow w.heap.size 9 1 v k.length ((k.mergeSort (fun x y=>decide (x<=y))).map encStr)/\(v=.slice none 0 0 ↔ k=[])/\Below w.heap.size w w') :
  Calls prog f args w (fun e w'=>∃r E y,e=.returned r/\fU (some L) y/\Below w.heap.size w w'/\(∀b o y,H b o=some y->E b o=some y)/\(∀b o,E b o≠none->H b o=none->w.heap.size<=b)/\(∀b o x l c,E b o=some (.c (.slice x l c))->H b o=none->Thawed w' b) /\
    (∀b o y,E b o=some y->RdV w' b o y)/\AR w' E γ [] (gy [.sl .s] y).toV r):=by
 cases m with
 |zero=>exact D.elim
 |succ m=>
  obtain⟨b,es,ck,U,k1,k2,k3⟩:=D;obtain⟨k4,k5⟩:=d b 0 _ k1;rw[ai2]at k2;have F:∀(i:Nat)(e:MapEntry),es.toList[i]? = some e->∃z,L[i]? = some z/\e.key=.string ⟨z.1.toArray⟩/\z.1.length<=BIG:=fun i e he=>by
   have hi:i<L.length:=by grind
   have hz:=aiY hi
   have:=(k3 i (.str L[i].1,.bool L[i].2) e (by grind) he).1
   have this:e.key=.string ⟨L[i].1.toArray⟩/\L[i].1.length<=BIG:=by cases m<;>exact this
   grind
  obtain⟨g,I,J,N⟩:=abW k4 k5 (by grind) (fun e he=>by
   grind [List.mem_iff_getElem?])
  have W:es.size<=1000000:=by grind
  have t:∀v,v∈strKeys g ↔ v∈L.map (·.1):=fun v=>by
   rw[J];constructor
   ·grind [List.mem_iff_getElem?]
   ·intro h;obtain⟨z,hz,rfl⟩:=ajK.1 h;obtain⟨i,hi⟩:=List.mem_iff_getElem?.1 hz;have K:i<es.toList.length:=by grind
    obtain⟨Z,X,h2,_⟩:=F i _ (aiY K)
    grind
  have C:∀v∈L.map (·.1),v.length<=BIG:=fun v hv=>by
   grind [List.mem_iff_getElem?]
  refine(hc b es.size g U I (by grind [maxLen]) kQ1).mono ?_;rintro e w' ⟨v,k,rfl,R,a,P,hb⟩
  have G:=R.length_eq
  have A:=List.mergeSort_perm k fun x y=>decide (x<=y)
  have B:=A.length_eq
  generalize k.mergeSort (fun x y=>decide (x<=y))=Q at a A B;have O:∀v,v∈Q ↔ v∈L.map (·.1):=fun v=>(A.mem_iff.trans R.mem_iff).trans (t v)
  have S:es.size=L.length:=by grind
  have n:Q.length<=L.length:=by
   rw[B,G];have:(strKeys g).length=Maps.size g:=by
    unfold strKeys Maps.size
    grind
   omega
  have T:Q.length<=1000000:=ajJ n hn
  obtain⟨_,a⟩:=a;rcases a with⟨rfl,hz⟩|⟨gb,cap,cur,rfl,r0,r1,r2,r3,r4,r5⟩
  ·obtain rfl:Q=[]:=aj5 kQ1;refine⟨_,H,[],rfl,⟨O,n⟩,hb,fun _ _ _ h=>h,fun b o h1 h2=>absurd h2 h1,fun b o x l c h1 h2=>by grind,fun b o y h=>(d b o y h).frame (hb.block b (d b o y h).lt),fun _=>rfl,1,?_⟩;show FD _ 1 (.li []) _
   grind [kj]
  ·have Y:∀o,H gb o=none:=fun o=>by
    cases hc:H gb o with
    |none=>rfl
    |some y=>have:=(d _ _ _ hc).lt;omega
   rw[Nat.mul_one]at r4 r5;have p:∀o(ho:o<Q.length),cur[o]? = some (encStr Q[o]):=fun o ho=>by
    have h9:(cur.toList.take k.length)[o]? = some (encStr Q[o]):=by grind
    grind
   refine⟨_,fun b o=>if b=gb then(Q.map encStr)[o]?.map HV.c else H b o,Q,rfl,⟨O,n⟩,hb,fun b o y h=>?_,fun b o h1 h2=>?_,fun b o x l c h1 h2=>?_,fun b o y h=>?_,fun _=>rfl,1,?_⟩
   ·grind
   ·grind
   ·grind
   ·dsimp only at h;split at h
    ·rename_i M;subst M;obtain⟨z,hz,rfl⟩:=ajF.1 h;rw[ai4]at hz;obtain⟨q,hq,rfl⟩:=ajF.1 hz;have ho:=(akE.1 hq).1
     have hc:=p o ho
     rw[(akE.1 hq).2]at hc;show World.cell? _ _=some _
     grind [World.cell?]
    ·exact(d b o y h).frame (hb.block b (d b o y h).lt)
   ·show FD _ 1 (.li (Q.map (ap .s))) _
    rw[kj];unfold BIG;refine⟨_,_,by rw[ai2,B],by grind,by grind,.inr ⟨gb,0,1,rfl,fun i hi=>?_⟩⟩;have hi:i<Q.length:=by grind
    have e:(Q.map (ap .s)).getD i []=[.str Q[i]]:=by
     rw[List.getD,ai4,aiY hi];rfl
    rw[e];refine⟨rfl,fun j hj=>?_⟩;have hj:j=0:=by omega
    subst hj;refine⟨encStr Q[i],?_,?_⟩
    ·grind
    ·exact⟨rfl,C _ ((O _).1 (ak6 hi))⟩
def LU:CKt:=Yk [.mp .s .bo] [.sl .s] (fun x=>jB x) (fun x y=>fU x y)
theorem MC:Cont prog 166 LU:=oW (fi (fn:=f166) kQ0 (by rfl) (by rfl)) (fun x args w H γ d hl g j f=>by
 obtain⟨hs,hn⟩:=d;obtain⟨L,rfl⟩:∃L:List (List UInt8×Bool),x=some L:=by cases x<;>grind
 have hn:L.length<=1000000:=hn
 obtain⟨u,rfl⟩:∃u,args=[u]:=akS.1 hl
 obtain⟨u',h0,h1⟩:=g 0 _ rfl;obtain rfl:u=u':=by grind
 have a:FDx H (.mp (some (L.map fun x=>(.str x.1,.bool x.2)))) u:=h1.2
 obtain⟨m,a⟩:=a;exact DD hn a f fun b h i e c k1 k2=>by
  subst e;exact NS b h i Rs w c k1 k2)
theorem RO:Cont prog 73 (uP [.mp .s .bo] [.fn] (fun _=>True) EM):=gF (fi (fn:=f73) kQ0 (by rfl) (by rfl)) (fun x args w H γ _ hl p q g=>by
 obtain⟨u,rfl⟩:∃u,args=[u]:=akS.1 hl
 obtain⟨u',h0,h1⟩:=p 0 _ rfl;obtain rfl:u=u':=by grind
 have d:FDx H (.mp (x.map fun l=>l.map fun x=>(.str x.1,.bool x.2))) u:=h1.2
 obtain⟨k,rfl⟩:=Eu d;obtain⟨m,d⟩:=d;refine((callsIn_wide (n:=5)).1 (Tryz.maps_KeysA k w)).mono ?_;rintro e w' ⟨rfl,rfl⟩
 have hb:Below w.heap.size w (w.alloc (.cells #[.map k] 119)):=(Below.refl _ w).alloc (ai0 _) _
 have f:∀{b o y},H b o=some y->b<w.heap.size:=fun h=>(g _ _ _ h).lt
 have a:∀b o y,H b o=some y->(if b=w.heap.size then(if o=0 then some (HV.c (.map k))else none)else H b o)=some y:=fun b o y h=>by
  rw[if_neg (Nat.ne_of_lt (f h))];exact h
 refine⟨_,fun b o=>if b=w.heap.size then(if o=0 then some (HV.c (.map k))else none)else H b o,rfl,hb,a,fun b o h1 h2=>?_,fun b o x l c h1 h2=>?_,fun b o y h=>?_,fun _=>rfl,m+1,?_⟩
 ·grind
 ·grind
 ·dsimp only at h;split at h
  ·rename_i e;subst e;split at h
   ·rename_i e;subst e;cases h;show World.cell? _ _=some _
    simp
   ·cases h
  ·exact(g b o y h).frame (hb.block b (f h))
 ·refine⟨[_],rfl,rfl,fun i row y hi hy=>?_⟩
  match i,hi,hy with
  |0,hi,hy=>
   cases hi;cases hy;refine⟨_,_,rfl,fun _=>rfl,fun j hj=>?_⟩;obtain rfl:j=0:=by simp[Lt.Cap.enc]at hj;omega
   exact⟨.map k,by simp,fG a m m _ _ (ai0 _) d⟩
  |i+1,hi,hy=>cases hi)
theorem IR:Cont prog 72 (Yk [.fn] [.sl .s] (fun x=>DX x) (fun x y=>A4 x y)):=oW (fi (fn:=f72) kQ0 (by rfl) (by rfl)) (fun x args w H γ g hl i l c=>by
 obtain⟨hx,hs,hn⟩:=g;generalize hz:Fg x=z at hx hs hn;obtain⟨L,rfl⟩:∃L:List (List UInt8×Bool),z=some L:=by cases z<;>grind
 subst hx;have hn:L.length<=1000000:=hn
 obtain⟨u,rfl⟩:∃u,args=[u]:=akS.1 hl
 obtain⟨u',h0,h1⟩:=i 0 _ rfl;obtain rfl:u=u':=by grind
 have a:FDx H (.fn 124 [[.mp (some (L.map fun x=>(.str x.1,.bool x.2)))]]) u:=h1.2
 obtain⟨m,a⟩:=a;cases m with
 |zero=>exact a.elim
 |succ m=>
  obtain⟨ps,rfl,h,hp⟩:=a;obtain⟨q,rfl⟩:∃q,ps=[q]:=akS.1 h
  obtain⟨p,o,rfl,ho,d⟩:=hp 0 _ _ rfl rfl;obtain rfl:=ho rfl;obtain⟨v,hv,a⟩:=d 0 (Nat.zero_lt_one);exact DD hn a c fun b k j e f k1 k2=>by
   have a:v=.map (some b):=e
   subst a;exact(callsIn_wide (n:=5)).1 (Tryz.sorted_keysA p b k j Rs w (c _ _ _ hv).lt (c _ _ _ hv) f k1 k2))
end Go.Am
end

section
namespace Go.Am
open Go
def GU(a:List UInt8)(KK:(Int×Bool)->Prop):Prop:=
 aa (α:=Bool) (fun f=>if(decide (a=([]:List UInt8)))=true then(f true)else(f (decide (20 < (a.length:Int))))) (fun k=>if k=true then(KK (0,false))else(aa (α:=Int) (fun h=>((0:Int)<=0/\0<a.length)/\if(decide ((((a.getD 0 0).toNat:Nat):Int)=(((45:UInt8).toNat:Nat):Int)))=true then(h 1)else(h 0)) (fun v4=>ab (α:=Int×Int) (fun l b=>have d:=((0:Int)<=b.2/\b.2.toNat<a.length);have e:=(((a.getD b.2.toNat 0).toNat:Nat):Int);(a.length<=4611686018427387904->if(decide (b.2 < (a.length:Int)))=true then(aa (α:=Bool) (fun g=>d/\if(decide (e < (((48:UInt8).toNat:Nat):Int)))=true then(g true)else(d/\g (decide ((((57:UInt8).toNat:Nat):Int)<e)))) (fun j=>if j=true then(KK (0,false))else(d/\l ((i64.wrap ((i64.wrap (b.1*10)) - (i64.wrap (((UInt8.ofNat (IntKind.u8.wrap (e - (((48:UInt8).toNat:Nat):Int))).toNat).toNat:Nat):Int)))),(i64.wrap (b.2+1))))))else(aa (α:=Int) (fun i=>if(decide (v4=0))=true then(i (i64.wrap (0-b.1)))else(i b.1)) (fun c=>(l5 c)/\if(!decide ((aF c)=a))=true then(KK (0,false))else(KK (c,true)))))) (0,v4))))
def tK(a:List UInt8)(KK:(Int×Bool)->Prop):Prop:=
 aa (α:=Bool) (fun b=>if(!((mE a [48,102]).2))=true then(b true)else(b (!decide ((((mE a [48,102]).1).length:Int)=16)))) (fun d=>if d=true then(KK (0,false))else((((mE a [48,102]).1).length<=4611686018427387904->ab (α:=Int×Int) (fun c v4=>if(decide (v4.2 < (((mE a [48,102]).1).length:Int)))=true then(((0:Int)<=v4.2/\v4.2.toNat < ((mE a [48,102]).1).length)/\if(decide ((iu [48,49,50,51,52,53,54,55,56,57,97,98,99,100,101,102] (((mE a [48,102]).1).getD v4.2.toNat 0)) < 0))=true then(KK (0,false))else((0:Int)<=4/\c ((IntKind.u64.wrap ((BitVec.ofInt IntKind.u64.bits (IntKind.u64.wrap (v4.1*2 ^ (min (4:Int).toNat IntKind.u64.bits))) ||| BitVec.ofInt IntKind.u64.bits (IntKind.u64.wrap (iu [48,49,50,51,52,53,54,55,56,57,97,98,99,100,101,102] (((mE a [48,102]).1).getD v4.2.toNat 0)))).toNat:Nat)),(i64.wrap (v4.2+1)))))else(if(!decide ((Lt.Plain (i64.wrap v4.1))=(i64.wrap v4.1)))=true then(KK (0,false))else(KK ((i64.wrap v4.1),true)))) (0,0))))
def tM(a:List UInt8)(KK:(Lt.Arg×Bool)->Prop):Prop:=
 if((zV a).2)=true then(KK ((Lt.Arg.mk 3 ([]:List UInt8) ((zV a).1)),true))else(if(!((fe a).2))=true then(KK ((Lt.Arg.mk 0 ([]:List UInt8) 0),false))else(KK ((Lt.Arg.mk 2 ([]:List UInt8) ((fe a).1)),true)))
def CS(a:List UInt8)(KK:(Lt.Arg×Bool)->Prop):Prop:=
 if(decide (a=([]:List UInt8)))=true then(KK ((Lt.Arg.mk 0 ([]:List UInt8) 0),false))else(if(decide (a=[110,117,108,108]))=true then(KK ((Lt.Arg.mk 4 ([]:List UInt8) 0),true))else(if(Lt.Name a)=true then(KK ((Lt.Arg.mk 1 a 0),true))else(((0:Int)<=0/\0<a.length)/\if(decide ((((a.getD 0 0).toNat:Nat):Int)=(((35:UInt8).toNat:Nat):Int)))=true then((0:Int)<=1/\(1<=a.length/\a.length<=a.length)/\aa (α:=Bool) (fun b=>if(!((fe ((a.drop 1).take (a.length - 1))).2))=true then(b true)else(if(decide ((fe ((a.drop 1).take (a.length - 1))).1 < 0))=true then(b true)else(b (decide (999 < (fe ((a.drop 1).take (a.length - 1))).1))))) (fun c=>if c=true then(KK ((Lt.Arg.mk 0 ([]:List UInt8) 0),false))else(KK ((Lt.Arg.mk 5 ([]:List UInt8) ((fe ((a.drop 1).take (a.length - 1))).1)),true))))else(KK (((lb a).1),(lb a).2)))))
def O3(a:UInt8)(KK:Bool->Prop):Prop:=
 if(decide (((a.toNat:Nat):Int)=(((32:UInt8).toNat:Nat):Int)))=true then(KK true)else(KK (decide (((a.toNat:Nat):Int)=(((9:UInt8).toNat:Nat):Int))))
def GP(a:List UInt8)(KK:(List (List UInt8)×Bool)->Prop):Prop:=
 ab (α:=List (List UInt8)×Int×Int) (fun l b=>have c:=((0:Int)<=b.2.2/\b.2.2.toNat<a.length);have e:=([((a.drop b.2.1.toNat).take (b.2.2.toNat-b.2.1.toNat))]:List (List UInt8));(a.length<=4611686018427387904->if(decide (b.2.2<=(a.length:Int)))=true then(aa (α:=List (List UInt8)×Int) (fun d=>aa (α:=Bool) (fun h=>(a.length<=4611686018427387904->if(decide (b.2.2=(a.length:Int)))=true then(h true)else(c/\h (Lt.blank (a.getD b.2.2.toNat 0))))) (fun k=>if k=true then(aa (α:=List (List UInt8)) (fun g=>if(decide (0<=b.2.1))=true then((0:Int)<=b.2.1/\(0:Int)<=b.2.2/\(b.2.1.toNat<=b.2.2.toNat/\b.2.2.toNat<=a.length)/\(b.1.length+e.length<=4611686018427387904/\(b.1.length+e.length)*16<=140737488355328)/\g (b.1++e))else(g b.1)) (fun j=>d (j,(-1))))else(aa (α:=Bool) (fun i=>c/\if(decide ((((a.getD b.2.2.toNat 0).toNat:Nat):Int)<=(((32:UInt8).toNat:Nat):Int)))=true then(i true)else(c/\i (decide ((((126:UInt8).toNat:Nat):Int) < (((a.getD b.2.2.toNat 0).toNat:Nat):Int))))) (fun f=>if f=true then(KK ([],false))else(if(decide (b.2.1 < 0))=true then(d (b.1,b.2.2))else(d (b.1,b.2.1))))))) (fun v4=>l (v4.1,v4.2,(i64.wrap (b.2.2+1)))))else(KK (b.1,true)))) ([],(-1),0)
def GO(a:List UInt8)(KK:(List Lt.Line×Int×Int)->Prop):Prop:=
 (a.length<=4611686018427387904->if(decide (4194304 < (a.length:Int)))=true then(KK ([],0,2))else((KT a [10])/\((fy a [10]).length<=4611686018427387904->ab (α:=List Lt.Line×Int) (fun f b=>have c:=(W3 ((fy a [10]).getD b.2.toNat default) [59]).1;have d:=([(Lt.Line.mk (i64.wrap (b.2+1)) ((dw c).1))]:List Lt.Line);if(decide (b.2 < ((fy a [10]).length:Int)))=true then(aa (α:=List Lt.Line) (fun e=>((0:Int)<=b.2/\b.2.toNat < (fy a [10]).length)/\(Yd ((fy a [10]).getD b.2.toNat default) [59])/\(DV c)/\if(!((dw c).2))=true then(KK ([],(i64.wrap (b.2+1)),3))else((((dw c).1).length<=4611686018427387904->if(decide (0 < (((dw c).1).length:Int)))=true then((b.1.length+d.length<=4611686018427387904/\(b.1.length+d.length)*32<=140737488355328)/\e (b.1++d))else(e b.1)))) (fun v4=>f (v4,(i64.wrap (b.2+1)))))else(KK (b.1,0,0))) ([],0))))
def Ve(a:List Int)(c:Int)(KK:Bool->Prop):Prop:=
 (a.length<=4611686018427387904->ab (α:=Int) (fun d b=>if(decide (b < (a.length:Int)))=true then(((0:Int)<=b/\b.toNat<a.length)/\if(decide ((a.getD b.toNat default)=c))=true then(KK true)else(d (i64.wrap (b+1))))else(KK false)) 0)
def Ps(a:List UInt8)(KK:(List UInt8)->Prop)(KP:Value->Prop):Prop:=
 if(!(Lt.Name a))=true then(KP (Lt.flt 3))else(KK a)
def Pp(a:List UInt8)(KK:(List UInt8)->Prop)(KP:Value->Prop):Prop:=
 aa (α:=Unit) (fun b=>if(decide (a=[105,110,116]))=true then(if false=true then(KP (Lt.flt 3))else(b ()))else(if(decide (a=[102,108,111,97,116]))=true then(if false=true then(KP (Lt.flt 3))else(b ()))else(if(!(Lt.Name a))=true then(KP (Lt.flt 3))else(b ())))) (fun c=>KK a)
def CX(a:List UInt8)(b:Int)(c:Int)(KK:Int->Prop)(KP:Value->Prop):Prop:=
 if((fe a).2)=true then(if(decide (b<=(fe a).1))=true then(if(!(decide ((fe a).1<=c)))=true then(KP (Lt.flt 3))else(KK ((fe a).1)))else(KP (Lt.flt 3)))else(KP (Lt.flt 3))
def Vb(b:List UInt8)(a:Bool)(KK:Lt.Arg->Prop)(KP:Value->Prop):Prop:=
 aa (α:=Unit) (fun c=>if((rv b).2)=true then(if a=true then(if false=true then(KP (Lt.flt 3))else(c ()))else(if(!(!decide (((rv b).1).Kind=5)))=true then(KP (Lt.flt 3))else(c ())))else(KP (Lt.flt 3))) (fun d=>KK ((rv b).1))
def Pk(a:List (List UInt8))(b:Bool)(KK:(List Lt.Arg)->Prop)(KP:Value->Prop):Prop:=
 (a.length<=4611686018427387904->ab (α:=List Lt.Arg×Int) (fun d c=>if(decide (c.2 < (a.length:Int)))=true then(((0:Int)<=c.2/\c.2.toNat<a.length)/\True/\exQ (BL (a.getD c.2.toNat default) b) (fun z3=>(c.1.length+([z3]:List Lt.Arg).length<=4611686018427387904/\(c.1.length+([z3]:List Lt.Arg).length)*32<=140737488355328)/\d ((c.1++([z3]:List Lt.Arg)),(i64.wrap (c.2+1)))) (fun v=>KP v))else(KK c.1)) ([],0))
def adD(a:List UInt8)(KK:(Int×Bool)->Prop):Prop:=
 ab (α:=Int) (fun c b=>if(decide (b<=34))=true then(if(decide (((Lt.Of b).1).Word=a))=true then(KK (b,true))else(c (i64.wrap (b+1))))else(KK (0,false))) 1
def Vg(a:Lt.Reader)(b:List (List UInt8))(KK:((Unit)×Lt.Reader)->Prop)(KP:Value->Lt.Reader->Prop):Prop:=
 if a.first=true then(if(!(decide ((b.length:Int)=1)))=true then(KP (Lt.flt 3) a)else(KK ((),(Lt.Reader.mk (Lt.Program.mk true a.p.Classes a.p.Globals a.p.Externs a.p.Funcs) a.at_ a.where_ a.first a.long))))else(KP (Lt.flt 3) a)
def G6(a:Lt.Reader)(b:List (List UInt8))(KK:((Unit)×Lt.Reader)->Prop)(KP:Value->Lt.Reader->Prop):Prop:=
 if(!(iI [0,1] a.where_))=true then(KP (Lt.flt 3) a)else((b.length<=4611686018427387904->if(!(decide ((b.length:Int)=2)))=true then(KP (Lt.flt 3) a)else(((0:Int)<=1/\1<b.length)/\True/\exQ (cN (b.getD 1 default)) (fun c=>(a.p.Classes.length<=4611686018427387904->if(decide (8<=(a.p.Classes.length:Int)))=true then(KP (Lt.flt 2) a)else(aa (α:=Lt.Reader) (fun d=>((a.p.Classes.length+([(Lt.Class.mk c [])]:List Lt.Class).length<=4611686018427387904/\(a.p.Classes.length+([(Lt.Class.mk c [])]:List Lt.Class).length)*40<=140737488355328)/\d (Lt.Reader.mk (Lt.Program.mk a.p.SSA (a.p.Classes++([(Lt.Class.mk c [])]:List Lt.Class)) a.p.Globals a.p.Externs a.p.Funcs) a.at_ a.where_ a.first a.long))/\((a.p.Classes.length+([(Lt.Class.mk c [])]:List Lt.Class).length<=4611686018427387904/\(a.p.Classes.length+([(Lt.Class.mk c [])]:List Lt.Class).length)*40<=140737488355328)/\d (Lt.Reader.mk (Lt.Program.mk a.p.SSA (a.p.Classes++([(Lt.Class.mk c [])]:List Lt.Class)) a.p.Globals a.p.Externs a.p.Funcs) a.at_ a.where_ a.first a.long))) (fun v3=>KK ((),(Lt.Reader.mk v3.p v3.at_ 1 v3.first v3.long)))))) (fun v=>KP v a))))
def G7(a:Lt.Reader)(b:List (List UInt8))(KK:((Unit)×Lt.Reader)->Prop)(KP:Value->Lt.Reader->Prop):Prop:=
 have c:=(i64.wrap ((a.p.Classes.length:Int) - 1));have d:=(a.p.Classes.getD c.toNat default).Fields;if(!(iI [1] a.where_))=true then(KP (Lt.flt 3) a)else((b.length<=4611686018427387904->if(!(decide ((b.length:Int)=3)))=true then(KP (Lt.flt 3) a)else(aa (α:=Lt.Var) (fun e=>((0:Int)<=1/\1<b.length)/\((0:Int)<=2/\2<b.length)/\(True/\exQ (cN (b.getD 1 default)) (fun z5=>(True/\exQ (iF (b.getD 2 default)) (fun h=>e (Lt.Var.mk z5 h)) (fun v=>KP v a))/\(True/\exQ (iF (b.getD 2 default)) (fun i=>e (Lt.Var.mk z5 i)) (fun v=>KP v a))) (fun v=>KP v a))/\(True/\exQ (cN (b.getD 1 default)) (fun z3=>True/\exQ (iF (b.getD 2 default)) (fun z4=>e (Lt.Var.mk z3 z4)) (fun v=>KP v a)) (fun v=>KP v a))) (fun f=>have g:=((d.length+([f]:List Lt.Var).length<=4611686018427387904/\(d.length+([f]:List Lt.Var).length)*32<=140737488355328)/\c.toNat<a.p.Classes.length/\c.toNat=c.toNat/\KK ((),(Lt.Reader.mk (Lt.Program.mk a.p.SSA (a.p.Classes.set c.toNat (Lt.Class.mk ((a.p.Classes.getD c.toNat default).Name) (d++([f]:List Lt.Var)))) a.p.Globals a.p.Externs a.p.Funcs) a.at_ a.where_ a.first a.long)));(a.p.Classes.length<=4611686018427387904->((0:Int)<=c/\c < ((a.p.Classes.length:Nat):Int))/\(d.length<=4611686018427387904->if(decide (8<=(d.length:Int)))=true then(KP (Lt.flt 2) a)else(g/\g)))))))
def CW(a:Lt.Reader)(b:List (List UInt8))(KK:((Unit)×Lt.Reader)->Prop)(KP:Value->Lt.Reader->Prop):Prop:=
 if(!(iI [0,1] a.where_))=true then(KP (Lt.flt 3) a)else((b.length<=4611686018427387904->if(!(decide ((b.length:Int)=3)))=true then(KP (Lt.flt 3) a)else(aa (α:=Lt.Var) (fun c=>((0:Int)<=1/\1<b.length)/\((0:Int)<=2/\2<b.length)/\(True/\exQ (cN (b.getD 1 default)) (fun z5=>(True/\exQ (iF (b.getD 2 default)) (fun f=>c (Lt.Var.mk z5 f)) (fun v=>KP v a))/\(True/\exQ (iF (b.getD 2 default)) (fun g=>c (Lt.Var.mk z5 g)) (fun v=>KP v a))) (fun v=>KP v a))/\(True/\exQ (cN (b.getD 1 default)) (fun z3=>True/\exQ (iF (b.getD 2 default)) (fun z4=>c (Lt.Var.mk z3 z4)) (fun v=>KP v a)) (fun v=>KP v a))) (fun d=>(a.p.Globals.length<=4611686018427387904->if(decide (8<=(a.p.Globals.length:Int)))=true then(KP (Lt.flt 2) a)else(aa (α:=Lt.Reader) (fun h=>have e:=((a.p.Globals.length+([d]:List Lt.Var).length<=4611686018427387904/\(a.p.Globals.length+([d]:List Lt.Var).length)*32<=140737488355328)/\h (Lt.Reader.mk (Lt.Program.mk a.p.SSA a.p.Classes (a.p.Globals++([d]:List Lt.Var)) a.p.Externs a.p.Funcs) a.at_ a.where_ a.first a.long));e/\e) (fun v9=>KK ((),(Lt.Reader.mk v9.p v9.at_ 0 v9.first v9.long)))))))))
def CV(a:Lt.Reader)(b:List (List UInt8))(KK:((Unit)×Lt.Reader)->Prop)(KP:Value->Lt.Reader->Prop):Prop:=
 have c:=rC (b.getD 2 default) 0 8;if(!(iI [0,1] a.where_))=true then(KP (Lt.flt 3) a)else((b.length<=4611686018427387904->if(!(decide ((b.length:Int)=3)))=true then(KP (Lt.flt 3) a)else(aa (α:=Lt.Extern) (fun d=>((0:Int)<=1/\1<b.length)/\((0:Int)<=2/\2<b.length)/\(True/\exQ (cN (b.getD 1 default)) (fun z5=>(True/\exQ c (fun g=>d (Lt.Extern.mk z5 g)) (fun v=>KP v a))/\(True/\exQ c (fun h=>d (Lt.Extern.mk z5 h)) (fun v=>KP v a))) (fun v=>KP v a))/\(True/\exQ (cN (b.getD 1 default)) (fun z3=>True/\exQ c (fun z4=>d (Lt.Extern.mk z3 z4)) (fun v=>KP v a)) (fun v=>KP v a))) (fun e=>(a.p.Externs.length<=4611686018427387904->if(decide (8<=(a.p.Externs.length:Int)))=true then(KP (Lt.flt 2) a)else(aa (α:=Lt.Reader) (fun i=>have f:=((a.p.Externs.length+([e]:List Lt.Extern).length<=4611686018427387904/\(a.p.Externs.length+([e]:List Lt.Extern).length)*24<=140737488355328)/\i (Lt.Reader.mk (Lt.Program.mk a.p.SSA a.p.Classes a.p.Globals (a.p.Externs++([e]:List Lt.Extern)) a.p.Funcs) a.at_ a.where_ a.first a.long));f/\f) (fun v9=>KK ((),(Lt.Reader.mk v9.p v9.at_ 0 v9.first v9.long)))))))))
def xi(a:Lt.Reader)(b:List (List UInt8))(KK:((Unit)×Lt.Reader)->Prop)(KP:Value->Lt.Reader->Prop):Prop:=
 if(!(iI [0,1] a.where_))=true then(KP (Lt.flt 3) a)else((b.length<=4611686018427387904->if(!(decide ((b.length:Int)=3)))=true then(KP (Lt.flt 3) a)else(aa (α:=Lt.Func) (fun d=>((0:Int)<=1/\1<b.length)/\((0:Int)<=2/\2<b.length)/\(True/\exQ (cN (b.getD 1 default)) (fun z5=>(True/\exQ (iF (b.getD 2 default)) (fun g=>d (Lt.Func.mk z5 g [] [] [])) (fun v=>KP v a))/\(True/\exQ (iF (b.getD 2 default)) (fun h=>d (Lt.Func.mk z5 h [] [] [])) (fun v=>KP v a))) (fun v=>KP v a))/\(True/\exQ (cN (b.getD 1 default)) (fun z3=>True/\exQ (iF (b.getD 2 default)) (fun z4=>d (Lt.Func.mk z3 z4 [] [] [])) (fun v=>KP v a)) (fun v=>KP v a))) (fun f=>have c:=([(Lt.Func.mk f.Name f.Result [] [] [])]:List Lt.Func);(a.p.Funcs.length<=4611686018427387904->if(decide (8<=(a.p.Funcs.length:Int)))=true then(KP (Lt.flt 2) a)else(aa (α:=Lt.Reader) (fun i=>have e:=((a.p.Funcs.length+c.length<=4611686018427387904/\(a.p.Funcs.length+c.length)*104<=140737488355328)/\i (Lt.Reader.mk (Lt.Program.mk a.p.SSA a.p.Classes a.p.Globals a.p.Externs (a.p.Funcs++c)) a.at_ a.where_ a.first a.long));e/\e) (fun v9=>KK ((),(Lt.Reader.mk v9.p v9.at_ 2 v9.first 0)))))))))
def G9(a:Lt.Reader)(b:List (List UInt8))(KK:((Unit)×Lt.Reader)->Prop)(KP:Value->Lt.Reader->Prop):Prop:=
 have d:=(i64.wrap ((a.p.Funcs.length:Int) - 1));have c:=a.p.Funcs.getD d.toNat default;if(!(iI [2] a.where_))=true then(KP (Lt.flt 3) a)else((b.length<=4611686018427387904->if(!(decide ((b.length:Int)=3)))=true then(KP (Lt.flt 3) a)else(aa (α:=Lt.Var) (fun e=>((0:Int)<=1/\1<b.length)/\((0:Int)<=2/\2<b.length)/\(True/\exQ (cN (b.getD 1 default)) (fun z5=>(True/\exQ (iF (b.getD 2 default)) (fun h=>e (Lt.Var.mk z5 h)) (fun v=>KP v a))/\(True/\exQ (iF (b.getD 2 default)) (fun i=>e (Lt.Var.mk z5 i)) (fun v=>KP v a))) (fun v=>KP v a))/\(True/\exQ (cN (b.getD 1 default)) (fun z3=>True/\exQ (iF (b.getD 2 default)) (fun z4=>e (Lt.Var.mk z3 z4)) (fun v=>KP v a)) (fun v=>KP v a))) (fun f=>have g:=(((c.Params).length+([f]:List Lt.Var).length<=4611686018427387904/\((c.Params).length+([f]:List Lt.Var).length)*32<=140737488355328)/\d.toNat<a.p.Funcs.length/\d.toNat=d.toNat/\KK ((),(Lt.Reader.mk (Lt.Program.mk a.p.SSA a.p.Classes a.p.Globals a.p.Externs (a.p.Funcs.set d.toNat (Lt.Func.mk (c.Name) (c.Result) ((c.Params)++([f]:List Lt.Var)) (c.Vars) (c.Blocks)))) a.at_ a.where_ a.first a.long)));(a.p.Funcs.length<=4611686018427387904->((0:Int)<=d/\d < ((a.p.Funcs.length:Nat):Int))/\((c.Params).length<=4611686018427387904->if(decide (6<=((c.Params).length:Int)))=true then(KP (Lt.flt 2) a)else(g/\g)))))))
def xj(a:Lt.Reader)(b:List (List UInt8))(KK:((Unit)×Lt.Reader)->Prop)(KP:Value->Lt.Reader->Prop):Prop:=
 have d:=(i64.wrap ((a.p.Funcs.length:Int) - 1));have c:=a.p.Funcs.getD d.toNat default;if(!(iI [2,3] a.where_))=true then(KP (Lt.flt 3) a)else((b.length<=4611686018427387904->if(!(decide ((b.length:Int)=3)))=true then(KP (Lt.flt 3) a)else(aa (α:=Lt.Var) (fun e=>((0:Int)<=1/\1<b.length)/\((0:Int)<=2/\2<b.length)/\(True/\exQ (cN (b.getD 1 default)) (fun z5=>(True/\exQ (iF (b.getD 2 default)) (fun h=>e (Lt.Var.mk z5 h)) (fun v=>KP v a))/\(True/\exQ (iF (b.getD 2 default)) (fun i=>e (Lt.Var.mk z5 i)) (fun v=>KP v a))) (fun v=>KP v a))/\(True/\exQ (cN (b.getD 1 default)) (fun z3=>True/\exQ (iF (b.getD 2 default)) (fun z4=>e (Lt.Var.mk z3 z4)) (fun v=>KP v a)) (fun v=>KP v a))) (fun f=>(a.p.Funcs.length<=4611686018427387904->((0:Int)<=d/\d < ((a.p.Funcs.length:Nat):Int))/\((c.Vars).length<=4611686018427387904->if(decide (1024<=((c.Vars).length:Int)))=true then(KP (Lt.flt 2) a)else(aa (α:=Lt.Reader) (fun j=>have g:=(((c.Vars).length+([f]:List Lt.Var).length<=4611686018427387904/\((c.Vars).length+([f]:List Lt.Var).length)*32<=140737488355328)/\d.toNat<a.p.Funcs.length/\d.toNat=d.toNat/\j (Lt.Reader.mk (Lt.Program.mk a.p.SSA a.p.Classes a.p.Globals a.p.Externs (a.p.Funcs.set d.toNat (Lt.Func.mk (c.Name) (c.Result) (c.Params) ((c.Vars)++([f]:List Lt.Var)) (c.Blocks)))) a.at_ a.where_ a.first a.long));g/\g) (fun v9=>KK ((),(Lt.Reader.mk v9.p v9.at_ 3 v9.first v9.long))))))))))
def Ia(a:Lt.Reader)(b:List (List UInt8))(KK:((Unit)×Lt.Reader)->Prop)(KP:Value->Lt.Reader->Prop):Prop:=
 have c:=(i64.wrap ((a.p.Funcs.length:Int) - 1));have z4:=a.p.Funcs.getD c.toNat default;aa (α:=Unit) (fun d=>if(decide (a.where_=2))=true then(if false=true then(KP (Lt.flt 3) a)else(d ()))else(if(decide (a.where_=3))=true then(if false=true then(KP (Lt.flt 3) a)else(d ()))else(if(decide (a.where_=0))=true then(if(decide (0<=a.long))=true then(if(!(decide (0 < (a.p.Funcs.length:Int))))=true then(KP (Lt.flt 3) a)else(d ()))else(KP (Lt.flt 3) a))else(KP (Lt.flt 3) a)))) (fun g=>(b.length<=4611686018427387904->if(!(decide ((b.length:Int)=2)))=true then(KP (Lt.flt 3) a)else(((0:Int)<=1/\1<b.length)/\True/\exQ (cN (b.getD 1 default)) (fun z3=>have z5:=([(Lt.Block.mk z3 [] [] (Lt.Term.mk 0 (Lt.Arg.mk 0 ([]:List UInt8) 0) [] 0))]:List Lt.Block);(a.p.Funcs.length<=4611686018427387904->((0:Int)<=c/\c < ((a.p.Funcs.length:Nat):Int))/\((z4.Blocks).length<=4611686018427387904->if(decide (256<=((z4.Blocks).length:Int)))=true then(KP (Lt.flt 2) a)else(aa (α:=Lt.Reader) (fun f=>have e:=(((z4.Blocks).length+z5.length<=4611686018427387904/\((z4.Blocks).length+z5.length)*136<=140737488355328)/\c.toNat<a.p.Funcs.length/\c.toNat=c.toNat/\f (Lt.Reader.mk (Lt.Program.mk a.p.SSA a.p.Classes a.p.Globals a.p.Externs (a.p.Funcs.set c.toNat (Lt.Func.mk (z4.Name) (z4.Result) (z4.Params) (z4.Vars) ((z4.Blocks)++z5)))) a.at_ a.where_ a.first a.long));e/\e) (fun v5=>KK ((),(Lt.Reader.mk v5.p v5.at_ 4 v5.first v5.long))))))) (fun v=>KP v a))))
def Vf(a:Lt.Reader)(b:List (List UInt8))(KK:((Unit)×Lt.Reader)->Prop)(KP:Value->Lt.Reader->Prop):Prop:=
 have z5:=(i64.wrap ((a.p.Funcs.length:Int) - 1));have d:=(a.p.Funcs.getD z5.toNat default);have z4:=(i64.wrap (((d.Blocks).length:Int) - 1));have c:=(d.Blocks).getD z4.toNat default;if(!(iI [4] a.where_))=true then(KP (Lt.flt 3) a)else((b.length<=4611686018427387904->if(decide (4<=(b.length:Int)))=true then((2:Int)≠0/\if(!(decide ((Int.tmod (b.length:Int) 2)=0)))=true then(KP (Lt.flt 3) a)else(((0:Int)<=1/\1<b.length)/\True/\exQ (cN (b.getD 1 default)) (fun o=>ab (α:=Int×Lt.Phi) (fun n v3=>have e:=BL (b.getD (i64.wrap (v3.1+1)).toNat default) false;have z3:=(((c.Phis).length+([v3.2]:List Lt.Phi).length<=4611686018427387904/\((c.Phis).length+([v3.2]:List Lt.Phi).length)*40<=140737488355328)/\z5.toNat<a.p.Funcs.length/\z4.toNat < (d.Blocks).length/\z5.toNat=z5.toNat/\z4.toNat=z4.toNat/\KK ((),(Lt.Reader.mk (Lt.Program.mk a.p.SSA a.p.Classes a.p.Globals a.p.Externs (a.p.Funcs.set z5.toNat (Lt.Func.mk (d.Name) (d.Result) (d.Params) (d.Vars) ((d.Blocks).set z4.toNat (Lt.Block.mk (c.Name) ((c.Phis)++([v3.2]:List Lt.Phi)) (c.Code) (Lt.Term.mk ((c.End).Kind) ((c.End).A) ((c.End).To) ((c.End).N))))))) a.at_ a.where_ a.first (i64.wrap (a.long+1)))));(b.length<=4611686018427387904->if(decide (v3.1 < (b.length:Int)))=true then(aa (α:=Lt.Phi) (fun j=>((0:Int)<=v3.1/\v3.1.toNat<b.length)/\((0:Int)<=(i64.wrap (v3.1+1))/\(i64.wrap (v3.1+1)).toNat<b.length)/\(True/\exQ (cN (b.getD v3.1.toNat default)) (fun z9=>True/\exQ e (fun k=>have g:=([(Lt.In.mk z9 k)]:List Lt.In);(v3.2.Ins.length+g.length<=4611686018427387904/\(v3.2.Ins.length+g.length)*48<=140737488355328)/\j (Lt.Phi.mk v3.2.Dst (v3.2.Ins++g))) (fun v=>KP v a)) (fun v=>KP v a))/\(True/\exQ (cN (b.getD v3.1.toNat default)) (fun l=>(True/\exQ e (fun q=>have f:=([(Lt.In.mk l q)]:List Lt.In);(v3.2.Ins.length+f.length<=4611686018427387904/\(v3.2.Ins.length+f.length)*48<=140737488355328)/\j (Lt.Phi.mk v3.2.Dst (v3.2.Ins++f))) (fun v=>KP v a))/\(True/\exQ e (fun m=>have h:=([(Lt.In.mk l m)]:List Lt.In);have i:=((v3.2.Ins.length+h.length<=4611686018427387904/\(v3.2.Ins.length+h.length)*48<=140737488355328)/\j (Lt.Phi.mk v3.2.Dst (v3.2.Ins++h)));i/\i) (fun v=>KP v a))) (fun v=>KP v a))) (fun v5=>n ((i64.wrap (v3.1+2)),v5)))else((v3.2.Ins.length<=4611686018427387904->if(decide (256<=(i64.wrap ((v3.2.Ins.length:Int) - 1))))=true then(KP (Lt.flt 2) a)else(if(decide (1024<=a.long))=true then(KP (Lt.flt 2) a)else((a.p.Funcs.length<=4611686018427387904->((0:Int)<=z5/\z5 < ((a.p.Funcs.length:Nat):Int))/\((d.Blocks).length<=4611686018427387904->((0:Int)<=z4/\z4 < (((d.Blocks).length:Nat):Int))/\z3/\z3)))))))) (2,(Lt.Phi.mk o []))) (fun v=>KP v a)))else(KP (Lt.flt 3) a)))
def Pm(a:Lt.Reader)(b:List (List UInt8))(KK:((Unit)×Lt.Reader)->Prop)(KP:Value->Lt.Reader->Prop):Prop:=
 have k:=(i64.wrap ((a.p.Funcs.length:Int) - 1));have g:=(a.p.Funcs.getD k.toNat default);have z4:=(i64.wrap (((g.Blocks).length:Int) - 1));have i:=(g.Blocks).getD z4.toNat default;if(!(iI [4,5,6,7] a.where_))=true then(KP (Lt.flt 3) a)else(aa (α:=List (List UInt8)×Lt.Instr) (fun x=>aa (α:=Bool) (fun z=>(b.length<=4611686018427387904->if(decide (2 < (b.length:Int)))=true then(((0:Int)<=1/\1<b.length)/\z (decide ((b.getD 1 default)=[61])))else(z false))) (fun v4=>if v4=true then(((0:Int)<=0/\0<b.length)/\True/\exQ (cN (b.getD 0 default)) (fun z5=>(0:Int)<=2/\(2<=b.length/\b.length<=b.length)/\x (((b.drop 2).take (b.length - 2)),(Lt.Instr.mk 0 z5 ([]:List UInt8) [] [] []))) (fun v=>KP v a))else(x (b,(Lt.Instr.mk 0 ([]:List UInt8) ([]:List UInt8) [] [] []))))) (fun e=>have f:=Lt.yOp (e.1.getD 0 default);have z3:=(e.1.drop 1).take (e.1.length - 1);have h:=(z3.drop 0).take (1 - 0);((0:Int)<=0/\0<e.1.length)/\if(!(f.2))=true then(KP (Lt.flt 3) a)else(if(!(((Lt.Of (f.1)).1).Dst==(!decide (e.2.Dst=([]:List UInt8)))))=true then(KP (Lt.flt 3) a)else((0:Int)<=1/\(1<=e.1.length/\e.1.length<=e.1.length)/\aa (α:=Lt.Instr) (fun r=>aa (α:=Bool) (fun y=>if(decide (f.1=26))=true then(y true)else(y (decide (f.1=27)))) (fun v9=>if v9=true then((z3.length<=4611686018427387904->if(!(decide (2<=(z3.length:Int))))=true then(KP (Lt.flt 3) a)else(((0:Int)<=1/\1<z3.length)/\True/\exQ (cN (z3.getD 1 default)) (fun t=>(0:Int)<=1/\(0<=1/\1<=z3.length)/\(0:Int)<=2/\(2<=z3.length/\z3.length<=z3.length)/\(h.length<=4611686018427387904->ab (α:=List Lt.Arg×Int) (fun q c=>if(decide (c.2 < (h.length:Int)))=true then(((0:Int)<=c.2/\c.2.toNat<h.length)/\True/\exQ (BL (h.getD c.2.toNat default) false) (fun j=>(c.1.length+([j]:List Lt.Arg).length<=4611686018427387904/\(c.1.length+([j]:List Lt.Arg).length)*32<=140737488355328)/\q ((c.1++([j]:List Lt.Arg)),(i64.wrap (c.2+1)))) (fun v=>KP v a))else((kS ((z3.drop 2).take (z3.length - 2)) false)/\exQ (rX ((z3.drop 2).take (z3.length - 2)) false) (fun l=>(c.1.length+l.length<=4611686018427387904/\(c.1.length+l.length)*32<=140737488355328)/\r (Lt.Instr.mk (f.1) e.2.Dst t (c.1++l) [] [])) (fun v=>KP v a))) ([],0))) (fun v=>KP v a))))else(if(((Lt.Of (f.1)).1).Named)=true then((z3.length<=4611686018427387904->if(!(decide (1<=(z3.length:Int))))=true then(KP (Lt.flt 3) a)else(((0:Int)<=0/\0<z3.length)/\True/\exQ (cN (z3.getD 0 default)) (fun u=>(0:Int)<=1/\(1<=z3.length/\z3.length<=z3.length)/\(kS ((z3.drop 1).take (z3.length - 1)) false)/\exQ (rX ((z3.drop 1).take (z3.length - 1)) false) (fun w=>r (Lt.Instr.mk (f.1) e.2.Dst u w [] [])) (fun v=>KP v a)) (fun v=>KP v a))))else((kS z3 false)/\exQ (rX z3 false) (fun s=>r (Lt.Instr.mk (f.1) e.2.Dst e.2.Name s [] [])) (fun v=>KP v a))))) (fun m=>have z9:=([(Lt.Instr.mk m.Op m.Dst m.Name m.Args [] [])]:List Lt.Instr);(m.Args.length<=4611686018427387904->if(decide (((Lt.Of (f.1)).1).Least<=(m.Args.length:Int)))=true then(if(!(decide ((m.Args.length:Int)<=((Lt.Of (f.1)).1).Most)))=true then(KP (Lt.flt 3) a)else(if(decide (1024<=a.long))=true then(KP (Lt.flt 2) a)else((a.p.Funcs.length<=4611686018427387904->((0:Int)<=k/\k < ((a.p.Funcs.length:Nat):Int))/\((g.Blocks).length<=4611686018427387904->((0:Int)<=z4/\z4 < (((g.Blocks).length:Nat):Int))/\aa (α:=Lt.Reader) (fun o=>have B:=(((i.Code).length+z9.length<=4611686018427387904/\((i.Code).length+z9.length)*112<=140737488355328)/\k.toNat<a.p.Funcs.length/\z4.toNat < (g.Blocks).length/\k.toNat=k.toNat/\z4.toNat=z4.toNat/\o (Lt.Reader.mk (Lt.Program.mk a.p.SSA a.p.Classes a.p.Globals a.p.Externs (a.p.Funcs.set k.toNat (Lt.Func.mk (g.Name) (g.Result) (g.Params) (g.Vars) ((g.Blocks).set z4.toNat (Lt.Block.mk (i.Name) (i.Phis) ((i.Code)++z9) (Lt.Term.mk ((i.End).Kind) ((i.End).A) ((i.End).To) ((i.End).N))))))) a.at_ a.where_ a.first (i64.wrap (a.long+1))));B/\B) (fun d=>aa (α:=Bool) (fun n=>if(decide (f.1=31))=true then(n true)else(n (decide (f.1=34)))) (fun v21=>if v21=true then(KK ((),(Lt.Reader.mk d.p d.at_ 6 d.first d.long)))else(KK ((),(Lt.Reader.mk d.p d.at_ 5 d.first d.long))))))))))else(KP (Lt.flt 3) a)))))))
def G8(a:Lt.Reader)(c:List (List UInt8))(KK:((Unit)×Lt.Reader)->Prop)(KP:Value->Lt.Reader->Prop):Prop:=
 have z24:=rC (c.getD 3 default) 0 1024;have g:=(i64.wrap ((a.p.Funcs.length:Int) - 1));have d:=(a.p.Funcs.getD g.toNat default);have z21:=(i64.wrap (((d.Blocks).length:Int) - 1));have h:=((d.Blocks).getD z21.toNat default);have f:=(i64.wrap (((h.Code).length:Int) - 1));have e:=((h.Code).getD f.toNat default);if(!(iI [6] a.where_))=true then(KP (Lt.flt 3) a)else((c.length<=4611686018427387904->if(decide (4<=(c.length:Int)))=true then((2:Int)≠0/\if(!(decide ((Int.tmod (c.length:Int) 2)=0)))=true then(KP (Lt.flt 3) a)else(aa (α:=Lt.Frame) (fun m=>((0:Int)<=1/\1<c.length)/\((0:Int)<=2/\2<c.length)/\((0:Int)<=3/\3<c.length)/\(True/\exQ (cN (c.getD 1 default)) (fun t=>(True/\exQ (cN (c.getD 2 default)) (fun z9=>(True/\exQ z24 (fun n=>m (Lt.Frame.mk t z9 n [])) (fun v=>KP v a))/\(True/\exQ z24 (fun s=>m (Lt.Frame.mk t z9 s [])) (fun v=>KP v a))) (fun v=>KP v a))/\(True/\exQ (cN (c.getD 2 default)) (fun B=>True/\exQ z24 (fun z=>m (Lt.Frame.mk t B z [])) (fun v=>KP v a)) (fun v=>KP v a))) (fun v=>KP v a))/\(True/\exQ (cN (c.getD 1 default)) (fun z3=>True/\exQ (cN (c.getD 2 default)) (fun z4=>True/\exQ z24 (fun z5=>m (Lt.Frame.mk z3 z4 z5 [])) (fun v=>KP v a)) (fun v=>KP v a)) (fun v=>KP v a))) (fun q=>ab (α:=Int×Lt.Frame) (fun x b=>have z23:=BL (c.getD (i64.wrap (b.1+1)).toNat default) true;have y:=(((e.Frames).length+([b.2]:List Lt.Frame).length<=4611686018427387904/\((e.Frames).length+([b.2]:List Lt.Frame).length)*64<=140737488355328)/\g.toNat<a.p.Funcs.length/\z21.toNat < (d.Blocks).length/\f.toNat < (h.Code).length/\g.toNat=g.toNat/\z21.toNat=z21.toNat/\f.toNat=f.toNat/\KK ((),(Lt.Reader.mk (Lt.Program.mk a.p.SSA a.p.Classes a.p.Globals a.p.Externs (a.p.Funcs.set g.toNat (Lt.Func.mk (d.Name) (d.Result) (d.Params) (d.Vars) ((d.Blocks).set z21.toNat (Lt.Block.mk (h.Name) (h.Phis) ((h.Code).set f.toNat (Lt.Instr.mk (e.Op) (e.Dst) (e.Name) (e.Args) ((e.Frames)++([b.2]:List Lt.Frame)) (e.Objs))) (Lt.Term.mk ((h.End).Kind) ((h.End).A) ((h.End).To) ((h.End).N))))))) a.at_ a.where_ a.first a.long)));(c.length<=4611686018427387904->if(decide (b.1 < (c.length:Int)))=true then(aa (α:=Lt.Frame) (fun i=>((0:Int)<=b.1/\b.1.toNat<c.length)/\((0:Int)<=(i64.wrap (b.1+1))/\(i64.wrap (b.1+1)).toNat<c.length)/\(True/\exQ (cN (c.getD b.1.toNat default)) (fun u=>True/\exQ z23 (fun z20=>have j:=([(Lt.Bind.mk u z20)]:List Lt.Bind);(b.2.Vars.length+j.length<=4611686018427387904/\(b.2.Vars.length+j.length)*48<=140737488355328)/\i (Lt.Frame.mk b.2.Func b.2.Block b.2.At (b.2.Vars++j))) (fun v=>KP v a)) (fun v=>KP v a))/\(True/\exQ (cN (c.getD b.1.toNat default)) (fun l=>(True/\exQ z23 (fun o=>have z26:=([(Lt.Bind.mk l o)]:List Lt.Bind);(b.2.Vars.length+z26.length<=4611686018427387904/\(b.2.Vars.length+z26.length)*48<=140737488355328)/\i (Lt.Frame.mk b.2.Func b.2.Block b.2.At (b.2.Vars++z26))) (fun v=>KP v a))/\(True/\exQ z23 (fun r=>have z27:=([(Lt.Bind.mk l r)]:List Lt.Bind);have k:=((b.2.Vars.length+z27.length<=4611686018427387904/\(b.2.Vars.length+z27.length)*48<=140737488355328)/\i (Lt.Frame.mk b.2.Func b.2.Block b.2.At (b.2.Vars++z27)));k/\k) (fun v=>KP v a))) (fun v=>KP v a))) (fun w=>x ((i64.wrap (b.1+2)),w)))else((b.2.Vars.length<=4611686018427387904->if(decide (16<=(i64.wrap ((b.2.Vars.length:Int) - 1))))=true then(KP (Lt.flt 2) a)else((a.p.Funcs.length<=4611686018427387904->((0:Int)<=g/\g < ((a.p.Funcs.length:Nat):Int))/\((d.Blocks).length<=4611686018427387904->((0:Int)<=z21/\z21 < (((d.Blocks).length:Nat):Int))/\((h.Code).length<=4611686018427387904->((0:Int)<=f/\f < (((h.Code).length:Nat):Int))/\((e.Frames).length<=4611686018427387904->if(decide (16<=((e.Frames).length:Int)))=true then(KP (Lt.flt 2) a)else(y/\y)))))))))) (4,(Lt.Frame.mk q.Func q.Block q.At [])))))else(KP (Lt.flt 3) a)))
def CY(a:Lt.Reader)(b:List (List UInt8))(KK:((Unit)×Lt.Reader)->Prop)(KP:Value->Lt.Reader->Prop):Prop:=
 have f:=(b.drop 2).take (b.length - 2);have e:=(i64.wrap ((a.p.Funcs.length:Int) - 1));have h:=(a.p.Funcs.getD e.toNat default);have c:=(i64.wrap (((h.Blocks).length:Int) - 1));have g:=((h.Blocks).getD c.toNat default);have d:=(i64.wrap (((g.Code).length:Int) - 1));have z9:=((g.Code).getD d.toNat default);if(!(iI [6,7] a.where_))=true then(KP (Lt.flt 3) a)else((b.length<=4611686018427387904->if(decide (2<=(b.length:Int)))=true then(if(!(decide ((b.length:Int)<=10)))=true then(KP (Lt.flt 3) a)else(aa (α:=Lt.Virt) (fun i=>((0:Int)<=1/\1<b.length)/\(0:Int)<=2/\(2<=b.length/\b.length<=b.length)/\(True/\exQ (cN (b.getD 1 default)) (fun z5=>((kS f true)/\exQ (rX f true) (fun l=>i (Lt.Virt.mk z5 l)) (fun v=>KP v a))/\((kS f true)/\exQ (rX f true) (fun m=>i (Lt.Virt.mk z5 m)) (fun v=>KP v a))) (fun v=>KP v a))/\(True/\exQ (cN (b.getD 1 default)) (fun z3=>(kS f true)/\exQ (rX f true) (fun z4=>i (Lt.Virt.mk z3 z4)) (fun v=>KP v a)) (fun v=>KP v a))) (fun j=>(a.p.Funcs.length<=4611686018427387904->((0:Int)<=e/\e < ((a.p.Funcs.length:Nat):Int))/\((h.Blocks).length<=4611686018427387904->((0:Int)<=c/\c < (((h.Blocks).length:Nat):Int))/\((g.Code).length<=4611686018427387904->((0:Int)<=d/\d < (((g.Code).length:Nat):Int))/\((z9.Objs).length<=4611686018427387904->if(decide (99<=((z9.Objs).length:Int)))=true then(KP (Lt.flt 2) a)else(aa (α:=Lt.Reader) (fun n=>have k:=(((z9.Objs).length+([j]:List Lt.Virt).length<=4611686018427387904/\((z9.Objs).length+([j]:List Lt.Virt).length)*40<=140737488355328)/\e.toNat<a.p.Funcs.length/\c.toNat < (h.Blocks).length/\d.toNat < (g.Code).length/\e.toNat=e.toNat/\c.toNat=c.toNat/\d.toNat=d.toNat/\n (Lt.Reader.mk (Lt.Program.mk a.p.SSA a.p.Classes a.p.Globals a.p.Externs (a.p.Funcs.set e.toNat (Lt.Func.mk (h.Name) (h.Result) (h.Params) (h.Vars) ((h.Blocks).set c.toNat (Lt.Block.mk (g.Name) (g.Phis) ((g.Code).set d.toNat (Lt.Instr.mk (z9.Op) (z9.Dst) (z9.Name) (z9.Args) (z9.Frames) ((z9.Objs)++([j]:List Lt.Virt)))) (Lt.Term.mk ((g.End).Kind) ((g.End).A) ((g.End).To) ((g.End).N))))))) a.at_ a.where_ a.first a.long));k/\k) (fun v9=>KK ((),(Lt.Reader.mk v9.p v9.at_ 7 v9.first v9.long)))))))))))else(KP (Lt.flt 3) a)))
def Vd(a:Lt.Reader)(b:List (List UInt8))(KK:((Unit)×Lt.Reader)->Prop)(KP:Value->Lt.Reader->Prop):Prop:=
 have e:=(!(decide ((b.length:Int)=2)));have d:=((0:Int)<=1/\1<b.length);have z9:=(i64.wrap ((a.p.Funcs.length:Int) - 1));have c:=(a.p.Funcs.getD z9.toNat default);have g:=(i64.wrap (((c.Blocks).length:Int) - 1));have f:=(c.Blocks).getD g.toNat default;if(!(iI [4,5,6,7] a.where_))=true then(KP (Lt.flt 3) a)else(aa (α:=Lt.Term) (fun h=>((0:Int)<=0/\0<b.length)/\if(decide ((b.getD 0 default)=[106,117,109,112]))=true then((b.length<=4611686018427387904->if e=true then(KP (Lt.flt 3) a)else(d/\True/\exQ (cN (b.getD 1 default)) (fun z3=>h (Lt.Term.mk 1 (Lt.Arg.mk 0 ([]:List UInt8) 0) [z3] 0)) (fun v=>KP v a))))else(if(decide ((b.getD 0 default)=[98,114,97,110,99,104]))=true then((b.length<=4611686018427387904->if(!(decide ((b.length:Int)=4)))=true then(KP (Lt.flt 3) a)else(d/\((0:Int)<=2/\2<b.length)/\((0:Int)<=3/\3<b.length)/\True/\exQ (BL (b.getD 1 default) false) (fun z4=>True/\exQ (cN (b.getD 2 default)) (fun z5=>True/\exQ (cN (b.getD 3 default)) (fun k=>h (Lt.Term.mk 2 z4 [z5,k] 0)) (fun v=>KP v a)) (fun v=>KP v a)) (fun v=>KP v a))))else(if(decide ((b.getD 0 default)=[114,101,116]))=true then((b.length<=4611686018427387904->if e=true then(KP (Lt.flt 3) a)else(d/\True/\exQ (BL (b.getD 1 default) false) (fun j=>h (Lt.Term.mk 3 j [] 0)) (fun v=>KP v a))))else((b.length<=4611686018427387904->if e=true then(KP (Lt.flt 3) a)else(d/\if(!((fe (b.getD 1 default)).2))=true then(KP (Lt.flt 3) a)else(h (Lt.Term.mk 4 (Lt.Arg.mk 0 ([]:List UInt8) 0) [] ((fe (b.getD 1 default)).1))))))))) (fun l=>aa (α:=Lt.Reader) (fun m=>have i:=((a.p.Funcs.length<=4611686018427387904->((0:Int)<=z9/\z9 < ((a.p.Funcs.length:Nat):Int))/\((c.Blocks).length<=4611686018427387904->((0:Int)<=g/\g < (((c.Blocks).length:Nat):Int))/\z9.toNat<a.p.Funcs.length/\g.toNat < (c.Blocks).length/\m (Lt.Reader.mk (Lt.Program.mk a.p.SSA a.p.Classes a.p.Globals a.p.Externs (a.p.Funcs.set z9.toNat (Lt.Func.mk (c.Name) (c.Result) (c.Params) (c.Vars) ((c.Blocks).set g.toNat (Lt.Block.mk (f.Name) (f.Phis) (f.Code) l))))) a.at_ a.where_ a.first a.long))));i/\i) (fun v9=>KK ((),(Lt.Reader.mk v9.p v9.at_ 0 v9.first v9.long)))))
def yGo(r:Lt.Reader)(l:List (List UInt8))(KK:((Unit)×Lt.Reader)->Prop)(KP:Value->Lt.Reader->Prop)(X:Except Value Unit×Lt.Reader):Prop:=
 (r.p.Classes.length<=4611686018427387904->(r.p.Globals.length<=4611686018427387904->(r.p.Externs.length<=4611686018427387904->bG r l/\exP X (fun _ x=>aa (α:=Lt.Reader) (fun a=>(x.p.Classes.length<=4611686018427387904->(x.p.Globals.length<=4611686018427387904->(x.p.Externs.length<=4611686018427387904->if(decide ((i64.wrap ((i64.wrap ((r.p.Classes.length:Int)+(r.p.Globals.length:Int)))+(r.p.Externs.length:Int))) < (i64.wrap ((i64.wrap ((x.p.Classes.length:Int)+(x.p.Globals.length:Int)))+(x.p.Externs.length:Int)))))=true then(a (Lt.Reader.mk x.p x.at_ x.where_ x.first (-1)))else(a x))))) (fun v=>KK ((),(Lt.Reader.mk v.p v.at_ v.where_ false v.long)))) (fun v x=>KP v x))))
def oJ(r:Lt.Reader)(l:List (List UInt8))(KK:((Unit)×Lt.Reader)->Prop)(KP:Value->Lt.Reader->Prop)(X:Except Value Unit×Lt.Reader):Prop:=
 aa (α:=Bool) (fun a=>(l.length<=4611686018427387904->if(decide (2 < (l.length:Int)))=true then(((0:Int)<=1/\1<l.length)/\a (decide ((l.getD 1 default)=[61])))else(a false))) (fun b=>if b=true then yGo r l KK KP (xV r l)else yGo r l KK KP X)
def Pq(r:Lt.Reader)(l:List (List UInt8))(KK:((Unit)×Lt.Reader)->Prop)(KP:Value->Lt.Reader->Prop):Prop:=
 ((0:Int)<=0/\0<l.length)/\if decide ((l.getD 0 default)=[115,115,97])=true then oJ r l KK KP (ac3 r l)else if decide ((l.getD 0 default)=[99,108,97,115,115])=true then oJ r l KK KP (Gm r l)else if decide ((l.getD 0 default)=[102,105,101,108,100])=true then oJ r l KK KP (Gp r l)else if decide ((l.getD 0 default)=[103,108,111,98,97,108])=true then oJ r l KK KP (yH r l)else if decide ((l.getD 0 default)=[101,120,116,101,114,110])=true then oJ r l KK KP (yG r l)else if decide ((l.getD 0 default)=[102,117,110,99])=true then oJ r l KK KP (rA r l)else if decide ((l.getD 0 default)=[112,97,114,97,109])=true then oJ r l KK KP (Gs r l)else if decide ((l.getD 0 default)=[118,97,114])=true then oJ r l KK KP (rE r l)else if decide ((l.getD 0 default)=[98,108,111,99,107])=true then oJ r l KK KP (Gt r l)else if decide ((l.getD 0 default)=[112,104,105])=true then oJ r l KK KP (ac2 r l)else if decide ((l.getD 0 default)=[97,116])=true then oJ r l KK KP (Gq r l)else if decide ((l.getD 0 default)=[111,98,106])=true then oJ r l KK KP (rD r l)else if decide ((l.getD 0 default)=[106,117,109,112])=true then oJ r l KK KP (Gn r l)else if decide ((l.getD 0 default)=[98,114,97,110,99,104])=true then oJ r l KK KP (Gn r l)else if decide ((l.getD 0 default)=[114,101,116])=true then oJ r l KK KP (Gn r l)else if decide ((l.getD 0 default)=[116,114,97,112])=true then oJ r l KK KP (Gn r l)else oJ r l KK KP (xV r l)
def yZ(a:List UInt8)(KK:(Lt.Program×Int×Int)->Prop):Prop:=
 have b:=Lt.Program.mk false [] [] [] [];if(!decide ((gj a).2.2=0))=true then(aa (α:=Lt.Program×Int×Int) (fun g=>have f:=(g (b,(gj a).2.1,(gj a).2.2))/\(g (b,(gj a).2.1,(gj a).2.2));((g (b,(gj a).2.1,(gj a).2.2))/\f)/\f/\f) (fun h=>KK ((Lt.Program.mk h.1.SSA [] [] [] []),h.2.1,h.2.2)))else((((gj a).1).length<=4611686018427387904->ab (α:=Int×Lt.Reader) (fun i v4=>have z3:=((gj a).1).getD v4.1.toNat default;if(decide (v4.1 < (((gj a).1).length:Int)))=true then(((0:Int)<=v4.1/\v4.1.toNat < ((gj a).1).length)/\(bG (Lt.Reader.mk v4.2.p (z3.N) v4.2.where_ v4.2.first v4.2.long) (z3.Words))/\exP (BM (Lt.Reader.mk v4.2.p (z3.N) v4.2.where_ v4.2.first v4.2.long) (z3.Words)) (fun z5 e=>i ((i64.wrap (v4.1+1)),e)) (fun v e=>∃d:Int,v=Lt.flt d/\(Lit.int .i64 d).wf=true/\((KK (b,e.at_,d))/\((KK (b,e.at_,d))/\(KK (b,e.at_,d))))))else(if(!(iI [0,1] v4.2.where_))=true then(∃c:Int,(Lt.flt 3)=Lt.flt c/\(Lit.int .i64 c).wf=true/\((KK (b,0,c))/\((KK (b,0,c))/\(KK (b,0,c)))))else(KK (v4.2.p,0,0)))) (0,(Lt.Reader.mk b 0 0 true (-1)))))
end Go.Am
end

section
namespace Go.Am
open Go
open Lt (nmB toB Gd Rc bkB phB bj Bare dp)
def CLv(f:Lt.Func)(v:List UInt8)(o:List Bool)(i:Nat):Prop:=v ∉ bj (bkB f i)->∀k,k<f.Blocks.length->nmB f.Blocks k∈toB f.Blocks i->v ∉ phB f k->o.getD k false=true
structure BI (f:Lt.Func) (v:List UInt8) (l o:List Bool):Prop where
 len:o.length=f.Blocks.length
 sd:∀k,o.getD k false=true->Bare f v k/\v ∉ phB f k
 mono:∀k,l.getD k false=true->o.getD k false=true
 less:o=l\/sA o<sA l
 cl:(∀i,i<f.Blocks.length->l.getD i false=true->CLv f v l i)->o=l
theorem Ue{o:List Bool}{k:Nat}(h:o.getD k false=true):o.set k true=o:=by
 refine akC fun j=>?_
 grind
theorem BI.set{f:Lt.Func}{v:List UInt8}{l o:List Bool}(h:BI f v l o){i k:Nat}(hi:i<f.Blocks.length)(ho:o.getD i false=true)(hs:v ∉ bj (bkB f i))(hk:k<f.Blocks.length)(he:nmB f.Blocks k∈toB f.Blocks i)(hp:v ∉ phB f k):BI f v l (o.set k true):=by
 have hl:k<o.length:=by grind [len]
 by_cases hc:o.getD k false=true
 ·grind [Ue]
 have hb:=h.sd i ho
 have hct:=ug o k (by grind)
 refine⟨by grind [len],fun j hj=>?_,fun j hj=>?_,?_,fun hcl=>?_⟩
 ·rw[fO hl]at hj;by_cases e:j=k
  ·subst e;exact⟨.next i j hb.1 hb.2 hs hi hk he,hp⟩
  grind [sd]
 ·grind [fO,mono]
 ·rcases h.less with rfl|hlt
  all_goals omega
 ·have e:=h.cl hcl
  subst e;exact absurd (hcl i hi ho hs k hk he hp) hc
end Go.Am
end

section
namespace Go.Am
open Go
theorem iT{n:Nat}(h:n < 10):Lt.digs n=[UInt8.ofNat (48+n)]:=by
 grind [Lt.digs]
theorem pv{n:Nat}(h:¬ n < 10):Lt.digs n=Lt.digs (n / 10)++[UInt8.ofNat (48+n % 10)]:=by
 grind [Lt.digs]
theorem I5:∀(k n:Nat),n < 10 ^ (k+1)->(Lt.digs n).length<=k+1
 |0,n,h=>by grind [iT]
 |k+1,n,h=>by
  by_cases a:n < 10
  ·grind [iT]
  rw[pv a];have:=I5 k (n / 10) kQ1
  grind
theorem gQ{n:Int}(h:Lt.inR n):(aF n).length<=20:=by
 unfold Lt.inR at h;have:=I5 18 n.natAbs kQ1
 grind [aF]
theorem cH{n:Nat}(h:n < 18446744073709551616):IntKind.u64.wrap (n:Int)=(n:Int):=by
 grind [IntKind.wrap,IntKind.signed,IntKind.bits]
variable{α:Type}
theorem P7(f g:α->List UInt8)(l:List α):(l.flatMap fun b=>[f b,g b]).length=2*l.length:=by
 induction l<;>grind
variable{β:Type}
theorem j9[Inhabited α](f:α->List β)(l:List α){i:Nat}(h:i<l.length):(l.take (i+1)).flatMap f=(l.take i).flatMap f++f (l.getD i default):=by
 grind [aB]
theorem MR(n:Int):(fa n).length=18:=by rfl
theorem Zi(op:Int):(Lt.Of op).1.Most<=8:=by
 grind (splits:=20) [Lt.Of]
variable{op:Int}
theorem Vn(h:op=26\/op=27):1<=(Lt.Of op).1.Least:=by
 rcases h with rfl|rfl<;>decide
structure InstrOk (i:Lt.Instr):Prop where
 args:i.Args.length<=8
 frames:i.Frames.length<=16
 objs:i.Objs.length<=99
 fr:∀f∈i.Frames,Lt.frame f=true
 ob:∀o∈i.Objs,Lt.virt o=true
 least:i.Op=26\/i.Op=27->1<=i.Args.length
 aok:bK i.Args false=true
 of:(Lt.Of i.Op).2=true
 dst:(Lt.Of i.Op).1.Dst=!decide (i.Dst=[])
 nm:(Lt.Of i.Op).1.Named=!decide (i.Name=[])
 dstN:(Lt.Of i.Op).1.Dst=true->Lt.Name i.Dst=true
 nmN:(Lt.Of i.Op).1.Named=true->Lt.Name i.Name=true
 lo:(Lt.Of i.Op).1.Least<=(i.Args.length:Int)
 hi:(i.Args.length:Int)<=(Lt.Of i.Op).1.Most
 none:i.Op≠31/\i.Op≠34->i.Frames=[]/\i.Objs=[]
variable{i:Lt.Instr}
theorem eL(h:Lt.instr i=true):InstrOk i:=by
 unfold Lt.instr at h;simp only[aiW,decide_eq_true_eq,beq_iff_eq,ajQ,Bool.and_eq_false_iff]at h;obtain⟨⟨⟨⟨⟨⟨h1,h2⟩,h3⟩,h4⟩,h5⟩,⟨⟨⟨h6,h7⟩,h8⟩,h9⟩,b⟩,c⟩:=h;have d:=Zi i.Op
 have a:(∀f∈i.Frames,Lt.frame f=true)/\(∀o∈i.Objs,Lt.virt o=true):=by
  grind
 refine⟨by omega,h9,b,a.1,a.2,fun ho=>?_,h8,h1,h2,h3,fun hd=>?_,fun hd=>?_,h6,h7,fun ho=>?_⟩
 ·have:=Vn ho
  omega
 all_goals grind
theorem pC{f:Lt.Frame}(h:Lt.frame f=true):Lt.Name f.Func=true/\Lt.Name f.Block=true/\0<=f.At/\f.At<=1024/\f.Vars.length<=16/\∀b∈f.Vars,gU b=true:=by
 grind [Lt.frame]
theorem yF{o:Lt.Virt}(h:Lt.virt o=true):Lt.Name o.Class=true/\o.Vals.length<=8/\bK o.Vals true=true:=by
 grind [Lt.virt]
theorem A0{x:Lt.Phi}(h:Lt.phi x=true):Lt.Name x.Dst=true/\x.Ins≠[]/\x.Ins.length<=256/\∀i∈x.Ins,lE i=true:=by
 grind [Lt.phi]
theorem mz{b:Lt.Block}(h:Lt.block b=true):Lt.Name b.Name=true/\dv b.End=true/\(∀x∈b.Phis,Lt.phi x=true)/\∀i∈b.Code,Lt.instr i=true:=by
 grind [Lt.block]
def longs(l:List Lt.Block):Nat:=(l.map fun b=>b.Phis.length+b.Code.length).sum
theorem C5:∀(l:List Lt.Block)(n:Nat),n<=1024->Lt.blocks l n=true->n+longs l<=1024/\∀b∈l,Lt.block b=true
 |[],n,hn,_=>⟨by grind [longs],by simp⟩
 |b::r,n,hn,h=>by
  simp only[Lt.blocks,aiW,decide_eq_true_eq]at h;obtain⟨⟨h1,h2⟩,h3⟩:=h;obtain⟨k1,k2⟩:=C5 r _ h1 h3
  grind [longs]
structure FuncOk (f:Lt.Func):Prop where
 name:Lt.Name f.Name=true
 res:Lt.kind f.Result=true
 params:Lt.typed f.Params 6=true
 vars:Lt.typed f.Vars 1024=true
 ne:f.Blocks≠[]
 len:f.Blocks.length<=256
 long:longs f.Blocks<=1024
 bl:∀b∈f.Blocks,Lt.block b=true
theorem nO{f:Lt.Func}(h:ay f=true):FuncOk f:=by
 unfold ay at h;simp only[aiW,decide_eq_true_eq,ajQ,decide_eq_false_iff_not]at h;obtain⟨⟨⟨⟨⟨⟨h1,h2⟩,h3⟩,h4⟩,h5⟩,h6⟩,h7⟩:=h;obtain⟨k1,k2⟩:=C5 _ 0 kQ1 h7;exact⟨h1,h2,h3,h4,h5,h6,by omega,k2⟩
structure ProgOk (p:Lt.Program):Prop where
 nc:p.Classes.length<=8
 ne:p.Externs.length<=8
 nf:p.Funcs.length<=8
 glob:Lt.typed p.Globals 8=true
 cl:∀c∈p.Classes,bL c=true
 ex:∀x∈p.Externs,cc x=true
 fn:∀f∈p.Funcs,ay f=true
theorem ra{p:Lt.Program}(h:bH p=true):ProgOk p:=by
 unfold bH at h;simp only[aiW,decide_eq_true_eq,ajB]at h;obtain⟨⟨⟨⟨h1,h2⟩,h3⟩,h4⟩,h5,h6,h7⟩:=h;exact⟨h1,h2,h3,h4,h5,h6,h7⟩
variable{a:Lt.Arg}
theorem eV(h:aW a=true):(a.Kind=1/\Lt.Name a.S=true/\a.N=0)\/(a.Kind=2/\a.S=[])\/(a.Kind=3/\a.S=[]/\Lt.Plain a.N=a.N)\/(a.Kind=4/\a.S=[]/\a.N=0)\/(a.Kind=5/\a.S=[]/\0<=a.N/\a.N<=999):=by
 grind (splits:=20) [aW]
theorem Ak:∀(k:Nat)(x:Int)(l:List UInt8),(nT k x l).length=k+l.length
 |0,_,_=>by simp[nT]
 |k+1,x,l=>by rw[nT,Ak k];grind
theorem sF(f:β->α->β)(b:β)(l:List α)(x:α):(l++[x]).foldl f b=f (l.foldl f b) x:=by simp
theorem Af(n:Int):Lt.inR (QH n):=by
 have:=wf_wrap (k:=.i64) n
 simp only[Lit.wf,aiW,decide_eq_true_eq]at this;have h1:i64.min=-9223372036854775808:=by decide
 have h2:i64.max=9223372036854775807:=by decide
 grind [Lt.inR,QH]
theorem D2(p:α->Bool)(d:α):∀l:List α,((List.range l.length).all fun i=>p (l.getD i d))=l.all p
 |[]=>rfl
 |a::r=>by
  rw[ai1,List.range_succ_eq_map,ajE,List.all_map];have:=D2 p d r
  grind
theorem D1(i:Nat)(c:UInt8):FX i c=(Lt.letter c||(kg c&&decide (0<i))):=by
 grind [FX,Lt.letter,uB,kg]
theorem aU(s:List UInt8):cu s=Lt.Name s:=by
 unfold cu Lt.Name Lt.kept;cases s with
 |nil=>rfl
 |cons a r=>
  rw[ai1,List.range_succ_eq_map,ajE,List.all_map];have e:((List.range r.length).all ((fun i=>FX i ((a::r).getD i 0)) ∘ Nat.succ))=r.all iw:=by
   rw[<- D2 iw 0 r]
   grind [D1,iw]
  grind [D1,iw]
theorem XR(x:Nat):(9218868437227405312<x % 9223372036854775808) ↔ ((x &&& 9218868437227405312)=9218868437227405312/\(x &&& 4503599627370495)≠0):=by
 have a:x &&& 4503599627370495=x % 2 ^ 52:=akW x 52
 have d:x &&& 9223372036854775807=x % 2 ^ 63:=akW x 63
 have b:(x &&& 9218868437227405312) % 2 ^ 52=0:=by
  rw[<- akW,Nat.and_assoc]
  grind
 have c:x &&& 9223372036854775807=(x &&& 9218868437227405312) ||| (x &&& 4503599627370495):=by
  rw[<- Nat.and_or_distrib_left];rfl
 obtain⟨q,hq⟩:∃q,x &&& 9218868437227405312=2 ^ 52*q:=⟨_,(Nat.mul_div_cancel' (Nat.dvd_of_mod_eq_zero b)).symm⟩
 have h:=Nat.and_le_right (n:=x) (m:=9218868437227405312)
 rw[hq,a,<- Nat.two_pow_add_eq_or_of_lt (ak8 _ (by decide))]at c;omega
theorem iE(n:Int):IntKind.u64.wrap n=(((BitVec.ofInt 64 n).toNat:Nat):Int):=by
 grind [BitVec.toNat_ofInt,IntKind.wrap,IntKind.signed,IntKind.bits]
theorem kM(n:Int):cY n=Lt.Plain n:=by
 unfold cY Yq Lt.Plain;have a:i64.bits=64:=rfl
 rw[iE,a,BitVec.toNat_and,BitVec.toNat_and];generalize(BitVec.ofInt 64 n).toNat=x;have b:(BitVec.ofInt 64 9218868437227405312).toNat=9218868437227405312:=by decide
 have c2:(BitVec.ofInt 64 4503599627370495).toNat=4503599627370495:=by decide
 rw[b,c2];have h1:=Nat.and_le_right (n:=x) (m:=9218868437227405312)
 have h2:=Nat.and_le_right (n:=x) (m:=4503599627370495)
 have:=XR x
 grind [dt]
def SS:List UInt8:=[48,49,50,51,52,53,54,55,56,57,97,98,99,100,101,102]
def lU(k:Nat):UInt8:=SS.getD (k % 16) 0
theorem E8(k:Nat):afV (k:Int)=lU k:=by
 unfold afV lU;have e:Int.tmod (k:Int) 16=((k % 16:Nat):Int):=rfl
 rw[e];have h:k % 16 < 16:=ak8 _ (by decide)
 generalize k % 16=j at h;have:∀j:Fin 16,UInt8.ofNat (IntKind.u8.wrap ((IntKind.u8.wrap ((j.1:Nat):Int))+(if IntKind.u8.wrap ((j.1:Nat):Int) < 10 then 48 else 87))).toNat=SS.getD j.1 0:=by decide
 exact this ⟨j,h⟩
theorem yw:∀(k m:Nat)(l:List UInt8),m < 18446744073709551616->nT k (m:Int) l=((List.range k).map fun i=>lU (m / 16 ^ (k - 1-i)))++l
 |0,m,l,_=>rfl
 |k+1,m,l,h=>by
  rw[nT,show Int.tdiv (m:Int) 16=((m / 16:Nat):Int)from rfl,cH kQ1,yw k (m / 16) _ kQ1,E8,List.range_succ,aj1];have e:(List.range k).map (fun i=>lU (m / 16 / 16 ^ (k - 1-i)))=(List.range k).map (fun i=>lU (m / 16 ^ (k+1 - 1-i))):=by
   refine ajG (fun i hi=>?_);have hi:i<k:=List.mem_range.1 hi
   rw[Nat.div_div_eq_div_mul,show k+1 - 1-i=(k - 1-i)+1 by omega,Nat.pow_succ,Nat.mul_comm 16]
  grind
theorem W9(u:Int)(s:Nat)(hs:s<=60):Qe u (s:Int)=lU ((BitVec.ofInt 64 u).toNat / 2 ^ s):=by
 unfold Qe;have b:IntKind.u64.bits=64:=rfl
 rw[iE u,cH (n:=s) kQ1,b,Int.toNat_natCast,Nat.min_eq_left kQ1];have hx:=(BitVec.ofInt 64 u).isLt
 generalize(BitVec.ofInt 64 u).toNat=x at hx⊢;have e:Int.fdiv (x:Int) (2 ^ s)=((x / 2 ^ s:Nat):Int):=by
  grind
 have d:x / 2 ^ s < 18446744073709551616:=Nat.lt_of_le_of_lt (Nat.div_le_self _ _) hx
 have a:(BitVec.ofInt 64 15).toNat=15:=by decide
 have c:(BitVec.ofInt 64 ((x / 2 ^ s:Nat):Int)).toNat=x / 2 ^ s:=by
  grind [BitVec.toNat_ofInt]
 rw[e,BitVec.toNat_and,a,c];have f:(x / 2 ^ s &&& 15:Nat)=x / 2 ^ s % 16:=akW _ 4
 rw[f,cH kQ1,Int.toNat_natCast];rfl
theorem zW(n:Int):oU n=fa n:=by
 unfold oU fa;rw[kM,iE,yw 16 _ _ (BitVec.isLt _),alB]
 congr 1
 refine ajG (fun i hi=>?_);have hi:i < 16:=List.mem_range.1 hi
 have e:(60:Int) - 4*(i:Int)=((60 - 4*i:Nat):Int):=by omega
 rw[e,W9 _ _ kQ1];rw[show 60 - 4*i=4*(16 - 1-i)by omega,Nat.pow_mul]
theorem Bl(a:Lt.Arg):FY a=aW a:=by
 grind [FY,aW,aU,kM,decide]
theorem rz(a:Lt.Arg):ic a=al a:=by
 grind [ic,al,Ck,Bl,zW,eV]
theorem pY(op:Int):(Lt.rOf op).2=(Lt.Of op).2/\(Lt.rOf op).1.Word=(Lt.Of op).1.Word/\(Lt.rOf op).1.Dst=(Lt.Of op).1.Dst/\(Lt.rOf op).1.Named=(Lt.Of op).1.Named/\(Lt.rOf op).1.Least=(Lt.Of op).1.Least/\(Lt.rOf op).1.Most=(Lt.Of op).1.Most:=by
 by_cases h:1<=op/\op<=34
 ·obtain⟨k,rfl⟩:=ak1 (show 0<=op by omega);have hk:k < 35:=by omega
  have:∀k:Fin 35,1<=k.1->(Lt.rOf (k.1:Int)).2=(Lt.Of (k.1:Int)).2/\(Lt.rOf (k.1:Int)).1.Word=(Lt.Of (k.1:Int)).1.Word/\(Lt.rOf (k.1:Int)).1.Dst=(Lt.Of (k.1:Int)).1.Dst/\(Lt.rOf (k.1:Int)).1.Named=(Lt.Of (k.1:Int)).1.Named/\(Lt.rOf (k.1:Int)).1.Least=(Lt.Of (k.1:Int)).1.Least/\(Lt.rOf (k.1:Int)).1.Most=(Lt.Of (k.1:Int)).1.Most:=by decide +kernel
  exact this ⟨k,hk⟩ (by grind)
 grind (splits:=20) [Lt.rOf,Lt.Of]
theorem sC:∀(n:Nat),∀c∈Lt.digs n,48<=c.toNat/\c.toNat<=57:=by
 intro n;induction n using Nat.strongRecOn with
 |_ n ih=>
  have hd:∀k:Nat,k < 10->(UInt8.ofNat (48+k)).toNat=48+k:=fun k hk=>by simp;omega
  by_cases h:n < 10
  all_goals grind [iT,pv]
theorem E0(n:Nat):Lt.digs n≠[]:=by
 by_cases h:n < 10
 all_goals simp_all[iT,pv]
theorem Qk{m:Nat}{c:UInt8}(h1:48<=c.toNat)(h2:c.toNat<=57)(h3:10*m+(c.toNat - 48) < 18446744073709551616):D9 (m:Int) c=((10*m+(c.toNat - 48):Nat):Int):=by
 grind [D9,IntKind.wrap,IntKind.signed,IntKind.bits]
theorem SA:∀(n:Nat),n < 18446744073709551616->(Lt.digs n).foldl D9 0=(n:Int):=by
 intro n;induction n using Nat.strongRecOn with
 |_ n ih=>
  intro hn;have hd:∀k:Nat,k < 10->(UInt8.ofNat (48+k)).toNat=48+k:=fun k hk=>by simp;omega
  by_cases h:n < 10
  ·rw[iT h];show D9 ((0:Nat):Int) _=_
   rw[Qk (by grind) (by grind) (by grind),hd n h];omega
  rw[pv h,sF,ih (n / 10) kQ1 kQ1];have:=ak8 n (show 10 > 0 by decide)
  rw[Qk (by grind) (by grind) (by grind),hd _ this];omega
theorem XW{n:Int}(h:Lt.inR n):QI (aF n)=n:=by
 have hl:=gQ h
 unfold Lt.inR at h;have c:=E0 n.natAbs
 have a:=sC n.natAbs
 have hf:=SA n.natAbs kQ1
 unfold QI YE QH;rw[aj7 (show(aF n).length<=30 by omega)];by_cases hn:n < 0
 ·grind [aF,IntKind.wrap,IntKind.signed,IntKind.bits]
 have e:aF n=Lt.digs n.natAbs:=by grind [aF]
 rw[e];have b:¬ (Lt.digs n.natAbs).getD 0 0=45:=by
  intro e;cases d:Lt.digs n.natAbs<;>simp_all
 grind [IntKind.wrap,IntKind.bits]
theorem jD{n:Int}(h:Lt.inR n):bw (aF n)=(n,true):=by
 grind [bw,XW,Ck]
theorem jz(n:Int):∀c∈aF n,c=45\/(48<=c.toNat/\c.toNat<=57):=by
 grind [aF,sC]
theorem wu(n:Int):aF n≠[]:=by
 grind [aF,E0]
theorem Xb(k:Nat):(if 97<=(IntKind.u64.wrap (((lU k).toNat:Nat):Int))then IntKind.u64.wrap ((IntKind.u64.wrap (((lU k).toNat:Nat):Int)) - 87)else IntKind.u64.wrap ((IntKind.u64.wrap (((lU k).toNat:Nat):Int)) - 48))=((k % 16:Nat):Int):=by
 unfold lU;have h:k % 16 < 16:=ak8 _ (by decide)
 generalize k % 16=j at h;have:∀j:Fin 16,(if 97<=(IntKind.u64.wrap (((SS.getD j.1 0).toNat:Nat):Int))then IntKind.u64.wrap ((IntKind.u64.wrap (((SS.getD j.1 0).toNat:Nat):Int)) - 87)else IntKind.u64.wrap ((IntKind.u64.wrap (((SS.getD j.1 0).toNat:Nat):Int)) - 48))=((j.1:Nat):Int):=by decide
 exact this ⟨j,h⟩
theorem aaO{u k:Nat}(h:16*u+15 < 18446744073709551616):Ld (u:Int) (lU k)=((16*u+k % 16:Nat):Int):=by
 unfold Ld;rw[Xb];have e:Int.tmod ((k % 16:Nat):Int) 16=((k % 16:Nat):Int):=by
  grind
 rw[e];have a:=ak8 k (show 16 > 0 by decide)
 rw[show((u:Nat):Int)*16=((16*u:Nat):Int)by omega,cH kQ1,show((16*u:Nat):Int)+((k % 16:Nat):Int)=((16*u+k % 16:Nat):Int)by omega,cH kQ1]
theorem we:∀(k m:Nat)(l:List UInt8),m < 18446744073709551616->k<=16->(nT k (m:Int) l).foldl Ld 0=l.foldl Ld ((m % 16 ^ k:Nat):Int)
 |0,m,l,_,_=>by grind [nT]
 |k+1,m,l,h,hk=>by
  rw[nT,show Int.tdiv (m:Int) 16=((m / 16:Nat):Int)from rfl,cH kQ1,we k (m / 16) _ kQ1 kQ1,E8,akO];have hp:16 ^ k<=16 ^ 15:=Nat.pow_le_pow_right (by decide) kQ1
  have b:=ak8 (m / 16) (show 16 ^ k > 0 from Nat.pow_pos (by decide))
  have a:(16:Nat) ^ 15=1152921504606846976:=by decide
  rw[aaO kQ1]
  congr 2
  grind [Nat.mod_mul]
theorem DR{n:Int}(h:Lt.inR n):Lt.inR (cY n):=by
 grind [cY,Lt.inR]
theorem WU{n:Int}(h:Lt.inR n):Le (oU n)=cY n:=by
 have hp:=DR h
 unfold Lt.inR at hp;unfold Le oU;have hx:IntKind.u64.wrap (cY n)=(((IntKind.u64.wrap (cY n)).toNat:Nat):Int):=by
  rw[iE];rfl
 have a:(IntKind.u64.wrap (cY n)).toNat < 18446744073709551616:=by
  rw[iE];omega
 have hl:=Ak 16 (IntKind.u64.wrap (cY n)) []
 have b:([48,102]++nT 16 (IntKind.u64.wrap (cY n)) []).drop 2=nT 16 (IntKind.u64.wrap (cY n)) []:=rfl
 rw[b,aj7 (by grind),hx,we 16 _ _ a kQ1]
 grind [IntKind.wrap,IntKind.signed,IntKind.bits]
theorem Yp(n:Int):(oU n).length=18:=by rfl
theorem Og(n:Int):oU (cY n)=oU n:=by
 grind [oU,cY]
theorem uZ{n:Int}(h:Lt.inR n):jC (oU n)=(cY n,true):=by
 grind [jC,WU,Yp,Og]
theorem fD(s:List UInt8)(a:Lt.Arg):oA s a=true ↔ aW a=true/\al a=s:=by
 grind [oA,Bl,rz]
theorem sR{a:UInt8}{r:List UInt8}(h:Lt.Name (a::r)=true):Lt.letter a=true:=by
 grind [Lt.Name]
theorem FK(n:Int):Lt.Name (aF n)=false:=by
 cases b:aF n with
 |nil=>rfl
 |cons a r=>
  have hb:=jz n a (by grind)
  cases hN:Lt.Name (a::r)with
  |false=>rfl
  |true=>
   exfalso
   have:=sR hN
   unfold Lt.letter uB at this;rcases hb with rfl|hb
   all_goals grind
theorem LK{n:Int}:al ⟨2,[],n⟩=aF n:=by rfl
theorem Ek{n:Int}(h:Lt.Plain n=n):al ⟨3,[],n⟩=fa n:=by simp[al,aW,h]
theorem Y3:al ⟨4,[],0⟩=[110,117,108,108]:=by decide
theorem LL{n:Int}(h0:0<=n)(h1:n<=999):al ⟨5,[],n⟩=35::aF n:=by grind [al,aW]
variable{s:List UInt8}
theorem Y2(h:Lt.Name s=true):al ⟨1,s,0⟩=s:=by simp[al,aW,h]
theorem YU(s:List UInt8):oA s ⟨1,s,0⟩=Lt.Name s:=by
 grind [oA,Bl,rz,Y2,aW]
theorem m8(h:aW a=true)(ok:a.ok):Lt.cZ (al a)=(a,true):=by
 obtain⟨k,s,n⟩:=a;have ok:Lt.inR n:=ok
 rcases eV h with⟨hk,hN,hn⟩|⟨hk,hs⟩|⟨hk,hs,hp⟩|⟨hk,hs,hn⟩|⟨hk,hs,h0,h1⟩
 ·grind [Y2,Lt.cZ,YU]
 ·grind [LK,Lt.cZ,YU,FK,jD,fD]
 ·simp only at hk hs hp;subst hk;subst hs
  rw[Ek hp];have e:fa n=48::102::(fa n).drop 2:=rfl
  have hN:Lt.Name (fa n)=false:=by
   cases hN:Lt.Name (fa n)with
   |false=>rfl
   |true=>rw[e]at hN;have:=sR hN;revert this;decide
  have h2:∀m,oA (fa n) ⟨2,[],m⟩=false:=by
   intro m;cases b:oA (fa n) ⟨2,[],m⟩with
   |false=>rfl
   |true=>
    have:=((fD _ _).1 b).2
    rw[LK]at this;have hb:=jz m 102 (by grind)
    grind
  unfold Lt.cZ;rw[YU,hN,h2,if_neg (by decide),if_neg (by decide)];have c:(jC (fa n)).1=n:=by rw[<- zW,uZ ok,kM];exact hp
  grind [fD,Ek]
 ·simp only at hk hs hn;subst hk;subst hs;subst hn
  decide +kernel
 simp only at hk hs h0 h1;subst hk;subst hs
 rw[LL h0 h1];have hN:Lt.Name (35::aF n)=false:=by
  cases hN:Lt.Name (35::aF n)with
  |false=>rfl
  |true=>have:=sR hN;revert this;decide
 have h2:∀m,oA (35::aF n) ⟨2,[],m⟩=false:=by
  intro m;cases b:oA (35::aF n) ⟨2,[],m⟩with
  |false=>rfl
  |true=>
   have:=((fD _ _).1 b).2
   rw[LK]at this;have hb:=jz m 35 (by grind)
   grind
 have h3:∀m,oA (35::aF n) ⟨3,[],m⟩=false:=by
  intro m;cases b:oA (35::aF n) ⟨3,[],m⟩with
  |false=>rfl
  |true=>
   obtain⟨hr,this⟩:=(fD _ _).1 b;rcases eV hr with h|h|h|h|h
   all_goals grind [Ek,fa]
 grind [fD,Y3,Lt.cZ,YU,jD,LL]
theorem wL(h:(Lt.cZ s).2=true):aW (Lt.cZ s).1=true/\al (Lt.cZ s).1=s:=by
 grind [Lt.cZ,fD]
variable{objs:Bool}
theorem qx(h:bg objs a=true)(ok:a.ok):fg objs (al a)=true:=by
 grind [bg,fg,m8]
theorem si(h:fg objs s=true):bg objs (Lt.cZ s).1=true:=by
 grind [fg,bg,wL]
theorem D8{l:List Lt.Arg}(h:bK l objs=true)(ok:sk l):dG (Lt.puts l) objs=(l,true):=by
 unfold bK at h;rw[ajB]at h;unfold dG Lt.puts;have h1:(l.map al).all (fg objs)=true:=by
  rw[ajB];intro w hw;obtain⟨a,b,rfl⟩:=ajK.1 hw;exact qx (h a b) (ok a b)
 have h2:(l.map al).map (fun w=>(Lt.cZ w).1)=l:=by
  rw[aj9];have:∀a∈l,((fun w=>(Lt.cZ w).1) ∘ al) a=id a:=fun a b=>by
   show(Lt.cZ (al a)).1=a
   have:=h a b
   unfold bg at this;simp only[aiW]at this;rw[m8 this.1 (ok a b)]
  simp_all[ajG]
 grind
variable{l:List (List UInt8)}
theorem Bq(h:(dG l objs).2=true):bK (dG l objs).1 objs=true/\(dG l objs).1.length=l.length/\Lt.puts (dG l objs).1=l:=by
 unfold dG at h⊢;split at h
 ·rename_i hc;rw[if_pos hc];rw[ajB]at hc;refine⟨?_,by simp,?_⟩
  ·grind [bK,si]
  unfold Lt.puts;rw[aj9];have:∀w∈l,(al ∘ (fun w=>(Lt.cZ w).1)) w=id w:=fun w hw=>by
   grind [fg,wL]
  simp_all[ajG]
 grind
theorem sW:∀{l:List Lt.Bind},(∀b∈l,Lt.Name b.Name=true/\bg objs b.A=true/\b.A.ok)->db objs (l.flatMap fun b=>[b.Name,al b.A])=some l
 |[],_=>rfl
 |b::r,h=>by
  obtain⟨h1,h2,h3⟩:=h b (by simp);have ih:=sW (l:=r) (fun x hx=>h x (by grind))
  have a:aW b.A=true:=by
   grind [bg]
  rw[ajY];show db objs (b.Name::al b.A::(r.flatMap fun b=>[b.Name,al b.A]))=_
  simp_all[db,aU,qx,m8]
theorem xD:∀{l:List (List UInt8)}{x:List Lt.Bind},db objs l=some x->(∀b∈x,Lt.Name b.Name=true/\bg objs b.A=true)/\(x.flatMap fun b=>[b.Name,al b.A])=l
 |[],x,h=>by
  grind [db]
 |[_],x,h=>by grind [db]
 |a::b::r,x,h=>by
  rw[db]at h;split at h
  ·rename_i hc;rw[aiW,aU]at hc;cases hr:db objs r with
   |none=>grind
   |some y=>
    obtain⟨k1,k2⟩:=xD hr
    grind [si,fg,wL]
  grind
theorem KH(w:List UInt8):∀(l:List (List UInt8))(n m:Int),Ot w l n=(m,true)->∃i:Nat,i<l.length/\m=n+(i:Int)/\l.getD i []=w
 |[],n,m,h=>by grind [Ot]
 |x::r,n,m,h=>by
  rw[Ot]at h;split at h
  ·grind
  obtain⟨i,h1,h2,h3⟩:=KH w r _ _ h;exact⟨i+1,by grind,by omega,by grind⟩
theorem YF{w:List UInt8}(h:(Lt.sOp w).2=true):(1<=(Lt.sOp w).1/\(Lt.sOp w).1<=34)/\(Lt.Of (Lt.sOp w).1).1.Word=w/\(Lt.Of (Lt.sOp w).1).2=true:=by
 have e:Lt.sOp w=((Lt.sOp w).1,true):=by grind
 obtain⟨i,h1,h2,h3⟩:=KH w (gw.drop 1) 1 (Lt.sOp w).1 e;have hi:i < 34:=h1
 have ho:=pY (Lt.sOp w).1
 grind (splits:=20) [Lt.rOf]
theorem acH(h:(Lt.Of op).2=true):Lt.sOp (Lt.Of op).1.Word=(op,true):=by
 by_cases hc:1<=op/\op<=34
 ·obtain⟨k,rfl⟩:=ak1 (show 0<=op by omega);have hk:k < 35:=by omega
  have:∀k:Fin 35,1<=k.1->Lt.sOp (Lt.Of (k.1:Int)).1.Word=((k.1:Int),true):=by decide +kernel
  exact this ⟨k,hk⟩ (by grind)
 exfalso
 rw[<- (pY op).1]at h
 grind [Lt.rOf]
theorem cE(a b:List Lt.Line):bD (a++b)=bD a++bD b:=by simp[bD]
theorem kD(w:List (List UInt8)):bD [Lt.ln w]=Lt.lnT w:=by simp[bD,Lt.ln,Lt.lnT]
theorem mJ(f:α->List (List UInt8))(l:List α):bD (l.map fun x=>Lt.ln (f x))=l.flatMap fun x=>Lt.lnT (f x):=by
 induction l with
 |nil=>rfl
 |cons a r ih=>rw[aiZ,ajY,<- ih,<- kD,<- cE];rfl
theorem nW(f:α->List Lt.Line)(l:List α):bD (l.flatMap f)=l.flatMap fun x=>bD (f x):=by
 induction l with
 |nil=>rfl
 |cons a r ih=>grind [cE]
theorem nL{f g:α->List β}{l:List α}(h:∀x∈l,f x=g x):l.flatMap f=l.flatMap g:=by
 induction l<;>grind
theorem T1(h:Lt.instr i=true):Bi i=Lt.words i:=by
 have ho:=eL h
 obtain⟨_,a,c,d,_,_⟩:=pY i.Op;unfold Bi Lt.words K2 Lt.puts;have b:ic=al:=funext rz
 rw[a,c,d,b];by_cases hc:i.Op=26\/i.Op=27
 ·have:=ho.least hc
  cases e:i.Args<;>grind
 grind
variable{t:Lt.Term}
theorem qD(h:dv t=true) :
  (∃x,t=⟨1,⟨0,[],0⟩,[x],0⟩/\Lt.Name x=true)\/(∃a x y,t=⟨2,a,[x,y],0⟩/\bg false a=true/\Lt.Name x=true/\Lt.Name y=true) \/
  (∃a,t=⟨3,a,[],0⟩/\bg false a=true)\/(∃n,t=⟨4,⟨0,[],0⟩,[],n⟩):=by
 obtain⟨k,a,b,n⟩:=t;unfold dv DI at h;simp only[aiW,ajB]at h;obtain⟨c,h⟩:=h;split at h
 ·rename_i hk;simp only[aiW,decide_eq_true_eq]at h;obtain⟨⟨rfl,hl⟩,rfl⟩:=h;subst hk
  match b,hl with
  |[x],_=>grind
 split at h
 ·rename_i hk;simp only[aiW,decide_eq_true_eq]at h;obtain⟨⟨d,hl⟩,rfl⟩:=h;subst hk
  match b,hl with
  |[x,y],_=>grind
 split at h
 all_goals simp_all
theorem Yo(h:dv t=true):K0 t=Lt.lnT (ip t):=by
 unfold K0 QB ip Ck;rcases qD h with⟨x,rfl,_⟩|⟨a,x,y,rfl,_⟩|⟨a,rfl,_⟩|⟨n,rfl⟩
 all_goals simp_all[rz]
theorem wF(first:List UInt8)(l:List Lt.Var):wE first l=bD (gf first l):=(mJ (fun v:Lt.Var=>[first,v.Name,v.Type_]) l).symm
theorem TZ(h:Lt.instr i=true):wC i=bD (gY i):=by
 have a:ic=al:=funext rz
 unfold wC gY;rw[cE,cE,kD,mJ,mJ,T1 h];unfold ox gM wG ni Lt.puts;rw[a];rfl
theorem Oe{b:Lt.Block}(h:Lt.block b=true):rh b=bD (dS b):=by
 have a:ic=al:=funext rz
 obtain⟨_,he,_,hc⟩:=mz h;unfold rh dS;rw[cE,cE,cE,kD,mJ,nW,kD,Yo he,nL (fun x hx=>TZ (hc x hx))]
 grind [Bh,wz]
theorem T0{f:Lt.Func}(h:ay f=true):wD f=bD (gp f):=by
 have ho:=nO h
 grind [wD,gp,cE,kD,nW,wF,nL,Oe,FuncOk.bl]
theorem DZ{p:Lt.Program}(h:bH p=true):oy p=bD (kU p):=by
 have ho:=ra h
 unfold oy kU;rw[cE,cE,cE,cE,nW,nW,<- wF,nL (fun x hx=>T0 (ho.fn x hx))];have b:p.Classes.flatMap ri=p.Classes.flatMap fun x=>bD (dT x):=nL (fun c _=>by
  grind [ri,dT,cE,kD,wF])
 have a:p.Externs.flatMap pX=bD (p.Externs.map jc):=(mJ (fun x:Lt.Extern=>[[101,120,116,101,114,110],x.Name,Lt.number x.N]) p.Externs).symm
 grind [bD,kD]
def rP(c:UInt8):Bool:=decide (33<=c.toNat)&&decide (c.toNat<=126)&&!decide (c=59)
def fA(w:List UInt8):Prop:=w≠[]/\∀c∈w,rP c=true
def xA(x:Lt.Line):Prop:=x.Words≠[]/\∀w∈x.Words,fA w
theorem aO{w:List UInt8}(h:(!decide (w=[])&&w.all rP)=true):fA w:=by
 simp only[aiW,ajQ,decide_eq_false_iff_not,ajB]at h;exact h
theorem Ci{c:UInt8}(h:iw c=true):rP c=true:=by
 unfold iw Lt.letter uB kg at h;unfold rP;simp only[aj6,aiW,decide_eq_true_eq,ajQ,decide_eq_false_iff_not]at h⊢;refine⟨⟨by omega,by omega⟩,?_⟩;rintro rfl
 grind
theorem bP(h:Lt.Name s=true):fA s:=by
 unfold Lt.Name at h;simp only[aiW,ajQ,decide_eq_false_iff_not,ajB]at h;exact⟨h.1.1.1.1,fun c hc=>Ci (h.2 c hc)⟩
theorem Du(h:Lt.kind s=true):fA s:=by
 unfold Lt.kind at h;simp only[aj6,decide_eq_true_eq]at h;rcases h with(rfl|rfl)|h
 ·exact aO (by decide)
 ·exact aO (by decide)
 exact bP h
theorem pP(n:Int):fA (aF n):=by
 refine⟨wu n,fun c hc=>?_⟩;rcases jz n c hc with rfl|h
 ·decide
 unfold rP;simp only[aiW,decide_eq_true_eq,ajQ,decide_eq_false_iff_not];refine⟨⟨by omega,by omega⟩,?_⟩;rintro rfl
 grind
theorem SR(k:Nat):rP (lU k)=true:=by
 unfold lU;have h:k % 16 < 16:=ak8 _ (by decide)
 generalize k % 16=j at h;have:∀j:Fin 16,rP (SS.getD j.1 0)=true:=by decide
 exact this ⟨j,h⟩
theorem WV(n:Int):fA (fa n):=by
 refine⟨by simp[fa],fun c hc=>?_⟩;rw[<- zW]at hc;unfold oU at hc;rw[iE,yw 16 _ _ (BitVec.isLt _),alB]at hc;rcases ai9.1 hc with hc|hc
 ·simp only[ai7,ajX,or_false]at hc;rcases hc with rfl|rfl<;>decide
 grind [SR]
theorem Ux(h:aW a=true):fA (al a):=by
 obtain⟨k,s,n⟩:=a;rcases eV h with⟨hk,hN,hn⟩|⟨hk,hs⟩|⟨hk,hs,hp⟩|⟨hk,hs,hn⟩|⟨hk,hs,h0,h1⟩
 ·grind [Y2,bP]
 ·grind [LK,pP]
 ·grind [Ek,WV]
 ·simp only at hk hs hn;subst hk;subst hs;subst hn
  rw[Y3];exact aO (by decide)
 simp only at hk hs h0 h1;subst hk;subst hs
 rw[LL h0 h1];refine⟨by simp,fun c hc=>?_⟩;rcases ai7.1 hc with rfl|hc
 ·decide
 exact(pP n).2 c hc
theorem pd(h:bg objs a=true):fA (al a):=by
 grind [bg,Ux]
theorem DY{l:List Lt.Arg}(h:bK l objs=true):∀w∈Lt.puts l,fA w:=by
 intro w hw;obtain⟨a,b,rfl⟩:=ajK.1 hw
 grind [bK,pd]
theorem Zh(h:(Lt.Of op).2=true):fA (Lt.Of op).1.Word:=by
 by_cases hc:1<=op/\op<=34
 ·obtain⟨k,rfl⟩:=ak1 (show 0<=op by omega);have hk:k < 35:=by omega
  have:∀k:Fin 35,1<=k.1->(!decide ((Lt.Of (k.1:Int)).1.Word=[])&&(Lt.Of (k.1:Int)).1.Word.all rP)=true:=by decide +kernel
  exact aO (this ⟨k,hk⟩ (by grind))
 exfalso
 rw[<- (pY op).1]at h
 grind [Lt.rOf]
theorem az{w:List UInt8}(h:fA w)(hl:∀v∈l,fA v):∀v∈w::l,fA v:=by
 grind
theorem dl:∀v∈([]:List (List UInt8)),fA v:=by simp
theorem pH{a b:List (List UInt8)}(h:∀v∈a,fA v)(hl:∀v∈b,fA v):∀v∈a++b,fA v:=by
 grind
theorem Dq{n:α->List UInt8}{a:α->List UInt8}{l:List α}(h:∀x∈l,fA (n x)/\fA (a x)):∀v∈l.flatMap (fun x=>[n x,a x]),fA v:=by
 grind
theorem OK(h:Lt.instr i=true):xA (Lt.ln (Lt.words i)):=by
 have ho:=eL h
 have hp:=DY ho.aok
 refine⟨by simp[Lt.ln,Lt.words],?_⟩;show ∀w∈Lt.words i,fA w
 unfold Lt.words;refine pH (pH ?_ (az (Zh ho.of) dl)) ?_
 ·split
  ·rename_i hd;exact az (bP (ho.dstN hd)) (az (aO (by decide)) dl)
  grind
 grind [InstrOk.least,Lt.Of,Lt.puts,bP,InstrOk.nmN]
theorem oG{first:List UInt8}(hf:fA first){l:List Lt.Var}{n:Int}(h:Lt.typed l n=true):∀x∈gf first l,xA x:=by
 intro x hx;obtain⟨v,hv,rfl⟩:=ajK.1 hx;unfold Lt.typed at h;simp only[aiW,ajB]at h;have:=h.2 v hv
 exact⟨by simp[Lt.ln],az hf (az (bP this.1) (az (Du this.2) dl))⟩
theorem MJ(h:Lt.instr i=true):∀x∈gY i,xA x:=by
 have ho:=eL h
 unfold gY;intro x hx;rcases ai9.1 hx with hx|hx
 ·rcases ai9.1 hx with hx|hx
  ·grind [OK]
  obtain⟨f,hf,rfl⟩:=ajK.1 hx;obtain⟨h1,h2,_,_,_,h3⟩:=pC (ho.fr f hf);refine⟨by simp[Lt.ln,gM],pH (az (aO (by decide)) (az (bP h1) (az (bP h2) (az (pP _) dl)))) (Dq (fun b hb=>?_))⟩
  grind [gU,bP,pd]
 obtain⟨o,a,rfl⟩:=ajK.1 hx;obtain⟨h1,_,h3⟩:=yF (ho.ob o a);exact⟨by simp[Lt.ln,ni],pH (az (aO (by decide)) (az (bP h1) dl)) (DY h3)⟩
theorem IG{b:Lt.Block}(h:Lt.block b=true):∀x∈dS b,xA x:=by
 obtain⟨hn,he,hp,hc⟩:=mz h;unfold dS;intro x hx;rcases ai9.1 hx with hx|hx
 ·rcases ai9.1 hx with hx|hx
  ·rcases ai9.1 hx with hx|hx
   ·rw[ajD.1 hx];exact⟨by simp[Lt.ln],az (aO (by decide)) (az (bP hn) dl)⟩
   obtain⟨y,hy,rfl⟩:=ajK.1 hx;obtain⟨h1,_,_,h3⟩:=A0 (hp y hy);refine⟨by simp[Lt.ln,wz],pH (az (aO (by decide)) (az (bP h1) dl)) (Dq (fun i hi=>?_))⟩
   grind [lE,bP,pd]
  grind [MJ]
 rw[ajD.1 hx];generalize b.End=t at he;rcases qD he with⟨x,rfl,h1⟩|⟨a,x,y,rfl,h1,h2,h3⟩|⟨a,rfl,h1⟩|⟨n,rfl⟩
 ·exact⟨by simp[Lt.ln,ip],az (aO (by decide)) (az (bP h1) dl)⟩
 ·exact⟨by simp[Lt.ln,ip],az (aO (by decide)) (az (pd h1) (az (bP h2) (az (bP h3) dl)))⟩
 ·exact⟨by simp[Lt.ln,ip],az (aO (by decide)) (az (pd h1) dl)⟩
 exact⟨by simp[Lt.ln,ip],az (aO (by decide)) (az (pP _) dl)⟩
theorem MU{f:Lt.Func}(h:ay f=true):∀x∈gp f,xA x:=by
 have ho:=nO h
 unfold gp;intro x hx;rcases ai9.1 hx with hx|hx
 ·rcases ai9.1 hx with hx|hx
  ·rcases ai9.1 hx with hx|hx
   ·rw[ajD.1 hx];exact⟨by simp[Lt.ln],az (aO (by decide)) (az (bP ho.name) (az (Du ho.res) dl))⟩
   exact oG (aO (by decide)) ho.params x hx
  exact oG (aO (by decide)) ho.vars x hx
 obtain⟨b,hb,hx⟩:=akB.1 hx;exact IG (ho.bl b hb) x hx
theorem Oa{p:Lt.Program}(h:bH p=true):∀x∈kU p,xA x:=by
 have ho:=ra h
 unfold kU;intro x hx;rcases ai9.1 hx with hx|hx
 ·rcases ai9.1 hx with hx|hx
  ·rcases ai9.1 hx with hx|hx
   ·rcases ai9.1 hx with hx|hx
    ·split at hx
     ·rw[ajD.1 hx];exact⟨by simp[Lt.ln],az (aO (by decide)) dl⟩
     grind
    obtain⟨c,hc,hx⟩:=akB.1 hx;have hr:=ho.cl c hc
    unfold bL at hr;simp only[aiW]at hr;unfold dT at hx;rcases ai9.1 hx with hx|hx
    ·rw[ajD.1 hx];exact⟨by simp[Lt.ln],az (aO (by decide)) (az (bP hr.1) dl)⟩
    exact oG (aO (by decide)) hr.2 x hx
   exact oG (aO (by decide)) ho.glob x hx
  obtain⟨e,he,rfl⟩:=ajK.1 hx;have hr:=ho.ex e he
  unfold cc at hr;simp only[aiW]at hr;exact⟨by simp[Lt.ln,jc],az (aO (by decide)) (az (bP hr.1.1) (az (pP _) dl))⟩
 obtain⟨f,hf,hx⟩:=akB.1 hx;exact MU (ho.fn f hf) x hx
theorem tc:∀(w r:List UInt8)(k:Lt.Cut),(∀c∈w,rP c=true)->k.remark=false->cJ (w++r) k=cJ r { k with w:=k.w++w }
 |[],r,k,_,_=>by simp
 |c::w,r,k,h,hr=>by
  have hc:=h c (by simp)
  unfold rP at hc;simp only[aiW,decide_eq_true_eq,ajQ,decide_eq_false_iff_not]at hc;have a:¬ c=10:=by rintro rfl;grind
  have d:¬ c=32:=by rintro rfl;grind
  have e:¬ c=9:=by rintro rfl;grind
  have b:k.byte c={ k with w:=k.w++[c] }:=by
   grind [Lt.Cut.byte]
  rw[akV,cJ,if_neg a,b,tc w r { k with w:=k.w++[c] } (fun x hx=>h x (by grind)) hr];simp
theorem Bv:∀(ws:List (List UInt8))(r:List UInt8)(out:List Lt.RLine)(l:List (List UInt8))(w:List UInt8)(n:Int),(∀v∈ws,fA v)->w≠[] ->
  cJ (Lt.jw true ws++10::r) ⟨out,l,w,n,false,false⟩=cJ r ⟨out++[⟨n,l++w::ws⟩],[],[],n+1,false,false⟩
 |[],r,out,l,w,n,_,hw=>by
  simp_all[Lt.jw,cJ,Lt.Cut.line,Lt.Cut.word]
 |v::vs,r,out,l,w,n,h,hw=>by
  have hv:=h v (by simp)
  rw[Lt.jw,if_pos rfl];show cJ (32::(v++Lt.jw true vs++10::r)) _=_
  rw[cJ,if_neg (by decide)];have a:(⟨out,l,w,n,false,false⟩:Lt.Cut).byte 32=⟨out,l++[w],[],n,false,false⟩:=by
   grind [Lt.Cut.byte,Lt.Cut.word]
  rw[a,ajI,tc v _ _ hv.2 rfl];simp only[aj0];rw[Bv vs r out (l++[w]) v n (fun x hx=>h x (by grind)) hv.1];simp
def numb:Int->List Lt.Line->List Lt.RLine
 |_,[]=>[]
 |n,x::t=>⟨n,x.Words⟩::numb (n+1) t
theorem xJ:∀(L:List Lt.Line)(out:List Lt.RLine)(n:Int),(∀x∈L,xA x)->cJ (bD L) ⟨out,[],[],n,false,false⟩=(out++numb n L,0,0)
 |[],out,n,_=>by simp[bD,cJ,Lt.Cut.line,Lt.Cut.word,numb]
 |x::t,out,n,h=>by
  obtain⟨a,hx⟩:=h x (by simp);cases hw:x.Words with
  |nil=>grind
  |cons w ws=>
   rw[hw]at hx;have hv:=hx w (by simp)
   have e:bD (x::t)=w++(Lt.jw true ws++10::bD t):=by
    simp[bD,hw,Lt.jw]
   rw[e,tc w _ _ hv.2 rfl];simp only[aj0];rw[Bv ws _ out [] w n (fun v hv=>hx v (by grind)) hv.1,xJ t _ _ (fun y hy=>h y (by grind))];simp[numb,hw]
theorem Ow{L:List Lt.Line}(h:∀x∈L,xA x)(hl:(bD L).length<=4194304):gn (bD L)=(numb 1 L,0,0):=by
 grind [gn,xJ]
theorem jG{l:List Lt.Var}{k:Nat}(h:Lt.typed l k=true):l.length<=k:=by
 grind [Lt.typed]
theorem EJ{n c:Nat}(h:n<=5000)(hc:c<=200):(n+1<=4611686018427387904/\(n+1)*c<=140737488355328)=True:=by
 have:(n+1)*c<=5001*200:=Nat.mul_le_mul kQ1 hc
 grind
theorem cF{l:List α}(h:l≠[])(h8:l.length<=5000):i64.wrap ((l.length:Int) - 1)=((l.length - 1:Nat):Int):=by
 grind [akH,eX]
theorem dM{l:List α}(h:l≠[]):(l.length - 1<l.length)=True:=by
 grind [akH]
theorem dN{l:List α}(h:l≠[]):((0:Int)<=((l.length - 1:Nat):Int)/\((l.length - 1:Nat):Int) < (l.length:Int))=True:=by
 grind [akH]
theorem wb[Inhabited α](l:List α)(x:α):(l++[x]).getD ((l++[x]).length - 1) default=x:=by
 grind
variable{r:Lt.Read}
theorem i9(h:Lt.Inv r)(hw:3<=r.Where):r.P.Funcs≠[]/\pB r.curF r.Where r.Long/\r.curF.Params.length<=6/\r.curF.Vars.length<=1024/\r.curF.Blocks.length<=256:=by
 obtain⟨_,_,_,_,_,h3⟩:=h;obtain⟨fs,f,hf,_,hp⟩:=h3 hw;have e:r.curF=f:=by grind [Lt.Read.curF]
 rw[e];exact⟨by grind,hp,jG (k:=6) hp.1.2.2.1,jG (k:=1024) hp.1.2.2.2,hp.2.1.1⟩
theorem ml(h:Lt.Inv r)(hw:5<=r.Where):r.curF.Blocks≠[]/\r.curB.Phis.length<=1024/\r.curB.Code.length<=1024/\r.curB.Code.all Lt.instr=true:=by
 obtain⟨_,hp,_⟩:=i9 h kQ1;obtain⟨_,⟨_,h0,hn⟩,_,hb⟩:=hp
 grind [Lt.Read.curB]
theorem CZ(h:Lt.Inv r)(hw:6<=r.Where)(a:r.Where<=8):r.curB.Code≠[]/\r.curI.Frames.length<=16/\r.curI.Objs.length<=99:=by
 obtain⟨_,hp,_⟩:=i9 h kQ1;obtain⟨_,⟨_,h0,hn⟩,_,hb⟩:=hp
 grind [Lt.Read.curB,wb,Lt.Read.curI,Lt.instr]
theorem xH(objs:Bool):∀(l:List (List UInt8))(x:List Lt.Bind),db objs l=some x->l.length=2*x.length
 |[],x,h=>by grind [db]
 |[_],x,h=>by grind [db]
 |a::b::r,x,h=>by
  rw[db]at h;split at h
  ·cases hr:db objs r with
   |none=>grind
   |some y=>
    have:=xH objs r y hr
    grind
  grind
theorem ta{f:Int}(h:(bW l f objs).2=true)(h0:0<=f):(l.length:Int)=f+2*((bW l f objs).1.length:Int):=by
 grind [bW,xH,alL]
def I3(r:Lt.Read)(dst:List UInt8)(l:List (List UInt8)):Int×Lt.Read:=
 if r.ins=false then(3,r)
 else match Lt.gl dst l with
 |none=>(3,r)
 |some x=>if 1024<=r.Long then(2,r)else(0,{ r.block (fun b=>{ b with Code:=b.Code++[x] })with Where:=if x.Op=31\/x.Op=34 then 7 else 6,Long:=r.Long+1 })
def Runs:Lt.Read->List (List (List UInt8))->Lt.Read->Prop
 |r,[],a=>r=a
 |r,w::t,a=>∃r1,(∀b,aM r w b=(0,r1))/\Runs r1 t a
theorem cP:∀{a b:List (List (List UInt8))}{r r1 r2:Lt.Read},Runs r a r1->Runs r1 b r2->Runs r (a++b) r2
 |[],b,r,r1,r2,h1,h2=>by have:r=r1:=h1;grind
 |w::t,b,r,r1,r2,⟨q,hq,h1⟩,h2=>⟨q,hq,cP h1 h2⟩
variable{r1:Lt.Read}
theorem o8{w:List (List UInt8)}(h:∀b,aM r w b=(0,r1)):Runs r [w] r1:=⟨r1,h,rfl⟩
theorem eK(r:Lt.Read):Runs r [] r:=rfl
theorem sX:∀(L:List Lt.Line)(n:Int)(b:Bool)(r a:Lt.Read),Runs r (L.map fun x=>x.Words) a ->
  jW (numb n L) b r=if a.out then(a.P,0,0)else(⟨false,[],[],[],[]⟩,0,3)
 |[],n,b,r,a,h=>by have:r=a:=h;subst this;rfl
 |x::t,n,b,r,a,⟨q,hq,h⟩=>by
  rw[numb,jW];simp only[hq b,if_true];exact sX t _ _ q a h
theorem ff:¬ ((false,(0:Int)),r).1.1=true:=fun h=>by grind
theorem mP{b:Bool}(he:Lt.sEq l=false)(hs:¬ Lt.w0 l=sK)(h:bM r l=((true,0),r1)):aM r l b=(0,r1):=by
 grind [aM]
theorem qL{b:Bool}(he:Lt.sEq l=false)(hs:¬ Lt.w0 l=sK)(a:bM r l=((false,0),r))(h:cr r l=((true,0),r1)):aM r l b=(0,r1):=by
 grind [aM]
theorem sN{b:Bool}(he:Lt.sEq l=false)(hs:¬ Lt.w0 l=sK)(a:bM r l=((false,0),r))(hp:cr r l=((false,0),r))(h:bq r l=((true,0),r1)):aM r l b=(0,r1):=by
 grind [aM]
theorem TA{b:Bool}(hs:¬ Lt.w0 l=sK)(a:bM r l=((false,0),r))(hp:cr r l=((false,0),r))(h:bq r l=((false,0),r)):aM r l b=da r l:=by
 grind [aM]
theorem lD(h1:¬ Lt.w0 l=nY)(h2:¬ Lt.w0 l=lV)(h3:¬ Lt.w0 l=iv)(h4:¬ Lt.w0 l=fR)(h5:¬ Lt.w0 l=rT):bM r l=((false,0),r):=by
 grind [bM]
theorem yz(h1:¬ Lt.w0 l=lW)(h2:¬ Lt.w0 l=BY)(h3:¬ Lt.w0 l=nX)(h4:¬ Lt.w0 l=wi):cr r l=((false,0),r):=by
 grind [cr]
theorem YM(h1:¬ Lt.w0 l=Lt.kAt)(h2:¬ Lt.w0 l=mK)(h3:¬ Lt.w0 l=lF)(h4:¬ Lt.w0 l=dD)(h5:¬ Lt.w0 l=rJ)(h6:¬ Lt.w0 l=pK):bq r l=((false,0),r):=by
 grind [bq]
theorem MX(h:Lt.w0 l=nY):bM r l=((true,(Lt.eG r l).1),(Lt.eG r l).2):=by
 grind [bM]
theorem MY(h:Lt.w0 l=lV):bM r l=((true,(gk r l).1),(gk r l).2):=by
 grind [bM]
theorem Jy(h:Lt.w0 l=iv):bM r l=((true,(dP r l).1),(dP r l).2):=by
 grind [bM]
theorem Jx(h:Lt.w0 l=fR):bM r l=((true,(dO r l).1),(dO r l).2):=by
 grind [bM]
theorem SQ(h:Lt.w0 l=rT):bM r l=((true,(Lt.gz r l).1),(Lt.gz r l).2):=by
 grind [bM]
theorem N2(h:Lt.w0 l=lW):cr r l=((true,(gm r l).1),(gm r l).2):=by
 grind [cr]
theorem X6(h:Lt.w0 l=BY):cr r l=((true,(Lt.jN r l).1),(Lt.jN r l).2):=by
 grind [cr]
theorem N1(h:Lt.w0 l=nX):cr r l=((true,(Lt.dL r l).1),(Lt.dL r l).2):=by
 grind [cr]
theorem X5(h:Lt.w0 l=wi):cr r l=((true,(Lt.ma r l).1),(Lt.ma r l).2):=by
 grind [cr]
theorem YL(hi:r.ins=true)(h:Lt.w0 l=Lt.kAt):bq r l=((true,(Lt.sAt r l).1),(Lt.sAt r l).2):=by
 grind [bq]
theorem Uj(hi:r.ins=true)(h:Lt.w0 l=mK):bq r l=((true,(Lt.l9 r l).1),(Lt.l9 r l).2):=by
 grind [bq]
theorem gu{w:List UInt8}(h:Lt.Name w=true):¬ w=[61]:=by rintro rfl;revert h;decide
theorem LM(h:aW a=true)(ok:a.ok):¬ al a=[61]:=by
 intro e;have:=m8 h ok
 rw[e]at this;have h2:(Lt.cZ [61]).2=false:=by decide +kernel
 grind
theorem WP(a b:List UInt8):Lt.sEq [a,b]=false:=rfl
theorem jb{a w:List UInt8}(h:¬ w=[61]):Lt.sEq (a::w::l)=false:=by
 grind [Lt.sEq]
theorem Qh(w:List UInt8):pZ w=Lt.kind w:=by
 grind [pZ,Lt.kind,aU]
theorem kZ{k:List UInt8}{v:Lt.Var}(h1:Lt.Name v.Name=true)(h2:Lt.kind v.Type_=true):iz [k,v.Name,v.Type_]=true:=by
 grind [iz,aU,Qh]
theorem mN[Inhabited α](l:List α)(x:α)(f:α->α):Lt.last (l++[x]) f=l++[f x]:=by
 grind [Lt.last]
def stP(s:Bool)(cs:List Lt.Class)(gs:List Lt.Var)(es:List Lt.Extern)(fs:List Lt.Func)(w n:Int):Lt.Read:=⟨⟨s,cs,gs,es,fs⟩,w,n⟩
def stF(p:Lt.Program)(fs:List Lt.Func)(f:Lt.Func)(w n:Int):Lt.Read:=⟨{ p with Funcs:=fs++[f] },w,n⟩
def stB(p:Lt.Program)(fs:List Lt.Func)(f:Lt.Func)(bs:List Lt.Block)(b:Lt.Block)(w n:Int):Lt.Read:=stF p fs { f with Blocks:=bs++[b] } w n
def stI(p:Lt.Program)(fs:List Lt.Func)(f:Lt.Func)(bs:List Lt.Block)(b:Lt.Block)(cs:List Lt.Instr)(x:Lt.Instr)(w n:Int):Lt.Read:=stB p fs f bs { b with Code:=cs++[x] } w n
section
variable (p:Lt.Program) (fs:List Lt.Func) (f:Lt.Func) (bs:List Lt.Block) (b:Lt.Block) (cs:List Lt.Instr) (x:Lt.Instr) (w n:Int)
theorem nP(g:Lt.Func->Lt.Func):(stF p fs f w n).func g=stF p fs (g f) w n:=by
 grind [Lt.Read.func,stF,mN]
end
section
variable (p:Lt.Program) (fs:List Lt.Func) (f:Lt.Func) (bs:List Lt.Block) (b:Lt.Block) (cs:List Lt.Instr) (x:Lt.Instr) (w n:Int)
theorem jq(g:Lt.Block->Lt.Block):(stB p fs f bs b w n).block g=stB p fs f bs (g b) w n:=by
 grind [Lt.Read.block,stB,nP,mN]
end
section
variable (p:Lt.Program) (fs:List Lt.Func) (f:Lt.Func) (bs:List Lt.Block) (b:Lt.Block) (cs:List Lt.Instr) (x:Lt.Instr) (w n:Int)
theorem ut(g:Lt.Instr->Lt.Instr):(stI p fs f bs b cs x w n).instr g=stI p fs f bs b cs (g x) w n:=by
 grind [Lt.Read.instr,stI,jq,mN]
end
section
variable (p:Lt.Program) (fs:List Lt.Func) (f:Lt.Func) (bs:List Lt.Block) (b:Lt.Block) (cs:List Lt.Instr) (x:Lt.Instr) (w n:Int)
theorem nI:(stF p fs f w n).curF=f:=by grind [Lt.Read.curF,stF]
end
section
variable (p:Lt.Program) (fs:List Lt.Func) (f:Lt.Func) (bs:List Lt.Block) (b:Lt.Block) (cs:List Lt.Instr) (x:Lt.Instr) (w n:Int)
theorem aaF:(stB p fs f bs b w n).curB=b:=by
 grind [Lt.Read.curB,stB,nI]
end
section
variable (p:Lt.Program) (fs:List Lt.Func) (f:Lt.Func) (bs:List Lt.Block) (b:Lt.Block) (cs:List Lt.Instr) (x:Lt.Instr) (w n:Int)
theorem yr:(stI p fs f bs b cs x w n).curI=x:=by
 grind [Lt.Read.curI,stI,aaF]
end
theorem Oz{s:Bool}{cs:List Lt.Class}{gs:List Lt.Var}{es:List Lt.Extern}{fs:List Lt.Func}{w n:Int}{c:List UInt8}(ho:w<=2\/w=9)(hc:Lt.Name c=true)(hl:cs.length < 8) :
  Runs (stP s cs gs es fs w n) [[nY,c]] (stP s (cs++[⟨c,[]⟩]) gs es fs 1 n):=by
 grind [o8,mP,WP,MX,Lt.eG,stP,aU]
theorem rl{l:List Lt.Var}{k:Int}(h:Lt.typed l k=true):∀v∈l,Lt.Name v.Name=true/\Lt.kind v.Type_=true:=by
 grind [Lt.typed]
theorem xM{s:Bool}{cs:List Lt.Class}{gs:List Lt.Var}{es:List Lt.Extern}{fs:List Lt.Func}{n:Int}:∀(l:List Lt.Var)(c:Lt.Class),(∀v∈l,Lt.Name v.Name=true/\Lt.kind v.Type_=true)->c.Fields.length+l.length<=8 ->
  Runs (stP s (cs++[c]) gs es fs 1 n) (l.map fun v=>[lV,v.Name,v.Type_]) (stP s (cs++[{ c with Fields:=c.Fields++l }]) gs es fs 1 n)
 |[],c,_,_=>by simpa using eK _
 |v::l,c,h,hl=>by
  obtain⟨h1,h2⟩:=h v (by simp);have a:c.Fields.length+(l.length+1)<=8:=hl
  have ih:=xM (s:=s) (cs:=cs) (gs:=gs) (es:=es) (fs:=fs) (n:=n) l { c with Fields:=c.Fields++[v] } (fun x hx=>h x (by grind)) (by grind)
  refine⟨stP s (cs++[{ c with Fields:=c.Fields++[v] }]) gs es fs 1 n,fun b=>mP (jb (gu h1)) (by grind) ?_,by grind⟩;refine(MY rfl).trans ?_;have:gk (stP s (cs++[c]) gs es fs 1 n) [lV,v.Name,v.Type_]=(0,stP s (cs++[{ c with Fields:=c.Fields++[v] }]) gs es fs 1 n):=by
   unfold gk;rw[kZ h1 h2];have e:(stP s (cs++[c]) gs es fs 1 n).P.Classes=cs++[c]:=rfl
   rw[e,wb,mN,if_neg (by show ¬ (decide ((1:Int)=1)&&true)=false;decide),if_neg kQ1];rfl
  grind
theorem xL{s:Bool}{gs:List Lt.Var}{es:List Lt.Extern}{fs:List Lt.Func}{n:Int}:∀(l cs:List Lt.Class)(w:Int),(w<=2\/w=9)->(∀c∈l,bL c=true)->cs.length+l.length<=8 ->
  ∃w',(w'<=2\/w'=9)/\Runs (stP s cs gs es fs w n) ((l.flatMap dT).map fun x=>x.Words) (stP s (cs++l) gs es fs w' n)
 |[],cs,w,hw,_,_=>⟨w,hw,by grind [eK]⟩
 |c::l,cs,w,hw,h,hl=>by
  have hc:=h c (by simp)
  unfold bL at hc;simp only[aiW]at hc;have hf:=jG (k:=8) hc.2
  have g:cs.length+(l.length+1)<=8:=hl
  obtain⟨w',d,ih⟩:=xL (s:=s) (gs:=gs) (es:=es) (fs:=fs) (n:=n) l (cs++[c]) 1 kQ1 (fun x hx=>h x (by grind)) (by grind);refine⟨w',d,?_⟩;have a:=Oz (s:=s) (gs:=gs) (es:=es) (fs:=fs) (n:=n) (cs:=cs) hw hc.1 kQ1
  have b:=xM (s:=s) (cs:=cs) (gs:=gs) (es:=es) (fs:=fs) (n:=n) c.Fields ⟨c.Name,[]⟩ (rl hc.2) (by grind)
  simp only[aj0]at b;have e:((c::l).flatMap dT).map (fun x=>x.Words)=([[nY,c.Name]]++c.Fields.map fun v=>[lV,v.Name,v.Type_])++(l.flatMap dT).map fun x=>x.Words:=by
   simp_all[dT,Lt.ln,gf]
  rw[e];have f:Runs (stP s (cs++[c]) gs es fs 1 n) ((l.flatMap dT).map fun x=>x.Words) (stP s (cs++c::l) gs es fs w' n):=by grind
  exact cP (cP a b) f
theorem u9{s:Bool}{cs:List Lt.Class}{es:List Lt.Extern}{fs:List Lt.Func}{n:Int}:∀(l gs:List Lt.Var)(w:Int),(w<=2\/w=9)->(∀v∈l,Lt.Name v.Name=true/\Lt.kind v.Type_=true)->gs.length+l.length<=8 ->
  ∃w',(w'<=2\/w'=9)/\Runs (stP s cs gs es fs w n) (l.map fun v=>[iv,v.Name,v.Type_]) (stP s cs (gs++l) es fs w' n)
 |[],gs,w,hw,_,_=>⟨w,hw,by grind [eK]⟩
 |v::l,gs,w,hw,h,hl=>by
  obtain⟨h1,h2⟩:=h v (by simp);have c:gs.length+(l.length+1)<=8:=hl
  obtain⟨w',a,ih⟩:=u9 (s:=s) (cs:=cs) (es:=es) (fs:=fs) (n:=n) l (gs++[v]) 2 kQ1 (fun x hx=>h x (by grind)) (by grind);refine⟨w',a,stP s cs (gs++[v]) es fs 2 n,fun b=>mP (jb (gu h1)) (by grind) ?_,by grind⟩;refine(Jy rfl).trans ?_;have:dP (stP s cs gs es fs w n) [iv,v.Name,v.Type_]=(0,stP s cs (gs++[v]) es fs 2 n):=by
   unfold dP;rw[kZ h1 h2];have ho:(Lt.Read.out (stP s cs gs es fs w n)&&true)=true:=by
    show((decide (w<=2)||decide (w=9))&&true)=true
    grind
   rw[ho,if_neg (by decide),if_neg (by show ¬ 8<=gs.length;omega)];rfl
  grind
theorem u7{s:Bool}{cs:List Lt.Class}{gs:List Lt.Var}{fs:List Lt.Func}{n:Int}:∀(l es:List Lt.Extern)(w:Int),(w<=2\/w=9)->(∀x∈l,cc x=true)->es.length+l.length<=8 ->
  ∃w',(w'<=2\/w'=9)/\Runs (stP s cs gs es fs w n) (l.map fun x=>[fR,x.Name,aF x.N]) (stP s cs gs (es++l) fs w' n)
 |[],es,w,hw,_,_=>⟨w,hw,by grind [eK]⟩
 |v::l,es,w,hw,h,hl=>by
  have hv:=h v (by simp)
  unfold cc at hv;simp only[aiW,decide_eq_true_eq]at hv;obtain⟨⟨h1,h2⟩,h3⟩:=hv;have d:es.length+(l.length+1)<=8:=hl
  obtain⟨w',a,ih⟩:=u7 (s:=s) (cs:=cs) (gs:=gs) (fs:=fs) (n:=n) l (es++[v]) 2 kQ1 (fun x hx=>h x (by grind)) (by grind);refine⟨w',a,stP s cs gs (es++[v]) fs 2 n,fun b=>mP (jb (gu h1)) (by grind) ?_,by grind⟩;refine(Jx rfl).trans ?_;have:dO (stP s cs gs es fs w n) [fR,v.Name,aF v.N]=(0,stP s cs gs (es++[v]) fs 2 n):=by
   unfold dO;have en:bw (Lt.w2 [fR,v.Name,aF v.N])=(v.N,true):=jD (by grind [Lt.inR])
   have c:Lt.w1 [fR,v.Name,aF v.N]=v.Name:=rfl
   rw[en,c,aU,h1];have ho:(Lt.Read.out (stP s cs gs es fs w n)&&decide (List.length [fR,v.Name,aF v.N]=3)&&true&&((v.N,true).2&&decide (0<=(v.N,true).1)&&decide ((v.N,true).1<=8)))=true:=by
    show((decide (w<=2)||decide (w=9))&&true&&true&&(true&&decide (0<=v.N)&&decide (v.N<=8)))=true
    grind
   rw[ho,if_neg (by decide),if_neg (by show ¬ 8<=es.length;omega)];rfl
  grind
theorem Ul{p:Lt.Program}{fs:List Lt.Func}{w n:Int}{a t:List UInt8}(ho:w<=2\/w=9)(h1:Lt.Name a=true)(h2:Lt.kind t=true)(hl:fs.length < 8) :
  Runs ⟨{ p with Funcs:=fs },w,n⟩ [[rT,a,t]] (stF p fs ⟨a,t,[],[],[]⟩ 3 0):=by
 refine o8 fun b=>mP (jb (gu h1)) (by grind) ?_
 refine(SQ rfl).trans ?_;have:Lt.gz ⟨{ p with Funcs:=fs },w,n⟩ [rT,a,t]=(0,stF p fs ⟨a,t,[],[],[]⟩ 3 0):=by
  unfold Lt.gz;rw[kZ (v:=⟨a,t⟩) h1 h2];have ho:(Lt.Read.out ⟨{ p with Funcs:=fs },w,n⟩&&true)=true:=by
   grind
  rw[ho,if_neg (by decide),if_neg (by grind)];rfl
 grind
theorem xP{p:Lt.Program}{fs:List Lt.Func}{n:Int}:∀(l:List Lt.Var)(f:Lt.Func),(∀v∈l,Lt.Name v.Name=true/\Lt.kind v.Type_=true)->f.Params.length+l.length<=6 ->
  Runs (stF p fs f 3 n) (l.map fun v=>[lW,v.Name,v.Type_]) (stF p fs { f with Params:=f.Params++l } 3 n)
 |[],f,_,_=>by simpa using eK _
 |v::l,f,h,hl=>by
  obtain⟨h1,h2⟩:=h v (by simp);have a:f.Params.length+(l.length+1)<=6:=hl
  have ih:=xP (p:=p) (fs:=fs) (n:=n) l { f with Params:=f.Params++[v] } (fun x hx=>h x (by grind)) (by grind)
  refine⟨stF p fs { f with Params:=f.Params++[v] } 3 n,fun b=>qL (jb (gu h1)) (by grind) (lD (by grind) (by grind) (by grind) (by grind) (by grind)) ?_,by grind⟩;refine(N2 rfl).trans ?_;have:gm (stF p fs f 3 n) [lW,v.Name,v.Type_]=(0,stF p fs { f with Params:=f.Params++[v] } 3 n):=by
   unfold gm;rw[kZ h1 h2,nI,nP,if_neg (by show ¬ (decide ((3:Int)=3)&&true)=false;decide),if_neg kQ1];rfl
  grind
theorem Eg{p:Lt.Program}{fs:List Lt.Func}{n:Int}:∀(l:List Lt.Var)(f:Lt.Func)(w:Int),(w=3\/w=4)->(∀v∈l,Lt.Name v.Name=true/\Lt.kind v.Type_=true)->f.Vars.length+l.length<=1024 ->
  ∃w',(w'=3\/w'=4)/\Runs (stF p fs f w n) (l.map fun v=>[BY,v.Name,v.Type_]) (stF p fs { f with Vars:=f.Vars++l } w' n)
 |[],f,w,hw,_,_=>⟨w,hw,by simpa using eK _⟩
 |v::l,f,w,hw,h,hl=>by
  obtain⟨h1,h2⟩:=h v (by simp);have c:f.Vars.length+(l.length+1)<=1024:=hl
  obtain⟨w',a,ih⟩:=Eg (p:=p) (fs:=fs) (n:=n) l { f with Vars:=f.Vars++[v] } 4 (.inr rfl) (fun x hx=>h x (by grind)) (by grind);refine⟨w',a,stF p fs { f with Vars:=f.Vars++[v] } 4 n,fun b=>qL (jb (gu h1)) (by grind) (lD (by grind) (by grind) (by grind) (by grind) (by grind)) ?_,by grind⟩;refine(X6 rfl).trans ?_;have:Lt.jN (stF p fs f w n) [BY,v.Name,v.Type_]=(0,stF p fs { f with Vars:=f.Vars++[v] } 4 n):=by
   unfold Lt.jN;have ho:((decide ((stF p fs f w n).Where=3)||decide ((stF p fs f w n).Where=4))&&true)=true:=by
    show((decide (w=3)||decide (w=4))&&true)=true
    grind
   rw[kZ h1 h2,nI,nP,ho,if_neg (by decide),if_neg kQ1];rfl
  grind
theorem Oy{p:Lt.Program}{fs:List Lt.Func}{f:Lt.Func}{w n:Int}{a:List UInt8}(hw:w=3\/w=4\/w=9)(h1:Lt.Name a=true)(hl:f.Blocks.length < 256) :
  Runs (stF p fs f w n) [[nX,a]] (stB p fs f f.Blocks ⟨a,[],[],⟨0,⟨0,[],0⟩,[],0⟩⟩ 5 n):=by
 refine o8 fun b=>qL (WP _ _) (by grind) (lD (by grind) (by grind) (by grind) (by grind) (by grind)) ?_
 grind [N1,Lt.dL,stF,stB,aU,nI,nP]
theorem N3{x:Lt.Phi}(h:Lt.phi x=true)(ok:x.ok):bW (wz x) 2 false=(x.Ins.map fun i=>⟨i.Block,i.A⟩,true):=by
 obtain⟨_,_,_,h4⟩:=A0 h;unfold bW wz;have a:=sW (objs:=false) (l:=x.Ins.map fun i=>⟨i.Block,i.A⟩) (by
  intro b hb;obtain⟨i,hi,rfl⟩:=ajK.1 hb;have:=h4 i hi
  unfold lE at this;simp only[aiW]at this;exact⟨this.1,this.2,ok.2 i hi⟩)
 grind [List.flatMap_map]
theorem VR(l:List Lt.In):(l.map fun i=>(⟨i.Block,i.A⟩:Lt.Bind)).map (fun x=>(⟨x.Name,x.A⟩:Lt.In))=l:=by
 rw[aj9];exact List.map_id _
theorem Ef{p:Lt.Program}{fs:List Lt.Func}{f:Lt.Func}{bs:List Lt.Block}:∀(l:List Lt.Phi)(b:Lt.Block)(n:Nat),(∀x∈l,Lt.phi x=true/\x.ok)->n+l.length<=1024 ->
  Runs (stB p fs f bs b 5 n) (l.map wz) (stB p fs f bs { b with Phis:=b.Phis++l } 5 ((n+l.length:Nat):Int))
 |[],b,n,_,_=>by simpa using eK _
 |x::l,b,n,h,hl=>by
  obtain⟨h1,a⟩:=h x (by simp);obtain⟨hd,j,d,_⟩:=A0 h1;have g:n+(l.length+1)<=1024:=hl
  have ih:=Ef (p:=p) (fs:=fs) (f:=f) (bs:=bs) l { b with Phis:=b.Phis++[x] } (n+1) (fun y hy=>h y (by grind)) kQ1
  have e:n+1+l.length=n+(x::l).length:=by grind
  rw[e]at ih;refine⟨stB p fs f bs { b with Phis:=b.Phis++[x] } 5 ((n+1:Nat):Int),fun c=>qL (jb (gu hd)) (by show ¬ wi=sK;decide) (lD (by show ¬ wi=_;decide) (by show ¬ wi=_;decide) (by show ¬ wi=_;decide) (by show ¬ wi=_;decide) (by show ¬ wi=_;decide)) ?_,by grind⟩;refine(X5 rfl).trans ?_;have:Lt.ma (stB p fs f bs b 5 n) (wz x)=(0,stB p fs f bs { b with Phis:=b.Phis++[x] } 5 ((n+1:Nat):Int)):=by
   unfold Lt.ma;rw[N3 h1 a,aU];have ho:(decide ((stB p fs f bs b 5 (n:Int)).Where=5)&&((x.Ins.map fun i=>(⟨i.Block,i.A⟩:Lt.Bind)),true).2&&!decide ((((x.Ins.map fun i=>(⟨i.Block,i.A⟩:Lt.Bind)),true)).1.length=0)&&Lt.Name (Lt.w1 (wz x)))=true:=by
    show(true&&true&&!decide ((x.Ins.map fun i=>(⟨i.Block,i.A⟩:Lt.Bind)).length=0)&&Lt.Name x.Dst)=true
    grind
   rw[ho,if_neg (by decide),if_neg (by
    show ¬ (256 < (x.Ins.map fun i=>(⟨i.Block,i.A⟩:Lt.Bind)).length\/1024<=(n:Int))
    grind),jq]
   simp only[VR];rfl
  grind
def eD(i:Lt.Instr):List (List UInt8):=
 (Lt.Of i.Op).1.Word::(if i.Op=26\/i.Op=27 then(Lt.puts i.Args).getD 0 default::i.Name::(Lt.puts i.Args).drop 1 else(if(Lt.Of i.Op).1.Named then [i.Name]else [])++Lt.puts i.Args)
theorem Y4(i:Lt.Instr):Lt.words i=(if(Lt.Of i.Op).1.Dst then [i.Dst,[61]]else [])++eD i:=by
 grind [Lt.words,eD]
theorem bare(i:Lt.Instr)(h:Lt.instr i=true)(ok:i.ok):Lt.gl i.Dst (eD i)=some { i with Frames:=[],Objs:=[] }:=by
 have ho:=eL h
 obtain⟨_,k,e,g,j,b⟩:=pY i.Op;have hop:=acH ho.of
 have f:=D8 ho.aok ok.1
 unfold Lt.gl;have d:Lt.w0 (eD i)=(Lt.Of i.Op).1.Word:=rfl
 rw[d,hop];simp only[e,g,j,b,aU];have c:((Lt.Of i.Op).1.Dst==!decide (i.Dst=[]))=true:=by rw[ho.dst];simp
 rw[c,if_neg (by decide)];have hr:Lh i.Op (eD i)=some (i.Name,Lt.puts i.Args):=by
  unfold Lh;by_cases hc:i.Op=26\/i.Op=27
  ·have hl:=ho.least hc
   rw[if_pos hc];unfold eD;rw[if_pos hc];cases l:i.Args with
   |nil=>grind
   |cons a r=>rfl
  grind [eD,InstrOk.nm]
 grind [InstrOk.nmN,InstrOk.lo,InstrOk.hi]
theorem af5(h:(Lt.Of op).2=true)(hd:(Lt.Of op).1.Dst=false):op=27\/op=30\/op=33\/op=34:=by
 by_cases hc:1<=op/\op<=34
 ·grind [Lt.Of]
 exfalso
 rw[<- (pY op).1]at h
 grind [Lt.rOf]
theorem Ym{l:List Lt.Arg}(h:bK l objs=true)(ok:sk l):∀w∈Lt.puts l,¬ w=[61]:=by
 intro w hw;obtain⟨a,b,rfl⟩:=ajK.1 hw;unfold bK at h;have:=ajB.1 h a b
 unfold bg at this;simp only[aiW]at this;exact LM this.1 (ok a b)
theorem afM(h:Lt.instr i=true)(ok:i.ok):Lt.sEq (eD i)=false:=by
 have ho:=eL h
 have hp:=Ym ho.aok ok.1
 grind [eD,InstrOk.least,Lt.puts,gu,InstrOk.nmN,Lt.sEq]
theorem Uk{p:Lt.Program}{fs:List Lt.Func}{f:Lt.Func}{bs:List Lt.Block}{b:Lt.Block}{w:Int}{n:Nat}(hw:5<=w/\w<=8)(h:Lt.instr i=true)(ok:i.ok)(hl:n+1<=1024) :
  Runs (stB p fs f bs b w n) [Lt.words i] (stI p fs f bs b b.Code { i with Frames:=[],Objs:=[] } (if i.Op=31\/i.Op=34 then 7 else 6) ((n+1:Nat):Int)):=by
 have ho:=eL h
 have hb:=bare i h ok
 have a:(stB p fs f bs b w (n:Int)).ins=true:=by
  show(decide (5<=w)&&decide (w<=8))=true
  grind
 refine o8 fun c=>?_
 rw[Y4];cases hd:(Lt.Of i.Op).1.Dst with
 |true=>
  rw[if_pos rfl];have hN:=ho.dstN hd
  have he:Lt.sEq ([i.Dst,[61]]++eD i)=true:=by
   rfl
  unfold aM;rw[he,if_pos rfl];unfold da;have e0:Lt.w0 ([i.Dst,[61]]++eD i)=i.Dst:=rfl
  have g:([i.Dst,[61]]++eD i).drop 2=eD i:=rfl
  rw[he,e0,aU,hN,a,if_neg (by decide),if_neg (by decide),if_pos rfl,if_pos rfl,g,hb];simp only
  rw[if_neg (by show ¬ (1024:Int)<=(n:Int);omega),jq];rfl
 |false=>
  rw[if_neg (by decide),aj0];have he:=afM h ok
  have d:i.Dst=[]:=by grind [InstrOk.dst]
  have e0:Lt.w0 (eD i)=(Lt.Of i.Op).1.Word:=rfl
  have hk:∀k∈[sK,nY,lV,iv,fR,rT,lW,BY,nX,wi,Lt.kAt,mK,lF,dD,rJ,pK],¬ Lt.w0 (eD i)=k:=by
   rw[e0];rcases af5 ho.of hd with e|e|e|e<;>rw[e]<;>decide +kernel
  rw[TA (hk _ (by simp)) (lD (hk _ (by simp)) (hk _ (by simp)) (hk _ (by simp)) (hk _ (by simp)) (hk _ (by simp))) (yz (hk _ (by simp)) (hk _ (by simp)) (hk _ (by simp)) (hk _ (by simp))) (YM (hk _ (by simp)) (hk _ (by simp)) (hk _ (by simp)) (hk _ (by simp)) (hk _ (by simp)) (hk _ (by simp)))];unfold da;rw[he,a,akR,if_neg (by decide),if_neg (by decide),if_neg (by decide),if_neg (by decide)];rw[d]at hb;rw[hb];simp only
  rw[if_neg (by show ¬ (1024:Int)<=(n:Int);omega),jq];simp only[d];rfl
end Go.Am
end
