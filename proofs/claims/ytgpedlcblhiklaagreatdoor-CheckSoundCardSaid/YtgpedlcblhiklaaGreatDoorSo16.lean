/-
  Part 16: AmLibC · AmE15 · AmE13 · AmE16 · AmE18r · AmRen · AmE19 · AmKeys · AmNiceS · AmNice40 · AmNiceX · AmNiceXY · AmG3 · AmG2 · AmG41 · AmG40 · AmL40 · AmL41 · AmL42 · AmL43 · AmL44 · AmG24 · AmPkL · AmPkRa · AmPkRb.
-/
import Derived.Test.YtgpedlcblhiklaaGreatDoorSo15
import Derived.Test.YtgpedlcblhiklaaGreatDoorChecked
set_option linter.unusedSimpArgs false
set_option linter.unusedVariables false
set_option linter.unusedSectionVars false
set_option linter.unnecessarySimpa false
open Lt
open Go.Proofs.Tryz
open Go.IntKind (i64)
section
namespace Go.Am
open Go Go.RowKit Go.Proofs
theorem zg(w:World):Below w.heap.size w w:=Below.refl _ w
theorem IW(c:UInt8):∀l:List UInt8,-1<=Lib.indexByte l c/\Lib.indexByte l c<=(l.length:Int)
 |[]=>by simp[Lib.indexByte]
 |b::l=>by
  have:=IW c l
  grind [Lib.indexByte]
theorem yw{w:World}{H:FH}{γ:Gam}{m:Mm}{l:List UInt8}(h:l.length<=BIG):AR1 w H γ m (.c (.d (.str l))) (.string ⟨l.toArray⟩):=⟨fun _=>rfl,0,rfl,h⟩
theorem Ta{w:World}{H:FH}{γ:Gam}{k:IntKind}{n:Int}{y:Value}(h:AR w H γ [] (.one (.c (.d (.int k n)))) y):y=.int k n:=by
 obtain⟨_,m,h⟩:=h;cases m<;>exact h.1
def Tf:CKt:=AU [.s,.b8] [.i .i64] (fun x=>gZ x.1 x.2)
theorem UI:Cont prog 239 Tf:=DV (iw (gf (fn:=f239) kQ0 (by rfl) (by rfl)) (fun x args w H γ _ hl g i a=>by
 obtain⟨s,c⟩:=x;obtain⟨u,v,rfl,h1,h2⟩:=ON (x:=.one (.c (.d (.str s)))) (y:=.one (.c (.d (.int .u8 (UInt8.toNat c:Int))))) hl g;obtain⟨rfl,hs⟩:=kV h1;have hs:List.length (α:=UInt8) s<=BIG:=hs
 obtain rfl:=Ta h2;refine(Tryz.strings_IndexByte ⟨s.toArray⟩ (c.toNat:Int) w).mono ?_;rintro e w' ⟨rfl,hw⟩
 rw[hw];refine⟨_,H,rfl,zg w,fun _ _ _ h=>h,fun b o h1 h2=>absurd h2 h1,fun b o x l c h1 h2=>by grind,a,?_⟩;have f:((c.toNat:Int).toNat).toUInt8=c:=by simp
 have hi:=IW c s
 rw[qe,f];unfold BIG at hs;show AR w H γ [] (.one (.c (.d (.int .i64 (Lib.indexByte s c))))) (.int .i64 (Lib.indexByte s c))
 refine⟨fun _=>rfl,0,rfl,?_⟩;simp only[Lit.wf,afZ,decide_eq_true_eq,show i64.min=-9223372036854775808 from rfl,show i64.max=9223372036854775807 from rfl];omega))
def XG:CKt:=AU [.s,.s] [.s,.bo] (fun x=>mm x.1 x.2)
theorem Yn:Cont prog 238 XG:=DV (iw (gf (fn:=f238) kQ0 (by rfl) (by rfl)) (fun x args w H γ _ hl f g a=>by
 obtain⟨s,p⟩:=x;obtain⟨u,v,rfl,h1,h2⟩:=ON (x:=.one (.c (.d (.str s)))) (y:=.one (.c (.d (.str p)))) hl f;obtain⟨rfl,hs⟩:=kV h1;have hs:List.length (α:=UInt8) s<=BIG:=hs
 obtain⟨rfl,hp⟩:=kV h2;refine(Tryz.strings_CutPrefix ⟨s.toArray⟩ ⟨p.toArray⟩ w).mono ?_;rintro e w' ⟨rfl,hw⟩
 rw[hw];refine⟨_,H,rfl,zg w,fun _ _ _ h=>h,fun b o h1 h2=>absurd h2 h1,fun b o x l c h1 h2=>by grind,a,_,rfl,?_⟩;rw[qe,qe];have hl:(Lib.trimPrefix s p).length<=BIG:=by
  grind [Lib.trimPrefix]
 show ARs w H γ [] [.c (.d (.str (Lib.trimPrefix s p))),.c (.d (.bool (Lib.hasPrefix s p)))] [_,_]
 exact⟨(yw hl:AR1 w H γ [] _ _),⟨fun _=>rfl,0,rfl⟩,trivial⟩))
def abB:CKt:=xr [.s,.s] [.s,.s,.bo] (fun x=>WE x.1 x.2) (fun x=>Vw x.1 x.2)
theorem ab3:Cont prog 87 abB:=iw (gf (fn:=f87) kQ0 (by rfl) (by rfl)) (fun x args w H γ a hl g i f=>by
 obtain⟨s,p⟩:=x;obtain⟨u,v,rfl,h1,h2⟩:=ON (x:=.one (.c (.d (.str s)))) (y:=.one (.c (.d (.str p)))) hl g;obtain⟨rfl,hs⟩:=kV h1;have hs:List.length (α:=UInt8) s<=BIG:=hs
 obtain⟨rfl,hp⟩:=kV h2;have a:s.length < 4294967281:=a
 obtain⟨m,j⟩:=Da i f (k:=0) (by rfl);refine(Tryz.strings_Cut ⟨s.toArray⟩ ⟨p.toArray⟩ m w (by grind [tD]) j).mono ?_;rintro e w' ⟨rfl,n,rfl⟩
 refine⟨_,H,rfl,GV _ _ _,fun _ _ _ h=>h,fun b o h1 h2=>absurd h2 h1,fun b o x l c h1 h2=>by grind,f,_,rfl,?_⟩;rw[qe,qe];have hl:(Lib.cut s p).1.length<=BIG/\(Lib.cut s p).2.1.length<=BIG:=by
  grind [Lib.cut]
 show ARs _ H γ [] [.c (.d (.str (Lib.cut s p).1)),.c (.d (.str (Lib.cut s p).2.1)),.c (.d (.bool (Lib.cut s p).2.2))] [_,_,_]
 exact⟨(yw hl.1:AR1 (w.drewN n) H γ [] _ _),(yw hl.2:AR1 (w.drewN n) H γ [] _ _),⟨fun _=>rfl,0,rfl⟩,trivial⟩)
theorem xx(p:ByteArray):∀(k:Nat)(s:ByteArray),∀x∈Lib.splitB p 0 k s,x.size<=s.size
 |0,s,x,hx=>by grind [Lib.splitB_zero]
 |k+1,s,x,hx=>by
  unfold Lib.splitB at hx;split at hx
  ·grind
  ·rcases agC.1 hx with rfl|hx
   ·grind [ByteArray.size_extract]
   ·have:=xx p k _ x hx
    grind [ByteArray.size_extract]
def Tg:CKt:=xr [.s,.s] [.sl .s] (fun x=>JX x.1 x.2) (fun x=>fd x.1 x.2)
theorem UJ:Cont prog 86 Tg:=iw (gf (fn:=f86) kQ0 (by rfl) (by rfl)) (fun x args w H γ g hl A B a=>by
 obtain⟨s,p⟩:=x;obtain⟨u,v,rfl,h1,h2⟩:=ON (x:=.one (.c (.d (.str s)))) (y:=.one (.c (.d (.str p)))) hl A;obtain⟨rfl,hs⟩:=kV h1;have hs:List.length (α:=UInt8) s<=BIG:=hs
 obtain⟨rfl,hp⟩:=kV h2;obtain⟨g,D⟩:s.length < 4294967281/\1<=p.length:=g;obtain⟨m,C⟩:=Da B a (k:=0) (by rfl);have q:=tD s
 refine(Tryz.strings_Split ⟨s.toArray⟩ ⟨p.toArray⟩ m w kQ1 C (by grind [tD])).mono ?_;rintro e w' ⟨rfl,rfl⟩
 have f:=Lib.splitB_all ⟨p.toArray⟩ (by grind [tD]) 0 _ ⟨s.toArray⟩ rfl
 have r:=Lib.countB_le ⟨p.toArray⟩ (by grind [tD]) _ ⟨s.toArray⟩ (af2 _)
 have n:=xx ⟨p.toArray⟩ (Lib.countB ⟨s.toArray⟩ ⟨p.toArray⟩) ⟨s.toArray⟩
 have t:fd s p=(Lib.splitB ⟨p.toArray⟩ 0 (Lib.countB ⟨s.toArray⟩ ⟨p.toArray⟩) ⟨s.toArray⟩).map (·.data.toList):=rfl
 generalize Lib.splitB ⟨p.toArray⟩ 0 (Lib.countB ⟨s.toArray⟩ ⟨p.toArray⟩) ⟨s.toArray⟩=L at f n t⊢;rw[<- f];rw[q]at r n;refine⟨_,fun b o=>if b=w.heap.size then((L.map Value.string).toArray[o]?).map HV.c else H b o,rfl,(Below.refl _ w).alloc (af2 _) _,fun b o y h=>?_,fun b o h1 h2=>?_,fun b o x l c h1 h2=>?_,fun b o y h=>?_,fun _=>rfl,1,?_⟩
 ·have:=(a b o y h).lt
  grind
 ·grind
 ·grind
 ·dsimp only at h;split at h
  ·rename_i hb;subst hb;obtain⟨z,hz,rfl⟩:=agG.1 h;show World.cell? _ _=some z
   grind [World.cell?_alloc_new]
  ·exact(a b o y h).frame (cP (a b o y h).lt)
 ·show FD _ 1 (.li ((fd s p).map (ap .s))) _
  rw[t,j8];unfold BIG at hs⊢;refine⟨_,_,by rw[af7,af7],by simp,by grind,.inr ⟨w.heap.size,0,1,rfl,fun i hi=>?_⟩⟩;have hi:i<L.length:=by grind
  have e:((L.map (·.data.toList)).map (ap .s)).getD i []=[.str L[i].data.toList]:=by
   rw[List.getD,af5,af5,af1 hi];rfl
  rw[e];refine⟨rfl,fun j hj=>?_⟩;have hj:j=0:=by omega
  subst hj;refine⟨.string L[i],?_,?_⟩
  ·grind
  ·refine⟨by simp,?_⟩
   grind [ah1,Lib.size_eq])
end Go.Am
end

section
namespace Go.Am
variable{j:Nat}
section
variable {g:G} {s1:S} {a:Act} {w:World} {H1:FH} {γ:Gam} {F1:Nm->Fp}
theorem Nk(h1:RX g s1 a w H1 γ F1){o:Operand}{os:List Operand}{r:Nm}{cells:List T}(k:aG o=true/\os.all aG=true)(B:ev s1 o=.one (.c (.pl ⟨r,0,[]⟩)))(d:ae s1.m r=some ⟨true,cells⟩)
  (y:(Nm.out j).tyd=r.tyd) (t:cells.all (T.self r)=true) (hfz:(os.map (ev s1)).all AV.isFz=true) {nt:Nat} (M:os.length+1<=nt) :
  ∃b f,γ r=.blk b/\RX ⟨nt,w,H1,F1 r,fun i=>if i=j then some b else none,none,[]⟩ ⟨dQ 0 (.one (.c (.pl ⟨.out j,0,[]⟩))::os.map fun x=>(ev s1 x).map T.canon),[(.out j,⟨true,cells.map (T.ren r (.out j))⟩)]⟩
   ⟨((o::os).map a.eval).toArray++Array.replicate (nt - ((o::os).map a.eval).toArray.size) undef,[]⟩ w H1 f (fun _=>F1 r):=by
 have l:=aJ h1 k.1
 rw[B]at l;obtain⟨_,p,ad,J,v⟩:=l;have K:=h1.mem.roots _ (aj d)
 obtain⟨b,hγr⟩:∃b,γ r=.blk b:=by
  grind [bU]
 have A:ad=⟨b,0,none⟩:=by
  grind [plA]
 subst A;have H:0<cells.length:=by
  rw[ax]at p;obtain⟨r0,E,q2⟩:=p;dsimp only at E;rw[d]at E;obtain rfl:=Option.some.inj E;exact q2
 let f:Gam:=fun n=>if n=.out j then .blk b else γ n
 let q:Mm:=[(.out j,⟨true,cells.map (T.ren r (.out j))⟩)]
 let g1:G:=⟨nt,w,H1,F1 r,fun i=>if i=j then some b else none,none,[]⟩
 have z:f (.out j)=.blk b:=by grind
 have L:bU w H1 f q (.out j) ⟨true,cells.map (T.ren r (.out j))⟩ (F1 r):=
  vf K y t hγr d z ⟨cells.map (T.ren r (.out j)),by simp[q,ae],by simp⟩
 have C:∀c,F1 r c<=tot F1 s1.m c:=fun c=>bR (F:=F1) (aj d) c
 let I:Nm->Fp:=fun _=>F1 r
 have s:∀c,tot I q c=F1 r c:=fun c=>(Nat.add_zero (F1 r c))
 have D:Mem w H1 f q I:=by
  refine⟨h1.mem.agree,fun x hx=>?_,by simp[q],fun c=>by rw[s];exact ahK (C c) (h1.mem.le1 c),fun c hc=>by rw[s]at hc;exact h1.mem.lt c (by grind),fun c hc=>by rw[s]at hc;exact h1.mem.nofz c (by grind)⟩
  grind
 refine⟨b,f,hγr,?_⟩;refine⟨D,⟨af2 _,rfl,rfl,rfl,fun _ _ _=>rfl,fun _ _ _ h=>h,fun b o h2 h3=>absurd h3 h2,fun c hc=>.inl (by grind),qH⟩,?_,⟨rfl,fun i b' e=>?_,j9 h1⟩,fun i=>?_⟩
 ·grind
 ·grind
 ·have hget:∀x,(o::os)[i]? = some x->(((o::os).map a.eval).toArray++Array.replicate (nt - ((o::os).map a.eval).toArray.size) undef).getD i undef=a.eval x:=by
   intro x hx;rw[ahM,ahF (by grind)]
   grind
  cases i with
  |zero=>
   rw[G.tv_none rfl,hget o rfl,v];simp only[dQ,aY,if_true];refine⟨fun _=>rfl,?_,⟨b,0,none⟩,?_,rfl⟩
   ·rw[ax];refine⟨⟨true,cells.map (T.ren r (.out j))⟩,by simp[q,ae],?_⟩;show 0 < (cells.map (T.ren r (.out j))).length
    grind
   grind [plA]
  |succ i=>
   have u:aY (dQ 0 (.one (.c (.pl ⟨.out j,0,[]⟩))::os.map fun x=>(ev s1 x).map T.canon)) (i+1)=((os.map fun x=>(ev s1 x).map T.canon)[i]?).getD .any:=by
    grind [jg]
   show AR w H1 f q (aY (dQ 0 (.one (.c (.pl ⟨.out j,0,[]⟩))::os.map fun x=>(ev s1 x).map T.canon)) (i+1)) _
   rw[u,af5];cases hi:os[i]? with
   |none=>simp only[Option.map_none,Option.getD_none];trivial
   |some x=>
    have hx:=aJ h1 (agH.1 k.2 x (ahA hi))
    simp only[Option.map_some,ahG];have hz:(ev s1 x).isFz=true:=agH.1 hfz (ev s1 x) (List.mem_map_of_mem (ahA hi))
    rw[G.tv_none rfl,hget x (by grind)];exact iv fa (yy (fun _ _ _ h=>h) hz hx)
theorem Sq(h1:RX g s1 a w H1 γ F1){r:Nm}{cells:List T}(u:ae s1.m r=some ⟨true,cells⟩)(P:(Nm.out j).tyd=r.tyd){b:Nat}(hγr:γ r=.blk b){nt:Nat}{s2:S}{a':Act}{w':World}{D:FH}{γ':Gam}{A:Nm->Fp}
  (I:RX ⟨nt,w,H1,F1 r,fun i=>if i=j then some b else none,none,[]⟩ s2 a' w' D γ' A) {d:List T} (B:ae s2.m (.out j)=some ⟨true,d⟩) (al:d.length=cells.length) (hs2:d.all (T.self (.out j))=true) :
  ∃F3,RX g ⟨oz (lE r) s1.t,(r,⟨true,d.map (T.ren (.out j) r)⟩)::aM (lE r) (cm s1.m r)⟩ a w' D γ F3:=by
 have ak:∀c,F1 r c<=tot F1 s1.m c:=fun c=>bR (F:=F1) (aj u) c
 have k:=I.fr
 dsimp only at k;have hd:=xU h1 r
 have N:(s1.drop r).m=aM (bO r) (cm s1.m r):=rfl
 have l:=hd.mem
 rw[N]at l;generalize hmd0:aM (bO r) (cm s1.m r)=md at l;have z:∀c,tot F1 md c+F1 r c=tot F1 s1.m c:=fun c=>by
  grind [bk,pP]
 have s:∀c,tot F1 md c≠0->w'.heap[c]? = w.heap[c]? := fun c hc=>
  k.block c (h1.mem.lt c (by grind)) (by have:=z c;have:=h1.mem.le1 c;omega)
 have J:∀c,c<w.heap.size->F1 r c=0->H1 c=D c:=by
  intro c hc h0
  funext o
  cases hh:H1 c o with
  |some y=>rw[k.hold c o y hh]
  |none=>
   cases ai:D c o with
   |none=>rfl
   |some y=>
    rcases k.hnew c o (by grind) hh with h'|h'
    all_goals omega
 have U:=gl (w':=w') l s
 have ab:Mem w' D γ md F1:=by
  refine⟨I.mem.agree,fun x hx=>be U k.hold rfl (fun c hc=>s c (by grind [bR])) (l.roots x hx),l.keys,l.le1,fun c hc=>by grind [Mem.lt],fun c hc o=>?_⟩;rw[<- J c (l.lt c hc) (by have:=z c;have:=h1.mem.le1 c;omega)];exact l.nofz c hc o
 have K:=I.mem.roots _ (aj B)
 have O:γ' (.out j)=.blk b:=I.df.2.1 j b (by simp)
 have v:ae md r=none:=by rw[<- hmd0];exact Vz h1.mem.keys
 have E:upd γ r (.blk b)=γ:=by
  grind [fo,og]
 have Y:bU w' D (upd γ r (.blk b)) ((r,⟨true,d.map (T.ren (.out j) r)⟩)::md) r ⟨true,d.map (T.ren (.out j) r)⟩ (A (.out j)):=
  vf K P.symm hs2 O B fo ⟨d.map (T.ren (.out j) r),by grind [ae],by simp⟩
 have am:∀c,A (.out j) c<=tot A s2.m c:=fun c=>bR (F:=A) (aj B) c
 have V:∀c,A (.out j) c≠0->F1 r c≠0\/w.heap.size<=c:=fun c hc=>k.tt c (by grind)
 have L:∀c,A (.out j) c≠0->tot F1 md c=0:=fun c hc=>by
  rcases V c hc with h'|h'
  ·have:=z c;have:=h1.mem.le1 c;omega
  grind [Mem.lt]
 obtain⟨M,ad⟩:=DY ab (n:=r) (rc:=.blk b) (r:=⟨true,d.map (T.ren (.out j) r)⟩) (f:=A (.out j)) v Y (fun c=>by
   by_cases hc:A (.out j) c=0
   ·grind [Mem.le1]
   ·have:=L c hc;have:=I.mem.le1 c;grind)
  (fun c hc=>⟨I.mem.lt c (by grind),I.mem.nofz c (by grind)⟩)
 rw[E]at M;have ah:Fr w H1 (tot F1 s1.m) w' D (tot (upd F1 r (A (.out j))) ((r,⟨true,d.map (T.ren (.out j) r)⟩)::md)):=by
  refine⟨k.size,k.os,k.tape,k.output,fun c hc h0=>k.block c hc (by grind),k.hold,fun c o h2 h3=>?_,fun c hc=>?_,k.nz⟩
  all_goals grind
 have H:KeepsB (lE r) w γ s1.m w' γ ((r,⟨true,d.map (T.ren (.out j) r)⟩)::md):=by
  have ac:=pY (w:=w') (γ:=γ) (rc:=.blk b) (r:=⟨true,d.map (T.ren (.out j) r)⟩) v
  rw[E]at ac;have ag:KeepsB (bO r) w γ s1.m w γ md:=by grind [eY]
  constructor
  ·intro q p hq;by_cases C:q.root=r
   ·obtain⟨qr,qo,qp⟩:=q;dsimp only at C;subst C;simp only[lE,decide_true,ag1,Bool.false_or,Bool.not_eq_false',List.isEmpty_iff]at p;subst p;refine⟨?_,by rfl⟩;rw[ax]at hq⊢;obtain⟨r0,Z,q2⟩:=hq;dsimp only at Z q2;rw[u]at Z;obtain rfl:=Option.some.inj Z;refine⟨⟨true,d.map (T.ren (.out j) qr)⟩,by grind [ae],?_⟩;have af:qo<cells.length:=q2
    show qo < (d.map (T.ren (.out j) qr)).length
    grind
   grind [KeepsB.pl,bO,Keeps.pl,Keeps.pl]
  grind [lE,KeepsB.rf,bO,Keeps.rf,Keeps.rf]
 have W:ae ((r,(⟨true,d.map (T.ren (.out j) r)⟩:Root))::aM (lE r) (cm s1.m r)) r=some ⟨true,d.map (T.ren (.out j) r)⟩:=by grind [ae]
 have G:KeepsB (lE r) w γ s1.m w' γ ((r,⟨true,d.map (T.ren (.out j) r)⟩)::aM (lE r) (cm s1.m r)):=by
  constructor
  ·intro q p hq;refine⟨?_,(H.pl q p hq).2⟩;by_cases C:q.root=r
   ·have h:=(H.pl q p hq).1
    grind [ax,ae]
   ·have h2:bZ (aM (lE r) (cm s1.m r)) q:=sA (by grind [ax,mn])
    grind [ax,ae]
  ·intro q p hq;have C:q.root≠r:=by
    grind [lE]
   refine⟨?_,(H.rf q p hq).2⟩;have h2:ip (aM (lE r) (cm s1.m r)) q:=sB (by grind [ip,mn])
   grind [ip,ae]
 have aa:∀X:Nm->Fp,tot X ((r,(⟨true,d.map (T.ren (.out j) r)⟩:Root))::aM (lE r) (cm s1.m r))=tot X ((r,⟨true,d.map (T.ren (.out j) r)⟩)::md):=fun X=>by
  grind [eG,bk]
 have R:Mem w' D γ ((r,⟨true,d.map (T.ren (.out j) r)⟩)::aM (lE r) (cm s1.m r)) (upd F1 r (A (.out j))):=by
  refine⟨M.agree,fun x hx=>?_,?_,fun b=>by rw[aa];exact M.le1 b,fun b hb=>M.lt b (by simp_all),fun b hb=>M.nofz b (by simp_all)⟩
  ·rcases agC.1 hx with rfl|hx
   ·grind [fo,vf]
   ·simp only[aM,agL]at hx;obtain⟨x0,hx0,rfl⟩:=hx;dsimp only;have Q:x0.1≠r:=fun e=>qG (n:=r) h1.mem.keys (by grind)
    rw[og Q];refine rP G k.hold rfl (fun c hc=>s c ?_) (h1.mem.roots x0 (Ax hx0))
    grind [bR,bk]
  ·have:=M.keys
   grind [nN]
 refine⟨_,jE h1 R (by grind) (fun i=>?_) (fun _=>rfl)⟩;rw[sg];exact xS G k.hold (h1.t i)
end
theorem YH{α β:Type}{r:Except Value α×β}{K K':α->β->Prop}{KP:Value->β->Prop}(h:∀x y,K x y->K' x y)(hr:exP r K KP):exP r K' KP:=by
 grind [exP]
variable{an:An}{fn:Func}{ps rs:List U}{sh:List Sh}{u:U}
theorem K7{e:En}(he:e.ok)(hm:e.P.follows .mixedOrders=true){f:Nat}(hf:e.P.funcs[f]? = some fn) (N:(fn.name == "runtime.NumGoroutine")=false) (hb:fn.body.isSome=true)    
  (ag:Nat.ble (ps.length+1) fn.ntmps=true) (hc:jI fn.ntmps (fn.body.getD .skip)=true):Cont e.P f (Pv e fn an sh u ps rs):=by
 have au:fn.body=some (fn.body.getD .skip):=by cases h:fn.body<;>grind
 refine⟨Ba hf N hb,fun pk s ops k k' hk l=>?_,fun g pk s a w H γ F1 ops k hX ax l=>?_⟩
 ·unfold Pv at l⊢;split at l
  ·omega
  ·dsimp only at l⊢;split at l
   ·split at l
    ·split at l
     ·split at l
      ·split at l
       ·obtain⟨KK,KP,b1,b2,b3⟩:=l;refine⟨KK,KP,b1,fun z x' hz=>hk _ _ ?_ (b2 z x' hz),b3⟩;exact((eX _ _).trans (dE _ _ _ _ _)).trans ⟨agU _,ix (af2 _),((oJ _).trans (eJ (af2 _))).trans (lW _ _ _ (af2 _))⟩
       omega
      omega
     omega
    omega
   omega
 ·unfold Pv at l;cases ops with
  |nil=>grind
  |cons o os=>
   dsimp only at l;have B:aG o=true/\os.all aG=true:=by grind
   obtain⟨H1,F2,h1⟩:=ka (os.map (evA s)) s H F1 hX;generalize eL s (os.map (evA s))=s1 at l h1;split at l
   ·rename_i r az;obtain⟨H2,V,F3,h2⟩:=dU (g:=g) r (kh u) sh 0 (XR h1);generalize bM s1 r (kh u) sh 0=s2 at l h2;split at l
    ·rename_i n ab;split at l
     ·rename_i cells aD Z U;have ao:n=r:=by grind
      subst ao;split at l
      ·rename_i ts X;split at l
       ·rename_i x y hx hy;have ai:=gD h2
        obtain⟨c1,c2,c3⟩:=kg hy;obtain⟨k1,_⟩:=ym X (nl hx);have p:ae s2.toS.m n=some ⟨true,cells.map Tt.toT⟩:=by
         have:=br U
         exact this
        have R:os.length=ps.length:=by
         grind [i9]
        obtain⟨b,al,hγr,aa⟩:=Nk (j:=0) h2 B (by rw[af B.1,ab];rfl) p (by rw[Z];rfl) (rW X).1 (by grind [Pj]) (nt:=fn.ntmps) (by rw[R];exact agD ag);have G:=CH aa (.out 0)
        have e0:(⟨1,(0,0,.one (.c (.pl ⟨.out 0,0,[]⟩)))::Q5 1 ps y,[(.out 0,0,⟨true,bH sh (flat u x),none⟩)]⟩:St).toS=⟨dQ 0 (.one (.c (.pl ⟨.out 0,0,[]⟩))::os.map fun x=>(ev s2.toS x).map T.canon),[(Nm.out 0,(⟨true,(cells.map Tt.toT).map (T.ren n (.out 0))⟩:Root))].map fun x=>(x.1,if x.1=.out 0 then lF x.2 else x.2)⟩:=by
         have M:(os.map fun x=>(ev s2.toS x).map T.canon)=kS ps y:=by
          have e:(os.map fun x=>(ev s2.toS x).map T.canon)=(os.map (ev s2.toS)).map (AV.map T.canon):=by rw[ag6];rfl
          grind [Pj]
         rw[M];refine bV.S_ext ?_ ?_
         ·simp only[St.toS,af3,dQ,tR];rfl
         ·rw[(rW X).2]
          grind [Rt.toR,holed,lF]
        rw[<- e0]at G;obtain⟨KK,KP,h,av,ar⟩:=l;have L:∀{s':S}{a':Act}{w':World}{H':FH}{γ':Gam}{F':Nm->Fp}{d I:List Tt}{q:El u},RX ⟨fn.ntmps,w,H2,F3 n,fun i=>if i=0 then some b else none,none,[]⟩ s' a' w' H' γ' F' ->
          ae s'.m (.out 0)=some ⟨true,d.map Tt.toT⟩->iq sh d=some I->nk u I=some q ->
          ∃F4,RX g (⟨s2.nx+1,oy (l7 n) s2.nx s2.t,(n,s2.nx,⟨true,bH sh (flat u q),none⟩)::cN (l7 n) s2.nx (fM s2.m n)⟩:St).toS a w' H' V F4:=by
         intro s' a' w' H' γ' F' d I q W ad q2 q3;obtain⟨k3,_⟩:=ym q2 (nl q3);have hl:(d.map Tt.toT).length=(cells.map Tt.toT).length:=by
          have l2:∀(sh:List Sh)(a b:List C),a.length=b.length->(bH sh a).length=(bH sh b).length:=by
           intro sh;induction sh with
           |nil=>intro a b _;rfl
           |cons s r ih=>
            intro a b aB;have aw:∀(c:C)(cs:List C),(bH (s::r) (c::cs)).length=(bH r cs).length+1:=by
             intro c cs;cases s<;>cases c<;>rfl
            cases a with
            |nil=>grind
            |cons c cs=>cases b<;>grind
          grind [xh,af7]
         obtain⟨F4,hX'⟩:=Sq (j:=0) h2 p (by rw[Z];rfl) hγr W ad hl (rW q2).1;refine⟨F4,?_⟩;have aC:=CH hX' n
         have ap:((n,(⟨true,(d.map Tt.toT).map (T.ren (.out 0) n)⟩:Root))::aM (lE n) (cm s2.toS.m n)).map (fun x=>(x.1,if x.1=n then lF x.2 else x.2))=(n,⟨true,(bH sh (flat u q)).map Tt.toT⟩)::aM (lE n) (cm s2.toS.m n):=by
          simp only[af3,if_true]
          congr 1
          ·grind [DB,lF]
          ·refine(agJ fun z hz=>?_).trans (List.map_id _);have aA:z.1≠n:=by
            intro e;have ac:z.1∈(aM (lE n) (cm s2.toS.m n)).map (·.1):=List.mem_map_of_mem (f:=(·.1)) hz
            have W:(aM (lE n) (cm s2.toS.m n)).map (·.1)=(cm s2.toS.m n).map (·.1):=by simp only[aM,ag6];rfl
            rw[W,e]at ac;exact qG h2.mem.keys ac
           grind
         have ay:(⟨s2.nx+1,oy (l7 n) s2.nx s2.t,(n,s2.nx,⟨true,bH sh (flat u q),none⟩)::cN (l7 n) s2.nx (fM s2.m n)⟩:St).toS=⟨oz (lE n) s2.toS.t,(n,⟨true,(bH sh (flat u q)).map Tt.toT⟩)::aM (lE n) (cm s2.toS.m n)⟩:=by
          refine bV.S_ext (qu _ _ _) ?_;simp only[St.toS,af3]
          congr 1
          have:=fg (l7 n) s2.nx (fM s2.m n)
          rw[oY _ _ ai]at this;exact this
         grind
        refine calls_of_wp hf au (Code.wp_mono (fun ex a' w' hl=>?_) (oH (e:=⟨e.P,e.E,e.cs,e.sh,WX sh u KP⟩) he hm (g:=⟨fn.ntmps,w,H2,F3 n,fun i=>if i=0 then some b else none,none,[]⟩) _ an _ _ hc h _ w ⟨H2,al,_,G⟩));obtain⟨s',hq,hR⟩:=hl;have fin:∀t:St,s'=t.toS->PB e.P fn.results.toList sh u rs KK t ->
          a'.defers=[]/\∃v,(results fn a'.tmps).run e.P w'=.ok v w'/\mg g a pk k (.returned v) w':=by
         rintro t rfl J
         unfold PB at J;dsimp only at J;have A:=dU (.out 0) (kh u) sh 0 (rO fn.results.toList hR)
         generalize bM (pd t fn.results.toList) (.out 0) (kh u) sh 0=s3 at J A;have Y:=sb (us:=rs) (k:=fun vs=>match da rs vs,cq s3.m (.out 0)with
          |some aj,some ⟨true,cells,none⟩=>match iq sh cells with
           |some ts=>match nk u ts with
            |some ak=>KK (aj,ak)
            |none=>False
           |none=>False
          |_,_=>False) (by
           intro vs D;split at D
           all_goals grind) J
         have aq:=lz (us:=rs) (K:=fun r=>∃cells ts q,cq s3.m (.out 0)=some ⟨true,cells,none⟩/\iq sh cells=some ts/\nk u ts=some q/\KK (r,q)) (aaZ A) (by
           intro vs D;split at D
           ·rename_i x1 d h1 h2;split at D
            ·rename_i ts h3;split at D
             all_goals grind
            grind
           grind) J
         obtain⟨Hs,am,Fs,Q⟩:=A;obtain⟨y0,v,H4,F4,M,W,e3,e4,r0,e5,d,I,q,q1,q2,q3,q4⟩:=WU Q rfl (Pz Y (K:=fun v=>∃r,v=(gC rs r).toV/\∃cells ts q,cq s3.m (.out 0)=some ⟨true,cells,none⟩/\iq sh cells=some ts/\nk u ts=some q/\KK (r,q)) (fun r hr=>⟨r,rfl,hr⟩) aq);rw[Y]at W e3;obtain⟨F5,O⟩:=L W (br q1) q2 q3;refine⟨W.df.1,y0,M,.inl ⟨y0,_,gC rs r0,H4,V,F5,rfl,av _ _ q4,?_,O⟩⟩;rw[<- e5];exact iv fa (yy (fun _ _ _ h=>h) e4 e3)
        cases ex with
        |normal=>obtain⟨t,M,J⟩:=hq;exact fin t M J
        |ret=>obtain⟨t,M,J⟩:=hq;exact fin t M J
        |exit i=>obtain⟨t,M,J⟩:=hq;grind
        |panic c=>
         obtain⟨v,t,rfl,rfl,hv⟩:=hq;unfold WX at hv;dsimp only at hv;have A:=dU (.out 0) (kh u) sh 0 hR
         have ah:a'.defers=[]:=by obtain⟨_,_,_,hX'⟩:=hR;exact hX'.df.1
         generalize bM t (.out 0) (kh u) sh 0=s3 at hv A;split at hv
         ·rename_i d q1;split at hv
          ·rename_i I q2;split at hv
           ·rename_i q q3;obtain⟨Hs,am,Fs,Q⟩:=A;obtain⟨F5,O⟩:=L Q (br q1) q2 q3;exact⟨ah,.inr ⟨v,_,rfl,ar _ _ hv,Hs,V,F5,O⟩⟩
           grind
          grind
         grind
        |_=>exact hq.elim
       grind
      grind
     grind
    grind
   grind
variable{e:En}{f:Nat}
theorem Cc(he:e.ok)(l:e.P.follows .mixedOrders=true)(hf:e.P.funcs[f]? = some fn) (c:(fn.name == "runtime.NumGoroutine")=false) (hb:fn.body.isSome=true) {an:An} {sh:List Sh} {u:U} {ps rs:List U} {pre:El u->Fl ps->Prop} {Fn:El u->Fl ps->Except Value (Fl rs)×El u}
  (d:Nat.ble (ps.length+1) fn.ntmps=true) (hc:jI fn.ntmps (fn.body.getD .skip)=true) (j:∀x y,pre x y->∀(KK:Fl rs×El u->Prop)(KP:Value->El u->Prop),exP (Fn x y) (fun z x'=>KK (z,x')) KP->xX e fn an sh u ps rs x y KK KP):Cont e.P f (JY sh u ps rs pre Fn):=by
 have h:=K7 he l hf c hb (an:=an) (sh:=sh) (u:=u) (ps:=ps) (rs:=rs) d hc
 refine⟨h.run,fun pk s ops k k' hk b=>?_,fun g pk s a w H γ F ops k hX i b=>h.call g pk s a w H γ F ops k hX i ?_⟩
 ·unfold JY at b⊢;split at b
  ·omega
  ·dsimp only at b⊢
   (repeat' split at b)<;>first|exact b.elim|skip
   refine⟨b.1,YH (fun z x' hz=>hk _ _ ?_ hz) b.2⟩;exact((eX _ _).trans (dE _ _ _ _ _)).trans ⟨agU _,ix (af2 _),((oJ _).trans (eJ (af2 _))).trans (lW _ _ _ (af2 _))⟩
 ·unfold JY at b;unfold Pv;split at b
  ·omega
  ·dsimp only at b⊢
   (repeat' split at b)<;>first|exact b.elim|skip
   rename_i x y _ _;refine⟨fun z=>Fn x y=(.ok z.1,z.2),fun v x'=>Fn x y=(.error v,x'),j _ _ b.1 _ _ ?_,fun z x' hz=>?_,fun v x' hv=>?_⟩
   ·generalize Fn x y=r;obtain⟨r1,r2⟩:=r;cases r1<;>rfl
   ·have h2:=b.2;rw[show Fn x y=(.ok z,x')from hz]at h2;exact h2
   ·have h2:=b.2;rw[hv]at h2;exact h2
theorem FR{e:En}(he:e.ok)(j:e.P.follows .mixedOrders=true){g:G}(k:g.nt=fn.ntmps)(hc:jI fn.ntmps (fn.body.getD .skip)=true){x:Fl ps}{KK:Fl rs->Prop}{K:AV->Prop}
  (f:∀r,KK r->K (gC rs r).toV) (h:GZ e fn an ps rs x KK):AW e.P g (fn.body.getD .skip) (adG e.P fn.results.toList K) ⟨dQ 0 (kS ps x),[]⟩:=by
 have h1:=oH (e:=⟨e.P,e.E,e.cs,e.sh,fun _ _=>False⟩) he j (g:=g) _ an (LZ ps x) _ (by grind) h
 have e0:(LZ ps x).toS=⟨dQ 0 (kS ps x),[]⟩:=bV.S_ext (tR 0 ps x) rfl
 rw[e0]at h1;refine yz h1 (fun ex s' a w h' d=>?_);cases ex with
 |normal=>
  obtain⟨t,rfl,b⟩:=h';exact Fk f b d
 |ret=>
  obtain⟨t,rfl,b⟩:=h';exact Fk f b d
 |exit i=>exact h'.elim (fun t b=>b.2.elim)
 |panic c=>obtain⟨_,_,_,_,hf⟩:=h';grind
 |_=>exact h'.elim
theorem ae5(a:scU u=true)(x:El u):∀{H H':FH}{y:Value},FDx H (am u x).toD y->FDx H' (am u x).toD y:=by
 intro H H' y h;cases u with
 |i k=>obtain⟨rfl,h2⟩:=fp h;exact⟨0,rfl,h2⟩
 |b8=>obtain⟨rfl,h2⟩:=fp h;exact⟨0,rfl,h2⟩
 |bo=>obtain rfl:=iZ h;exact⟨0,rfl⟩
 |s=>obtain⟨rfl,h2⟩:=gS h;exact⟨0,rfl,h2⟩
 |_=>cases a
theorem ZL(a:scU u=true)(x:El u):B8 u x=.c (.d (am u x)):=by cases u<;>first|rfl|cases a
theorem ae4{w w':World}{H H':FH}{γ γ':Gam}{m m':Mm}:∀{rs:List U}{y:Fl rs}{z:Value},rs.all scU=true->AR w H γ m (gC rs y).toV z->AR w' H' γ' m' (gC rs y).toV z:=by
 have one:∀{u:U}{x:El u}{z:Value},scU u=true->AR1 w H γ m (B8 u x).toV z->AR1 w' H' γ' m' (B8 u x).toV z:=by
  intro u x z a h;rw[ZL a]at h⊢;exact⟨h.1,ae5 a x h.2⟩
 have all:∀(rs:List U)(y:Fl rs)(zs:List Value),rs.all scU=true->ARs w H γ m ((gC.resL rs y).map A1.toV) zs->ARs w' H' γ' m' ((gC.resL rs y).map A1.toV) zs:=by
  intro rs;induction rs with
  |nil=>intro y zs _ h;cases zs with
   |nil=>trivial
   |cons _ _=>exact h.elim
  |cons u r ih=>
   intro y zs hs h;simp only[agF,afZ]at hs;cases zs with
   |nil=>exact h.elim
   |cons z zs=>exact⟨one hs.1 h.1,ih _ zs hs.2 h.2⟩
 intro rs y z hs h
 match rs,y with
 |[],_=>obtain⟨l,h1,h2⟩:=h;exact⟨l,h1,all [] () _ rfl h2⟩
 |[u],y=>
  simp only[agF,ah6,ahU]at hs;have e:(gC [u] y).toV=.one (B8 u y).toV:=by show(Bp u y).toV=_;rw[uQ];rfl
  rw[e]at h⊢;exact one hs h
 |u::v::r,y=>obtain⟨l,h1,h2⟩:=h;exact⟨l,h1,all (u::v::r) y _ hs h2⟩
section
variable {P:Program} {g:G} {a:Act} {w:World} {H:FH} {γ:Gam} {F:Nm->Fp}
theorem Kx{s:St}{p:Pl}{l:List (El u)}{r:Rt}(hr:cq s.m p.root=some r)(k:r.hole=none)(h:sliceAt s.m p=some ⟨sh,u,l⟩)(hp:okP s.toS.m p):aW s.toS.m p=some (.ow sh (l.map (ap u))):=by
 unfold sliceAt at h;split at h
 ·rename_i t u' l' b;cases h;have e:r.toR=⟨r.blk,r.cells.map Tt.toT⟩:=by unfold Rt.toR;rw[k];rfl
  have i:ae s.toS.m p.root=some ⟨r.blk,r.cells.map Tt.toT⟩:=by rw[<- e];exact br hr
  unfold atT at b;rw[hr]at b;dsimp only at b;unfold aW;rw[i];dsimp only;cases a:p.path with
  |nil=>
   rw[a]at b;dsimp only at b⊢;split at b
   ·simp only[af0]at b;have:(r.cells.drop p.off)[0]? = some (.ow sh u l):=by
     grind [ahL]
    rw[ah2,Nat.add_zero]at this;rw[af5,this];rfl
   grind
  |cons st q=>
   rw[a]at b;dsimp only at b⊢;split at b
   ·rename_i sub o l2 _ hc;unfold okP at hp;rw[a]at hp;obtain⟨v,j,l',g,f,n⟩:=hp;rw[i]at g;obtain rfl:=Option.some.inj g;dsimp only at f;have d:(r.cells.map Tt.toT)[p.off]? = some (.ow sub (l2.map (ap o))):=by rw[af5,hc];rfl
    rw[d]at f;have c:=Option.some.inj f
    simp only[T.ow.injEq]at c;obtain⟨rfl,rfl⟩:=c;rw[d];dsimp only;rw[Aa n b]
   grind
 grind
def mC(w:World)(H:FH)(t:Fp):FH:=fun b o=>if t b≠0 then(w.cell? ⟨b,o,none⟩).map HV.c else H b o
theorem uc{s:S}(h:RX g s a w H γ F):∀b o y,H b o=some y->mC w H (tot F s.m) b o=some y:=by
 intro b o y hy;unfold mC;split
 ·rename_i hb;rw[h.mem.nofz b hb o]at hy;cases hy
 omega
theorem Js{s:S}(h:RX g s a w H γ F):∀b o y,mC w H (tot F s.m) b o=some y->RdV w b o y:=by
 intro b o y hy;unfold mC at hy;split at hy
 ·obtain⟨z,hz,rfl⟩:=agG.1 hy;exact hz
 ·exact h.mem.agree b o y hy
theorem ML(s:St)(v:At):lent s v=v\/∃p r sh u l,v=.one (.c (.rf p))/\lent s v=sct (.li u l)/\cq s.m p.root=some r/\r.hole=none/\sliceAt s.m p=some ⟨sh,u,l⟩:=by
 unfold lent
 grind
theorem Zd{s:St}(h:RX g s.toS a w H γ F){v:At}{z:Value}(hv:AR w H γ s.toS.m v.toV z)(hz:(lent s v).toV.isFz=true):AR w (mC w H (tot F s.toS.m)) γ [] (lent s v).toV z:=by
 rcases ML s v with e|⟨p,r,sh,u,l,rfl,e,hr,d,hs⟩
 ·grind [yy,uc]
 ·rw[e];have j:=Kx hr d hs (pz hv.2.1)
  obtain⟨f,y,c,⟨k,i⟩,n,_⟩:=yS h.mem (fh hv.2.1) j;rw[hv.2.2]at c;obtain rfl:=Option.some.inj c;refine⟨fun _=>rfl,TZ (uc h) k _ _ f _ i (fun b hb o x hx=>?_)⟩
  grind [mC]
theorem Wa{s:St}(h:RX g s.toS a w H γ F){ops:List Operand}(c:ops.all aG=true){x:Fl ps}(hx:da ps (ops.map fun x=>lent s (evA s x))=some x){nt:Nat}(d:ops.length<=nt) :
  RX ⟨nt,w,mC w H (tot F s.toS.m),fun _=>0,fun _=>none,none,[]⟩ ⟨dQ 0 (kS ps x),[]⟩ ⟨(ops.map a.eval).toArray++Array.replicate (nt - (ops.map a.eval).toArray.size) undef,[]⟩ w (mC w H (tot F s.toS.m)) γ F:=by
 obtain⟨f,c2,c3⟩:=kg hx;refine⟨⟨Js h,fun x hx=>by grind,by simp,fun b=>agW _,fun b hb=>absurd rfl hb,fun b hb=>absurd rfl hb⟩,⟨af2 _,rfl,rfl,rfl,fun _ _ _=>rfl,fun _ _ _ h=>h,fun b o h2 h3=>absurd h3 h2,fun b hb=>absurd rfl hb,qH⟩,?_,⟨rfl,fun j b e=>by simp at e,yP (uc h) (j9 h)⟩,fun i=>?_⟩
 ·grind
 ·show AR w _ γ [] (aY (dQ 0 (kS ps x)) i) (Array.getD _ i undef)
  rw[<- c3,jg];simp only[agW,if_true,Nat.sub_zero,af5];cases hi:ops[i]? with
  |none=>simp only[Option.map_none,Option.getD_none];trivial
  |some y=>
   have hop:=agH.1 c y (ahA hi)
   have hy:=aJ h hop
   rw[af hop]at hy;simp only[Option.map_some,ahG];have hz:(lent s (evA s y)).toV.isFz=true:=by
    grind
   have hget:((ops.map a.eval).toArray++Array.replicate (nt - (ops.map a.eval).toArray.size) undef).getD i undef=a.eval y:=by
    rw[ahM,ahF (by grind)];simp[hi]
   rw[hget];exact iv fa (Zd h hy hz)
theorem P9{s1:S}(h1:RX g s1 a w H γ F){w':World}{f:FH}{tt:Fp}(d:Fr w (mC w H (tot F s1.m)) (fun _=>0) w' f tt)(q:∀b o y,f b o=some y->RdV w' b o y) :
  RX g s1 a w' (fun b o=>if tot F s1.m b≠0 then none else f b o) γ F:=by
 have hold:∀b,b<w.heap.size->w'.heap[b]? = w.heap[b]? := fun b hb=>d.block b hb rfl
 have e:∀b,tot F s1.m b≠0->w'.heap[b]? = w.heap[b]? := fun b hb=>hold b (h1.mem.lt b hb)
 have k:=gl (w':=w') h1.mem e
 have j:∀b o y,H b o=some y->(if tot F s1.m b≠0 then none else f b o)=some y:=by
  intro b o y hy;split
  ·rename_i hb;rw[h1.mem.nofz b hb o]at hy;cases hy
  ·exact d.hold b o y (uc h1 b o y hy)
 have hnew:∀b o,(if tot F s1.m b≠0 then none else f b o)≠none->H b o=none->w.heap.size<=b:=by
  intro b o h2 h3;split at h2
  ·grind
  ·rename_i hb;have h4:mC w H (tot F s1.m) b o=none:=by grind [mC]
   rcases d.hnew b o h2 h4 with h'|h'
   all_goals omega
 have n:Mem w' (fun b o=>if tot F s1.m b≠0 then none else f b o) γ s1.m F:=by
  refine⟨fun b o y hy=>?_,fun x hx=>be k j rfl (fun b hb=>e b (by grind [bR])) (h1.mem.roots x hx),h1.mem.keys,h1.mem.le1,fun b hb=>by have:=h1.mem.lt b hb;grind,fun b hb o=>?_⟩
  all_goals grind
 have p:Fr w H (tot F s1.m) w' (fun b o=>if tot F s1.m b≠0 then none else f b o) (tot F s1.m):=
  ⟨d.size,d.os,d.tape,d.output,fun b hb _=>hold b hb,j,fun b o h2 h3=>.inr (hnew b o h2 h3),fun b hb=>.inl hb,d.nz.1,fun b o x l c h2 h3=>by
   grind [Fr.nz,mC]⟩
 exact jE h1 n p (fun i=>dv k j (h1.t i)) (fun _=>rfl)
theorem K6(he:e.ok)(u:e.P.follows .mixedOrders=true)(hf:e.P.funcs[f]? = some fn) (c:(fn.name == "runtime.NumGoroutine")=false) (hb:fn.body.isSome=true)   {Φ:Fl ps->(Fl rs->Prop)->Prop}
  (d:Nat.ble ps.length fn.ntmps=true) (hc:jI fn.ntmps (fn.body.getD .skip)=true) (n:∀x KK,Φ x KK->GZ e fn an ps rs x KK):Cont e.P f (Pa ps rs Φ):=by
 have j:fn.body=some (fn.body.getD .skip):=by cases h:fn.body<;>grind
 refine⟨Ba hf c hb,fun pk s ops k k' hk b=>?_,fun g pk s a w H γ F ops k hX i b=>?_⟩
 ·grind [Pa,Ext.refl]
 ·unfold Pa at b;split at b
  rotate_left
  ·grind
  rename_i x hx hs;obtain⟨KK,h1,hk⟩:=b;have o:ops.length=ps.length:=by
   obtain⟨_,_,c3⟩:=kg hx
   grind [i9]
  have A:=FR (g:=⟨fn.ntmps,w,mC w H (tot F s.toS.m),fun _=>0,fun _=>none,none,[]⟩) he u rfl hc (K:=fun r=>∃y,KK y/\r=(gC rs y).toV) (fun r hr=>⟨r,hr,rfl⟩) (n x KK h1)
  refine calls_of_wp hf j (Code.wp_mono (fun ex a' w' hl=>?_) (A _ w ⟨_,γ,F,Wa hX i hx (nt:=fn.ntmps) (by rw[o];exact agD d)⟩));obtain⟨s',hq,H',γ',F',hX'⟩:=hl;have fin:wq e.P s' fn.results.toList (fun r=>∃y,KK y/\r=(gC rs y).toV)->a'.defers=[]/\∃v,(results fn a'.tmps).run e.P w'=.ok v w'/\mg g a pk k (.returned v) w':=by
   intro hq;obtain⟨z,v,s2,E,B,q,l,p,D,y,t,C⟩:=Fh hX' rfl hq;refine⟨l.df.1,z,q,.inl ⟨z,s,gC rs y,_,γ,F,rfl,hk y t,?_,P9 hX l.fr l.mem.agree⟩⟩;have:=iv fa p
   grind [ae4]
  cases ex with
  |normal=>exact fin hq
  |ret=>exact fin hq
  |_=>exact hq.elim
theorem PS(he:e.ok)(l:e.P.follows .mixedOrders=true)(hf:e.P.funcs[f]? = some fn) (b:(fn.name == "runtime.NumGoroutine")=false) (hb:fn.body.isSome=true)  {rs:List U} {pre:Fl ps->Prop} {Fn:Fl ps->Fl rs}
  (c:Nat.ble ps.length fn.ntmps=true) (hc:jI fn.ntmps (fn.body.getD .skip)=true) (j:∀x,pre x->∀KK:Fl rs->Prop,KK (Fn x)->GZ e fn an ps rs x KK):Cont e.P f (V9 ps rs pre Fn):=by
 have h:=K6 he l hf b hb (rs:=rs) (Φ:=fun x KK=>pre x/\KK=fun y=>y=Fn x) c hc (fun x KK⟨h1,h2⟩=>j x h1 KK (by rw[h2]))
 refine⟨h.run,fun pk s ops k k' hk i=>?_,fun g pk s a w H γ F ops k hX d i=>h.call g pk s a w H γ F ops k hX d ?_⟩
 all_goals grind [V9,Ext.refl,Pa]
end
abbrev aa4(ps rs:List U)(pre:Fl ps->Prop)(post:Fl ps->Fl rs->Prop):CKt:=phT ps rs fun x K _=>pre x/\∀y,post x y->K y
structure NmR (σ:Nm->Nm):Prop where
 inv:∀n,σ (σ n)=n
 tyd:∀n,(σ n).tyd=n.tyd
theorem NmR.inj{σ:Nm->Nm}(h:NmR σ){n n':Nm}(e:σ n=σ n'):n=n':=by rw[<- h.inv n,<- h.inv n',e]
def Pl.rn(σ:Nm->Nm)(p:Pl):Pl:=⟨σ p.root,p.off,p.path⟩
def T.rn(σ:Nm->Nm):T->T
 |.pl p=>.pl (p.rn σ)
 |.rf p=>.rf (p.rn σ)
 |t=>t
def AV1.rn(σ:Nm->Nm):AV1->AV1
 |.c t=>.c (t.rn σ)
 |.agg ts=>.agg (ts.map (T.rn σ))
def AV.rn(σ:Nm->Nm):AV->AV
 |.one x=>.one (x.rn σ)
 |.tup xs=>.tup (xs.map (AV1.rn σ))
 |.any=>.any
def Root.rn(σ:Nm->Nm)(r:Root):Root:=⟨r.blk,r.cells.map (T.rn σ)⟩
def rnM(σ:Nm->Nm)(m:Mm):Mm:=m.map fun x=>(σ x.1,x.2.rn σ)
def S.rn(σ:Nm->Nm)(s:S):S:=⟨s.t.map fun x=>(x.1,x.2.rn σ),rnM σ s.m⟩
def Tt.rn(σ:Nm->Nm):Tt->Tt
 |.pl p=>.pl (p.rn σ)
 |.rf p=>.rf (p.rn σ)
 |t=>t
def A1.rn(σ:Nm->Nm):A1->A1
 |.c t=>.c (t.rn σ)
 |.agg ts=>.agg (ts.map (Tt.rn σ))
def At.rn(σ:Nm->Nm):At->At
 |.one x=>.one (x.rn σ)
 |.tup xs=>.tup (xs.map (A1.rn σ))
 |.any=>.any
def Rt.rn(σ:Nm->Nm)(r:Rt):Rt:=⟨r.blk,r.cells.map (Tt.rn σ),r.hole⟩
def St.rn(σ:Nm->Nm)(s:St):St:=⟨s.nx,s.t.map fun x=>(x.1,x.2.1,x.2.2.rn σ),s.m.map fun x=>(σ x.1,x.2.1,x.2.2.rn σ)⟩
variable{y:Value}
section
variable {σ:Nm->Nm}
theorem Tt.rn_toT:∀t:Tt,(t.rn σ).toT=t.toT.rn σ
 |.d _=>rfl
 |.nil=>rfl
 |.ow _ _ _=>rfl
 |.mp _ _ _=>rfl
 |.it _ _ _ _=>rfl
 |.mo _ _ _ _=>rfl
 |.el _ _=>rfl
 |.ga _ _ _=>rfl
 |.pl _=>rfl
 |.rf _=>rfl
 |.any=>rfl
theorem Ui(ts:List Tt):(ts.map (Tt.rn σ)).map Tt.toT=(ts.map Tt.toT).map (T.rn σ):=by
 grind [agJ,Tt.rn_toT]
theorem A1.rn_toV:∀x:A1,(x.rn σ).toV=x.toV.rn σ
 |.c t=>congrArg AV1.c t.rn_toT
 |.agg ts=>congrArg AV1.agg (Ui ts)
theorem At.rn_toV:∀x:At,(x.rn σ).toV=x.toV.rn σ
 |.one x=>congrArg AV.one x.rn_toV
 |.tup xs=>congrArg AV.tup (by
  grind [agJ,A1.rn_toV])
 |.any=>rfl
theorem VG(ts:List T)(h:Option (Nat×Step×List Step)):holed (ts.map (T.rn σ)) h=(holed ts h).map (T.rn σ):=by
 cases h with
 |none=>rfl
 |some x=>
  obtain⟨off,st,q⟩:=x;simp only[holed,af5];cases ts[off]? with
  |none=>rfl
  |some t=>
   cases t<;>grind [T.rn,agR]
theorem Rt.rn_toR(r:Rt):(r.rn σ).toR=r.toR.rn σ:=by
 grind [Rt.toR,Rt.rn,Root.rn,Ui,VG]
theorem St.rn_toS(s:St):(s.rn σ).toS=s.toS.rn σ:=by
 simp_all[St.toS,St.rn,S.rn,rnM,At.rn_toV,Rt.rn_toR]
theorem YR(t:List (Nat×AV))(i:Nat):aY (t.map fun x=>(x.1,x.2.rn σ)) i=(aY t i).rn σ:=by
 induction t with
 |nil=>rfl
 |cons x r ih=>
  grind [aY]
theorem Yy{cells:List T}{o:Nat}{sub:List Sh}{l:List (List D)}:(cells.map (T.rn σ))[o]? = some (.ow sub l) ↔ cells[o]? = some (.ow sub l):=by
 rw[af5];cases cells[o]? with
 |none=>simp
 |some t=>cases t<;>simp[T.rn]
variable (hσ:NmR σ)
include hσ
theorem O3(m:Mm)(n:Nm):ae (rnM σ m) (σ n)=(ae m n).map (Root.rn σ):=by
 induction m with
 |nil=>rfl
 |cons x r ih=>
  obtain⟨k,v⟩:=x;simp only[rnM,af3,ae];by_cases hk:k=n
  ·grind
  ·rw[if_neg hk,if_neg (fun e=>hk (hσ.inj e))];exact ih
theorem Zm{m:Mm}{p:Pl}(h:bZ m p):bZ (rnM σ m) (p.rn σ):=by
 grind [bZ,Pl.rn,O3,Root.rn,Yy]
theorem Zn{m:Mm}{p:Pl}(h:ip m p):ip (rnM σ m) (p.rn σ):=by
 grind [ip,Pl.rn,O3,Root.rn,T.rn]
variable {w:World} {H:FH} {γ:Gam} {m:Mm} {F:Nm->Fp}
abbrev rnG(σ:Nm->Nm)(γ:Gam):Gam:=fun n=>γ (σ n)
theorem ac7(p:Pl):plA w (rnG σ γ) (p.rn σ)=plA w γ p:=by
 simp_all[plA,Pl.rn,rnG,NmR.inv]
theorem ac8(p:Pl):plV w (rnG σ γ) (p.rn σ)=plV w γ p:=by
 simp_all[plV,Pl.rn,rnG,NmR.inv]
theorem Uh{t:T}{f:Fp}(h:TR w H γ m t f y):TR w H (rnG σ γ) (rnM σ m) (t.rn σ) f y:=by
 cases t with
 |pl p=>
  obtain⟨h1,h2,a,h3,h4⟩:=h;exact⟨h1,Zm hσ h2,a,(ac7 hσ p).trans h3,h4⟩
 |rf p=>
  obtain⟨h1,h2,h3⟩:=h;exact⟨h1,Zn hσ h2,(ac8 hσ p).trans h3⟩
 |_=>exact h
theorem aaI{ts:List T}{f:Fp}{vs:List Value}(h:Ts (TR w H γ m) ts f vs):Ts (TR w H (rnG σ γ) (rnM σ m)) (ts.map (T.rn σ)) f vs:=by
 unfold Ts at h⊢;rw[af7];have key:∀(a:List Unit)(xs:List T)(f:Fp)(vs:List Value),Cs (fun _ t=>TR w H γ m t) a xs f vs->Cs (fun _ t=>TR w H (rnG σ γ) (rnM σ m) t) a (xs.map (T.rn σ)) f vs:=by
  intro a xs;induction xs generalizing a with
  |nil=>intro f vs h;cases a<;>exact h
  |cons x xs ih=>
   intro f vs h;cases a with
   |nil=>exact h.elim
   |cons u a=>
    obtain⟨v,r,f1,b,hv,hf,k1,k2⟩:=h;exact⟨v,r,f1,b,hv,hf,Uh hσ k1,ih a b r k2⟩
 grind
theorem Ue{n:Nm}{r:Root}{f:Fp}(h:bU w H γ m n r f):bU w H (rnG σ γ) (rnM σ m) (σ n) (r.rn σ) f:=by
 unfold bU at h⊢;by_cases hb:r.blk=true
 ·rw[if_pos hb]at h;rw[if_pos (show(r.rn σ).blk=true from hb)];obtain⟨b,cs,ty,fz,g,h1,h2,h3,h4,h5,h6⟩:=h;exact⟨b,cs,ty,fz,g,by rw[rnG,hσ.inv];exact h1,h2,⟨h3.1,fun t a=>h3.2 t (by grind [NmR.tyd])⟩,by grind [Root.rn],aaI hσ h5,h6⟩
 ·rw[if_neg hb]at h;rw[if_neg (show ¬ (r.rn σ).blk=true from hb)];obtain⟨v,t,h1,h2,h3⟩:=h
  simp_all[rnG,NmR.inv,Root.rn,Uh]
theorem Fy(m:Mm):tot (fun n=>F (σ n)) (rnM σ m)=tot F m:=by
 funext b
 induction m with
 |nil=>rfl
 |cons x r ih=>
  simp_all[rnM,tot,NmR.inv]
theorem abE(h:Mem w H γ m F):Mem w H (rnG σ γ) (rnM σ m) (fun n=>F (σ n)):=by
 refine⟨h.agree,fun x hx=>?_,?_,fun b=>by rw[Fy hσ];exact h.le1 b,fun b hb=>h.lt b (by simp_all[Fy]),fun b hb=>h.nofz b (by simp_all[Fy])⟩
 ·simp only[rnM,agL]at hx;obtain⟨y,hy,rfl⟩:=hx
  simp_all[NmR.inv,Ue,Mem.roots]
 ·have:(rnM σ m).map (·.1)=(m.map (·.1)).map σ:=by simp_all[rnM]
  rw[this,List.nodup_iff_pairwise_ne,List.pairwise_map];exact(List.nodup_iff_pairwise_ne.1 h.keys).imp (fun a e=>a (hσ.inj e))
theorem S8{x:AV1}(h:AR1 w H γ m x y):AR1 w H (rnG σ γ) (rnM σ m) (x.rn σ) y:=by
 cases x with
 |c t=>exact Uh hσ h
 |agg ts=>
  obtain⟨cs,h1,h2,h3⟩:=h;exact⟨cs,h1,by grind,aaI hσ h3⟩
theorem Tc:∀{xs:List AV1}{ys:List Value},ARs w H γ m xs ys->ARs w H (rnG σ γ) (rnM σ m) (xs.map (AV1.rn σ)) ys
 |[],[],_=>trivial
 |_::_,_::_,h=>⟨S8 hσ h.1,Tc h.2⟩
 |[],_::_,h=>h.elim
 |_::_,[],h=>h.elim
theorem Z6{x:AV}(h:AR w H γ m x y):AR w H (rnG σ γ) (rnM σ m) (x.rn σ) y:=by
 cases x with
 |one x=>exact S8 hσ h
 |tup xs=>obtain⟨l,h1,h2⟩:=h;exact⟨l,h1,Tc hσ h2⟩
 |any=>trivial
theorem OF{g:G}{s:St}{a a':Act}{ds:List Deferred}{out:Nat->Option Nat}(h:RX g s.toS a w H γ F)(h1:a'.tmps=a.tmps)(h2:a'.defers=ds)(ho:∀j b,out j=some b->γ (σ (.out j))=.blk b) :
  RX ⟨g.nt,g.w0,g.H0,g.own0,out,g.ex,ds⟩ (s.rn σ).toS a' w H (rnG σ γ) (fun n=>F (σ n)):=by
 rw[St.rn_toS];refine⟨abE hσ h.mem,?_,by grind [RX.nt],⟨h2,fun j b hb=>ho j b hb,h.df.2.2⟩,fun i=>?_⟩
 ·show Fr g.w0 g.H0 g.own0 w H (tot (fun n=>F (σ n)) (rnM σ s.toS.m))
  rw[Fy hσ];exact h.fr
 ·show AR w H (rnG σ γ) (rnM σ s.toS.m) (aY (s.toS.t.map fun x=>(x.1,x.2.rn σ)) i) _
  rw[YR];have e:G.tv ⟨g.nt,g.w0,g.H0,g.own0,out,g.ex,ds⟩ a' i=g.tv a i:=by
   grind [G.tv]
  rw[e];exact Z6 hσ (h.t i)
end
def xH(i:Nat):Nat:=i % 1000000 / 1000
def KE(k i:Nat):Nat:=match Nat.beq (xH i) 0 with
 |true=>i+k*1000
 |false=>match Nat.beq (xH i) k with
  |true=>i-k*1000
  |false=>i
def SX(k:Nat):Nm->Nm
 |.loc i=>.loc (KE k i)
 |.gh i=>.gh (KE k i)
 |.out i=>.out i
theorem Bn{k:Nat}(hk:1<=k/\k < 1000)(i:Nat):KE k (KE k i)=i/\KE k i / 1000000=i / 1000000:=by
 unfold KE;cases h0:Nat.beq (xH i) 0 with
 |true=>
  have h:=af8 h0
  unfold xH at h;dsimp only;have h1:xH (i+k*1000)=k:=by grind [xH]
  grind [af8,Nat.beq_refl]
 |false=>
  dsimp only;cases a:Nat.beq (xH i) k with
  |true=>
   have h:=af8 a
   unfold xH at h;dsimp only;have h1:xH (i-k*1000)=0:=by grind [xH]
   grind [Nat.beq_refl]
  |false=>
   grind
theorem PG{k:Nat}(hk:1<=k/\k < 1000):NmR (SX k):=by
 refine⟨fun n=>?_,fun n=>?_⟩
 ·cases n with
  |loc i=>exact congrArg Nm.loc (Bn hk i).1
  |gh i=>exact congrArg Nm.gh (Bn hk i).1
  |out i=>rfl
 ·cases n with
  |loc i=>
   show(if KE k i < 1000000 then none else some (KE k i / 1000000))=(if i < 1000000 then none else some (i / 1000000))
   grind [Bn]
  |gh i=>rfl
  |out i=>rfl
def aeY(k:Nat)(n:Nm):Bool:=match n with
 |.loc i=>Nat.beq (xH i) k
 |.gh i=>Nat.beq (xH i) k
 |.out _=>false
def aaQ:Nat->Nat->List (Nm×Nat×Rt)->Nat
 |0,k,_=>k
 |n+1,k,m=>match m.any (fun x=>aeY k x.1)with
  |true=>aaQ n (k+1) m
  |false=>k
def apK(s:St):Option Nat:=match aaQ 900 1 s.m with
 |k=>match Nat.ble 1 k&&Nat.blt k 1000 with
  |true=>some k
  |false=>none
def apT(C:CKt):CKt:=fun pk s ops k=>match apK s with
 |some j=>C (fun v s'=>pk v (s'.rn (SX j))) (s.rn (SX j)) ops (fun s' v=>k (s'.rn (SX j)) (v.rn (SX j)))
 |none=>False
theorem Pl.rn_rn{σ:Nm->Nm}(hσ:NmR σ)(p:Pl):(p.rn σ).rn σ=p:=by simp[Pl.rn,hσ.inv]
theorem Tt.rn_rn{σ:Nm->Nm}(hσ:NmR σ)(t:Tt):(t.rn σ).rn σ=t:=by cases t<;>simp[Tt.rn,Pl.rn_rn hσ]
theorem A1.rn_rn{σ:Nm->Nm}(hσ:NmR σ)(x:A1):(x.rn σ).rn σ=x:=by
 cases x with
 |c t=>simp[A1.rn,Tt.rn_rn hσ]
 |agg ts=>simp[A1.rn,Function.comp_def,Tt.rn_rn hσ]
theorem At.rn_rn{σ:Nm->Nm}(hσ:NmR σ)(x:At):(x.rn σ).rn σ=x:=by
 cases x with
 |one t=>simp[At.rn,A1.rn_rn hσ]
 |tup ts=>simp[At.rn,Function.comp_def,A1.rn_rn hσ]
 |any=>rfl
theorem Rt.rn_rn{σ:Nm->Nm}(hσ:NmR σ)(r:Rt):(r.rn σ).rn σ=r:=by
 simp_all[Rt.rn,Function.comp_def,Tt.rn_rn]
theorem Jv{σ:Nm->Nm}(t:List (Nat×Nat×At))(k:Nat):cw (t.map fun x=>(x.1,x.2.1,x.2.2.rn σ)) k=(cw t k).map fun x=>(x.1,x.2.rn σ):=by
 induction t<;>grind [cw]
theorem Jt{σ:Nm->Nm}(hσ:NmR σ)(m:List (Nm×Nat×Rt))(n:Nm):cU (m.map fun x=>(σ x.1,x.2.1,x.2.2.rn σ)) (σ n)=(cU m n).map fun x=>(x.1,x.2.rn σ):=by
 induction m with
 |nil=>rfl
 |cons x r ih=>
  obtain⟨i,j,v⟩:=x;simp only[af3,cU];by_cases h:i=n
  ·grind
  ·rw[if_neg (fun e=>h (hσ.inj e)),if_neg h];exact ih
theorem Ext.rn{σ:Nm->Nm}(hσ:NmR σ){s s':St}(h:Ext (s.rn σ) s'):Ext s (s'.rn σ):=by
 refine⟨h.nx,fun k j v hk hj=>?_,fun n j r hn hj=>?_⟩
 ·rw[show(s'.rn σ).t=s'.t.map fun x=>(x.1,x.2.1,x.2.2.rn σ)from rfl,Jv]at hk;cases h1:cw s'.t k with
  |none=>grind
  |some x=>
   rw[h1]at hk;obtain⟨j',v'⟩:=x;simp only[Option.map_some,af0,Prod.mk.injEq]at hk;obtain⟨rfl,rfl⟩:=hk;have h2:=h.t k j' v' h1 hj
   rw[show(s.rn σ).t=s.t.map fun x=>(x.1,x.2.1,x.2.2.rn σ)from rfl,Jv]at h2;cases h3:cw s.t k<;>grind [At.rn_rn]
 ·rw[<- hσ.inv n,show(s'.rn σ).m=s'.m.map fun x=>(σ x.1,x.2.1,x.2.2.rn σ)from rfl,Jt hσ]at hn;cases h1:cU s'.m (σ n)with
  |none=>grind
  |some x=>
   rw[h1]at hn;obtain⟨j',v'⟩:=x;simp only[Option.map_some,af0,Prod.mk.injEq]at hn;obtain⟨rfl,rfl⟩:=hn;have h2:=h.m (σ n) j' v' h1 hj
   rw[show(s.rn σ).m=s.m.map fun x=>(σ x.1,x.2.1,x.2.2.rn σ)from rfl,Jt hσ]at h2;cases h3:cU s.m n<;>grind [Rt.rn_rn]
theorem Up{s:St}(h:apK s=some j):1<=j/\j < 1000:=by
 unfold apK at h;dsimp only at h;split at h
 all_goals simp_all
theorem XH{P:Program}{C:CKt}(h:Cont P f C):Cont P f (apT C):=by
 refine⟨h.run,fun pk s ops k k' hk hc=>?_,fun g pk s a w H γ F ops k hX c hc=>?_⟩
 ·unfold apT at hc⊢;split at hc
  ·rename_i j hj;have hσ:=PG (Up hj)
   exact h.ext _ _ _ _ _ (fun s' v he=>hk _ _ (he.rn hσ)) hc
  omega
 ·unfold apT at hc;split at hc
  ·rename_i j hj;have hσ:=PG (Up hj)
   have d:=OF hσ (out:=g.out) (ds:=g.dfs) hX rfl hX.df.1 (fun i b hb=>hX.df.2.1 i b hb)
   refine(h.call _ _ _ a w H _ _ ops _ d c hc).mono ?_;rintro e w' (⟨r,s',av,H',γ',F',rfl,k1,k2,k3⟩|⟨v,s',rfl,k1,H',γ',F',k2⟩)
   ·refine .inl ⟨r,_,_,H',_,_,rfl,k1,?_,OF hσ (out:=g.out) (ds:=g.dfs) k3 rfl k3.df.1 (fun i b hb=>k3.df.2.1 i b hb)⟩;rw[At.rn_toV];show AR w' H' _ (s'.rn (SX j)).toS.m _ _
    rw[St.rn_toS];exact Z6 hσ k2
   ·exact .inr ⟨v,_,rfl,k1,H',_,_,OF hσ (out:=g.out) (ds:=g.dfs) k2 rfl k2.df.1 (fun i b hb=>k2.df.2.1 i b hb)⟩
  grind
end Go.Am
end

section
namespace Go.Am
open Go Go.Proofs
def lky:U->Bool
 |.i _=>true
 |.bo=>true
 |.s=>true
 |_=>false
theorem Wb{u:U}(h:lky u=true):leaf u=true:=by cases u<;>first|rfl|cases h
theorem Zf{u:U}(h:lky u=true)(x:El u):(am u x).toD.isKey=true:=by cases u<;>first|rfl|cases h
def Zi(n:Nm):CKt:=fun _ s ops k=>match ops with
 |[x]=>
  let s0:=gL s (evA s x)
  let s1:=s0.fresh n
  match evA s1 x with
  |.one (.c (.d (.mp ku vu z)))=>match lky ku&&leaf vu with
   |true=>z.isSome=true/\k (s1.root n ⟨false,[.mp ku vu (z.getD [])],none⟩) (.one (.c (.rf ⟨n,0,[]⟩)))
   |false=>False
  |_=>False
 |_=>False
section
variable {P:Program}
theorem Tj{f:Nat}{fn:Func}{n:Nm}(hno:n.isOut=false)(hf:P.funcs[f]? = some fn) (c:(fn.name == "runtime.NumGoroutine")=false) (hb:fn.body.isSome=true)
  (d:∀(b:Nat)(es:Array MapEntry)(ck:Nat)(w:World),w.heap[b]? = some (.map es ck)->Calls P f #[.map (some b)] w fun e w'=>e=.returned (.map (some w.heap.size))/\w'=w.alloc (.map es ck)):Cont P f (Zi n):=by
 refine⟨fun args w=>gf hf c hb args w,fun pk s ops k k' hk hc=>?_,fun g pk s a w H γ F1 ops k hX q hc=>?_⟩
 ·unfold Zi at hc⊢;split at hc
  ·dsimp only at hc⊢;split at hc
   ·split at hc
    ·exact⟨hc.1,hk _ _ ((iy _ _).trans ((bT _ _).trans (dh _ _ _))) hc.2⟩
    omega
   omega
  omega
 ·unfold Zi at hc;split at hc
  ·rename_i o;dsimp only at hc;have ho:aG o=true:=by grind
   obtain⟨H1,p,h1⟩:=gE hX (evA s o);generalize gL s (evA s o)=s0 at hc h1;have h2:=cR h1 n
   have hn:=cv h1 n
   have u:(s0.fresh n).toS=s0.toS.fresh n:=bw (gD h1)
   rw[<- u]at h2 hn;generalize s0.fresh n=s1 at hc h2 hn;have hv:=aJ h2 ho
   rw[af ho]at hv;split at hc
   ·rename_i ku vu z he;rw[he]at hv;split at hc
    ·rename_i i;rw[afZ]at i;obtain⟨hz,hc⟩:=hc;obtain⟨l,rfl⟩:∃l,z=some l:=by cases z<;>grind
     have hd:FDx H1 (.mp (some (l.map fun x=>((ap ku x.1).headD .any,(ap vu x.2).headD .any)))) (a.eval o):=hv.2
     have el:(l.map fun x=>((ap ku x.1).headD .any,(ap vu x.2).headD .any))=l.map fun x=>((am ku x.1).toD,(am vu x.2).toD):=agJ fun x _=>by grind [o4,Wb]
     rw[el]at hd;obtain⟨b,es,ck,B,c2,c3,c4⟩:=Tr h2.mem.agree (fun e he=>by
      grind [Zf]) hd
     rw[ag6]at c4;have c4:MpO w H1 (l.map (vE ku vu)) es.toList (fun _=>0):=c4
     rw[show(([o].map a.eval).toArray:Array Value)=#[.map (some b)]by grind];refine Calls.mono (d b es ck w c2) ?_;rintro e w' ⟨rfl,rfl⟩
     have hold:∀k,k<w.heap.size->(w.alloc (.map es ck)).heap[k]? = w.heap[k]? := fun k hk=>cP hk
     have h3:=oN h2 (w':=w.alloc (.map es ck)) (by simp) rfl rfl rfl (fun b hb=>.inl (hold b hb))
     have A:tot p s1.toS.m w.heap.size=0:=by
      rcases agY (tot p s1.toS.m w.heap.size)with h'|h'
      ·exact h'
      ·have:=h2.mem.lt w.heap.size kQ1;omega
     obtain⟨γ',F',h4,j⟩:=dL h3 hno hn (v:=.map (some w.heap.size)) (t:=.mp (l.map (vE ku vu))) (f:=fun b=>if b=w.heap.size then 1 else 0) ⟨w.heap.size,es,ck,fun _=>0,rfl,bu,c3,jR (fun _ _ _ h=>h) (fun b hb=>absurd rfl hb) c4,fun _=>(ahY _).symm⟩ (fun b=>by
       by_cases e:b=w.heap.size
       ·grind
       ·rw[if_neg e];have:=h2.mem.le1 b;omega) (fun b hb=>by
       have e:b=w.heap.size:=by
        grind
       subst e;refine⟨by simp,fun o=>?_⟩;cases hc:H1 w.heap.size o with
       |none=>rfl
       |some y=>have:=(h2.mem.agree _ _ _ hc).lt;omega) (fun b hb=>by
       right
       have e:b=w.heap.size:=by
        grind
       have:=h2.fr.size
       omega)
     have r:(s1.root n ⟨false,[.mp ku vu l],none⟩).toS=⟨s1.toS.t,(n,⟨false,[.mp (l.map (vE ku vu))]⟩)::s1.toS.m⟩:=rfl
     rw[<- r]at h4;refine .inl ⟨_,_,_,H1,γ',F',rfl,hc,?_,h4⟩;exact uY (l:=l.map (vE ku vu)) (by show ae ((n,(⟨false,[.mp (l.map (vE ku vu))]⟩:Root))::s1.toS.m) n=_;simp[ae]) j
    grind
   grind
  grind
end
end Go.Am
end

section
namespace Go.Am
open Go Go.RowKit Go.Maps Go.Sort Go.Shelf Go.Proofs
theorem zq:Cont prog 103 (Zi (.gh 800000)):=Tj rfl func103 (by rfl) (by rfl) (fun b es ck w hb=>AnyW.maps_Clone Tryz.clone106 b es ck w hb)
set_option maxHeartbeats 1000000 in
theorem MX{H:Type}(b j:Nat)(i:DataW H)(R:Value->Option (DataW H×List MemPlace))(w:World)(d:w.ownsMap prog 9 R b j i)(h:Maps.size i<=maxLen)(a:Maps.size i*16<=140737488355328) :
  Calls prog 166 #[.map (some b)] w fun e w'=>∃(v:Value)(c:List (List UInt8)),e=.returned v/\c.Perm (strKeys i) /\
   w'.ownsRow w.heap.size 9 1 v c.length ((c.mergeSort (fun x y=>decide (x<=y))).map encStr)/\(v=.slice none 0 0 ↔ c=[])/\Below w.heap.size w w':=by
 refine(callsIn_wide (n:=6)).1 ?_;have l:Fence.wide.fn 200:=trivial
 have k:Fence.wide.fn 72:=trivial
 refine callsIn_of_wp func166 rfl trivial ?_ rfl;simp only[Tryz.ntmps166,List.size_toArray,af4,agB,Nat.reduceAdd,Nat.reduceSub,Array.replicate_succ,Array.replicate_zero,List.push_toArray,List.append_toArray,agZ,ahS]
 gi_wp2_with (first
  |(gi_at_call 200;refine(Tryz.maps_Keys_210 _ _).mono ?_;rintro e w' ⟨rfl,rfl⟩)
  |(gi_at_call 72;refine(Tryz.slices_Sorted_keys_209_210 b j i R w d h a).mono ?_;rintro e w' ⟨v,c,rfl,m,g,f,hb⟩))
 go_ret
 exact⟨v,c,rfl,m,ownsRow_base_a g (by simp),f,((Below.refl _ w).alloc (af2 _) _).trans (hb.mono (by simp))⟩
def X1:Value->Option (DataW Unit×List MemPlace):=fun _=>some (.lit (.bool true),[])
theorem Zr{b ck:Nat}{es:Array MapEntry}{w:World}(hb:w.heap[b]? = some (.map es ck))(d:MapKept.Stamped es ck)(f:es.size<=1000000)(hk:∀e∈es.toList,∃l:List UInt8,e.key=.string ⟨l.toArray⟩/\l.length<=BIG) :
  ∃c:DataW Unit,w.ownsMap prog 9 X1 b es.size c/\(∀v,v∈strKeys c ↔ ∃e∈es.toList,e.key=.string ⟨v.toArray⟩)/\Maps.size c=es.size:=by
 have a:∀e∈es.toList,∀l:List UInt8,e.key=.string ⟨l.toArray⟩->l.length<=BIG->WideElems.rd prog 9 X1 e=some (.string l,.lit (.bool true)):=fun e he l h1 h2=>by
  unfold WideElems.rd;rw[h1,WideMaps.keyOf_string_mk underlying9 (by show l.toArray.size<=_;grind [BIG,maxLen])];rfl
 have hp:=WideShapes.sorted_perm (es.toList.map (WideElems.rg prog 9 X1))
 refine⟨_,⟨es,ck,hb,⟨by grind [maxLen],d,fun e he=>?_⟩,af2 _,rfl⟩,fun v=>?_,?_⟩
 ·grind
 ·show v∈List.map _ _ ↔ _
  rw[(hp.map _).mem_iff];simp only[agL];constructor
  ·rintro⟨_,⟨e,he,rfl⟩,rfl⟩
   obtain⟨l,h1,h2⟩:=hk e he;refine⟨e,he,?_⟩;unfold WideElems.rg;rw[a e he l h1 h2,h1];rfl
  ·rintro⟨e,he,h1⟩
   obtain⟨l,h3,h2⟩:=hk e he;refine⟨_,⟨e,he,rfl⟩,?_⟩;unfold WideElems.rg;rw[a e he l h3 h2];rw[h3]at h1;have:l=v:=by grind
   rw[<- this];rfl
 grind [Maps.size,List.Perm.length_eq,af7]
def K2:CKt:=aa4 [.mp .s .bo] [.sl .s] (fun x=>kD x) (fun x y=>iN x y)
theorem LN:Cont prog 166 K2:=wG (gf (fn:=f166) kQ0 (by rfl) (by rfl)) (fun x args w H γ A hl O V d=>by
 obtain⟨hs,hn⟩:=A;obtain⟨L,rfl⟩:∃L:List (List UInt8×Bool),x=some L:=by cases x<;>grind
 have hn:L.length<=1000000:=hn
 obtain⟨u,rfl⟩:∃u,args=[u]:=List.length_eq_one_iff.1 hl
 obtain⟨u',h0,h1⟩:=O 0 _ rfl;obtain rfl:u=u':=by grind
 have f:FDx H (.mp (some (L.map fun x=>(.str x.1,.bool x.2)))) u:=h1.2
 obtain⟨m,f⟩:=f;cases m with
 |zero=>exact f.elim
 |succ m=>
  obtain⟨b,es,ck,rfl,k1,k2,k3⟩:=f;obtain⟨k4,k5⟩:=d b 0 _ k1;rw[af7]at k2;have C:∀(i:Nat)(e:MapEntry),es.toList[i]? = some e->∃z,L[i]? = some z/\e.key=.string ⟨z.1.toArray⟩/\z.1.length<=BIG:=fun i e he=>by
   have hi:i<L.length:=by grind
   have hz:=af1 hi
   have:=(k3 i (.str L[i].1,.bool L[i].2) e (by grind) he).1
   have this:e.key=.string ⟨L[i].1.toArray⟩/\L[i].1.length<=BIG:=by cases m<;>exact this
   grind
  obtain⟨E,B,t,J⟩:=Zr k4 k5 (by grind) (fun e he=>by
   grind [List.mem_iff_getElem?])
  have T:es.size<=1000000:=by grind
  have k:∀v,v∈strKeys E ↔ v∈L.map (·.1):=fun v=>by
   rw[t];constructor
   ·grind [List.mem_iff_getElem?]
   ·intro h;obtain⟨z,hz,rfl⟩:=agL.1 h;obtain⟨i,hi⟩:=List.mem_iff_getElem?.1 hz;have K:i<es.toList.length:=by grind
    obtain⟨U,S,h2,_⟩:=C i _ (af1 K)
    grind
  have r:∀v∈L.map (·.1),v.length<=BIG:=fun v hv=>by
   grind [List.mem_iff_getElem?]
  refine(MX b es.size E X1 w B (by grind [maxLen]) kQ1).mono ?_;rintro e w' ⟨v,F,rfl,N,a,M,hb⟩
  have D:=N.length_eq
  have n:=List.mergeSort_perm F fun x y=>decide (x<=y)
  have g:=n.length_eq
  generalize F.mergeSort (fun x y=>decide (x<=y))=Q at a n g;have I:∀v,v∈Q ↔ v∈L.map (·.1):=fun v=>(n.mem_iff.trans N.mem_iff).trans (k v)
  have R:Q.length<=1000000:=by
   rw[g,D];have:(strKeys E).length=Maps.size E:=by
    unfold strKeys Maps.size
    grind
   omega
  obtain⟨_,a⟩:=a;rcases a with⟨rfl,hz⟩|⟨gb,cap,cur,rfl,r0,r1,r2,r3,r4,r5⟩
  ·obtain rfl:Q=[]:=ag9 kQ1;refine⟨_,H,[],rfl,I,hb,fun _ _ _ h=>h,fun b o h1 h2=>absurd h2 h1,fun b o x l c h1 h2=>by grind,fun b o y h=>(d b o y h).frame (hb.block b (d b o y h).lt),fun _=>rfl,1,?_⟩;show FD _ 1 (.li []) _
   grind [j8]
  ·have P:∀o,H gb o=none:=fun o=>by
    cases hc:H gb o with
    |none=>rfl
    |some y=>have:=(d _ _ _ hc).lt;omega
   rw[Nat.mul_one]at r4 r5;have p:∀o(ho:o<Q.length),cur[o]? = some (encStr Q[o]):=fun o ho=>by
    have h9:(cur.toList.take F.length)[o]? = some (encStr Q[o]):=by grind
    grind
   refine⟨_,fun b o=>if b=gb then(Q.map encStr)[o]?.map HV.c else H b o,Q,rfl,I,hb,fun b o y h=>?_,fun b o h1 h2=>?_,fun b o x l c h1 h2=>?_,fun b o y h=>?_,fun _=>rfl,1,?_⟩
   ·grind
   ·grind
   ·grind
   ·dsimp only at h;split at h
    ·rename_i G;subst G;obtain⟨z,hz,rfl⟩:=agG.1 h;rw[af5]at hz;obtain⟨q,hq,rfl⟩:=agG.1 hz;have ho:=(ahB.1 hq).1
     have hc:=p o ho
     rw[(ahB.1 hq).2]at hc;show World.cell? _ _=some _
     grind [World.cell?]
    ·exact(d b o y h).frame (hb.block b (d b o y h).lt)
   ·show FD _ 1 (.li (Q.map (ap .s))) _
    rw[j8];unfold BIG;refine⟨_,_,by rw[af7,g],by grind,by grind,.inr ⟨gb,0,1,rfl,fun i hi=>?_⟩⟩;have hi:i<Q.length:=by grind
    have e:(Q.map (ap .s)).getD i []=[.str Q[i]]:=by
     rw[List.getD,af5,af1 hi];rfl
    rw[e];refine⟨rfl,fun j hj=>?_⟩;have hj:j=0:=by omega
    subst hj;refine⟨encStr Q[i],?_,?_⟩
    ·grind
    ·exact⟨rfl,r _ ((I _).1 (ah1 hi))⟩)
end Go.Am
end

section
namespace Lt
open Go
def PD(n:Int):Int:=i64.wrap n
def DI(n:Int)(c:UInt8):Int:=IntKind.u64.wrap ((IntKind.u64.wrap ((IntKind.u64.wrap (n*10))+(IntKind.u64.wrap ((c.toNat:Nat):Int)))) - 48)
def W5(s:List UInt8):Int:=if s.getD 0 0=45 then((s.take 30).drop 1).foldl DI 0 else(s.take 30).foldl DI 0
def PE(s:List UInt8):Int:=PD (if s.getD 0 0=45 then IntKind.u64.wrap (0-W5 s)else W5 s)
def bq(s:List UInt8):Int×Bool:=if B5 (PE s)=s then(PE s,true)else(0,false)
def Kn(u:Int)(c:UInt8):Int:=
 IntKind.u64.wrap ((IntKind.u64.wrap (u*16))+(Int.tmod (if 97<=(IntKind.u64.wrap ((c.toNat:Nat):Int))then IntKind.u64.wrap ((IntKind.u64.wrap ((c.toNat:Nat):Int)) - 87)else IntKind.u64.wrap ((IntKind.u64.wrap ((c.toNat:Nat):Int)) - 48)) 16))
def Ko(s:List UInt8):Int:=i64.wrap (((s.drop 2).take 16).foldl Kn 0)
def jm(s:List UInt8):Int×Bool:=if s.length=18/\oG (Ko s)=s then(Ko s,true)else(0,false)
def nY(s:List UInt8)(a:Arg):Bool:=Fe a&&decide (gN a=s)
def cX(s:List UInt8):Arg×Bool:=
 if nY s ⟨1,s,0⟩then(⟨1,s,0⟩,true)
 else if nY s ⟨2,[],(bq s).1⟩then(⟨2,[],(bq s).1⟩,true)
 else if nY s ⟨3,[],(jm s).1⟩then(⟨3,[],(jm s).1⟩,true)
 else if nY s ⟨4,[],0⟩then(⟨4,[],0⟩,true)
 else if nY s ⟨5,[],(bq (s.drop 1)).1⟩then(⟨5,[],(bq (s.drop 1)).1⟩,true)
 else(⟨0,[],0⟩,false)
def pH(w:List UInt8):Bool:=decide (w=[105,110,116])||(decide (w=[102,108,111,97,116])||cj w)
def ij(l:List (List UInt8)):Bool:=decide (l.length=3)&&(cj (l.getD 1 [])&&pH (l.getD 2 []))
def Ny(w:List UInt8):List (List UInt8)->Int->Int×Bool
 |[],_=>(0,false)
 |x::r,n=>if x=w then(n,true)else Ny w r (n+1)
def sOp(w:List UInt8):Int×Bool:=Ny w (Go.Am.gw.drop 1) 1
def eQ(objs:Bool)(w:List UInt8):Bool:=(cX w).2&&!(decide ((cX w).1.Kind=5)&&!objs)
def dB(l:List (List UInt8))(objs:Bool):List Arg×Bool:=if l.all (eQ objs)then(l.map fun w=>(cX w).1,true)else([],false)
def cZ(objs:Bool):List (List UInt8)->Option (List Bind)
 |[]=>some []
 |[_]=>none
 |a::b::r=>if cj a&&eQ objs b then(cZ objs r).map (⟨a,(cX b).1⟩::·)else none
def bQ(l:List (List UInt8))(a:Int)(objs:Bool):List Bind×Bool:=
 if(l.length:Int)<a then([],false)else match cZ objs (l.drop a.toNat)with
 |some x=>(x,true)
 |none=>([],false)
abbrev Read.out(r:Read):Bool:=decide (r.Where<=2)||decide (r.Where=9)
abbrev Read.ins(r:Read):Bool:=decide (5<=r.Where)&&decide (r.Where<=8)
def last{α:Type}[Inhabited α](l:List α)(f:α->α):List α:=l.set (l.length - 1) (f (l.getD (l.length - 1) default))
def Read.func(r:Read)(f:Func->Func):Read:={ r with P:={ r.P with Funcs:=last r.P.Funcs f } }
def Read.block(r:Read)(f:Block->Block):Read:=r.func fun g=>{ g with Blocks:=last g.Blocks f }
def Read.instr(r:Read)(f:Instr->Instr):Read:=r.block fun b=>{ b with Code:=last b.Code f }
def Read.curF(r:Read):Func:=r.P.Funcs.getD (r.P.Funcs.length - 1) default
def Read.curB(r:Read):Block:=r.curF.Blocks.getD (r.curF.Blocks.length - 1) default
def Read.curI(r:Read):Instr:=r.curB.Code.getD (r.curB.Code.length - 1) default
def o8(f:Func)(w n:Int):Prop:=
 (Name f.Name=true/\kind f.Result=true/\typed f.Params 6=true/\typed f.Vars 1024=true)/\(f.Blocks.length<=256/\0<=n/\n<=1024) /\
 (w<=4->f.Blocks=[]/\n=0) /\
 (5<=w->∃bs b,f.Blocks=bs++[b]/\bs.all block=true/\n=((f.Blocks.map fun b=>b.Phis.length+b.Code.length).sum:Nat) /\
  (Name b.Name=true/\b.Phis.all phi=true/\b.Code.all instr=true)/\(w=9->dp b.End=true) /\
  (6<=w->w<=8->∃cs c,b.Code=cs++[c]/\(7<=w->c.Op=31\/c.Op=34)))
def Inv(r:Read):Prop:=
 (0<=r.Where/\r.Where<=9)/\(r.P.Classes.length<=8/\r.P.Externs.length<=8/\r.P.Funcs.length<=8) /\
 (typed r.P.Globals 8=true/\r.P.Classes.all bF=true/\r.P.Externs.all bW=true) /\
 (r.Where=1->r.P.Classes≠[])/\(r.Where<=2->r.P.Funcs.all ay=true) /\
 (3<=r.Where->∃fs f,r.P.Funcs=fs++[f]/\fs.all ay=true/\o8 f r.Where r.Long)
def kG(l:List (List UInt8))(_:Bool):Prop:=l.length<=room
abbrev w0(l:List (List UInt8)):List UInt8:=l.getD 0 default
abbrev w1(l:List (List UInt8)):List UInt8:=l.getD 1 default
abbrev w2(l:List (List UInt8)):List UInt8:=l.getD 2 default
abbrev w3(l:List (List UInt8)):List UInt8:=l.getD 3 default
def eh(r:Read)(l:List (List UInt8)):Int×Read:=
 if(r.out&&decide (l.length=2)&&cj (w1 l))=false then(3,r)
 else if 8<=r.P.Classes.length then(2,r)else(0,{ r with P:={ r.P with Classes:=r.P.Classes++[⟨w1 l,[]⟩] },Where:=1 })
def fO(r:Read)(l:List (List UInt8)):Int×Read:=
 if(decide (r.Where=1)&&ij l)=false then(3,r)
 else if 8<=(r.P.Classes.getD (r.P.Classes.length - 1) default).Fields.length then(2,r)else(0,{ r with P:={ r.P with Classes:=last r.P.Classes fun c=>{ c with Fields:=c.Fields++[⟨w1 l,w2 l⟩] } } })
def dK(r:Read)(l:List (List UInt8)):Int×Read:=
 if(r.out&&ij l)=false then(3,r)
 else(if 8<=r.P.Globals.length then 2 else 0,{ r with P:={ r.P with Globals:=r.P.Globals++[⟨w1 l,w2 l⟩] },Where:=2 })
def dJ(r:Read)(l:List (List UInt8)):Int×Read:=
 if(r.out&&decide (l.length=3)&&cj (w1 l)&&((bq (w2 l)).2&&decide (0<=(bq (w2 l)).1)&&decide ((bq (w2 l)).1<=8)))=false then(3,r)
 else(if 8<=r.P.Externs.length then 2 else 0,{ r with P:={ r.P with Externs:=r.P.Externs++[⟨w1 l,(bq (w2 l)).1⟩] },Where:=2 })
def fW(r:Read)(l:List (List UInt8)):Int×Read:=
 if(r.out&&ij l)=false then(3,r)
 else(if 8<=r.P.Funcs.length then 2 else 0,{ r with P:={ r.P with Funcs:=r.P.Funcs++[⟨w1 l,w2 l,[],[],[]⟩] },Where:=3,Long:=0 })
abbrev nM:List UInt8:=[99,108,97,115,115]
abbrev lH:List UInt8:=[102,105,101,108,100]
abbrev g9:List UInt8:=[103,108,111,98,97,108]
abbrev fE:List UInt8:=[101,120,116,101,114,110]
abbrev rC:List UInt8:=[102,117,110,99]
abbrev lI:List UInt8:=[112,97,114,97,109]
abbrev BK:List UInt8:=[118,97,114]
abbrev nL:List UInt8:=[98,108,111,99,107]
abbrev vQ:List UInt8:=[112,104,105]
abbrev kAt:List UInt8:=[97,116]
abbrev my:List UInt8:=[111,98,106]
abbrev lm:List UInt8:=[106,117,109,112]
abbrev dz:List UInt8:=[98,114,97,110,99,104]
abbrev rh:List UInt8:=[114,101,116]
abbrev pq:List UInt8:=[116,114,97,112]
abbrev si:List UInt8:=[115,115,97]
def bG(r:Read)(l:List (List UInt8)):(Bool×Int)×Read:=
 if w0 l=nM then((true,(eh r l).1),(eh r l).2)
 else if w0 l=lH then((true,(fO r l).1),(fO r l).2)
 else if w0 l=g9 then((true,(dK r l).1),(dK r l).2)
 else if w0 l=fE then((true,(dJ r l).1),(dJ r l).2)
 else if w0 l=rC then((true,(fW r l).1),(fW r l).2)
 else((false,0),r)
def fQ(r:Read)(l:List (List UInt8)):Int×Read:=
 if(decide (r.Where=3)&&ij l)=false then(3,r)
 else(if 6<=r.curF.Params.length then 2 else 0,r.func fun f=>{ f with Params:=f.Params++[⟨w1 l,w2 l⟩] })
def jA(r:Read)(l:List (List UInt8)):Int×Read:=
 if((decide (r.Where=3)||decide (r.Where=4))&&ij l)=false then(3,r)
 else(if 1024<=r.curF.Vars.length then 2 else 0,{ r.func (fun f=>{ f with Vars:=f.Vars++[⟨w1 l,w2 l⟩] })with Where:=4 })
def dG(r:Read)(l:List (List UInt8)):Int×Read:=
 if((decide (r.Where=3)||decide (r.Where=4)||decide (r.Where=9))&&decide (l.length=2)&&cj (w1 l))=false then(3,r)
 else(if 256<=r.curF.Blocks.length then 2 else 0,{ r.func (fun f=>{ f with Blocks:=f.Blocks++[⟨w1 l,[],[],⟨0,⟨0,[],0⟩,[],0⟩⟩] })with Where:=5 })
def lQ(r:Read)(l:List (List UInt8)):Int×Read:=
 if(decide (r.Where=5)&&(bQ l 2 false).2&&!decide ((bQ l 2 false).1.length=0)&&cj (w1 l))=false then(3,r)
 else if 256 < (bQ l 2 false).1.length\/1024<=r.Long then(2,r)
 else(0,{ r.block (fun b=>{ b with Phis:=b.Phis++[⟨w1 l,(bQ l 2 false).1.map fun x=>⟨x.Name,x.A⟩⟩] })with Long:=r.Long+1 })
def cg(r:Read)(l:List (List UInt8)):(Bool×Int)×Read:=
 if w0 l=lI then((true,(fQ r l).1),(fQ r l).2)
 else if w0 l=BK then((true,(jA r l).1),(jA r l).2)
 else if w0 l=nL then((true,(dG r l).1),(dG r l).2)
 else if w0 l=vQ then((true,(lQ r l).1),(lQ r l).2)
 else((false,0),r)
def sAt(r:Read)(l:List (List UInt8)):Int×Read:=
 if(decide (r.Where=7)&&(bQ l 4 true).2&&cj (w1 l)&&cj (w2 l)&&((bq (w3 l)).2&&decide (0<=(bq (w3 l)).1)&&decide ((bq (w3 l)).1<=1024)))=false then(3,r)
 else if 16 < (bQ l 4 true).1.length\/16<=r.curI.Frames.length then(2,r)
 else(0,r.instr fun x=>{ x with Frames:=x.Frames++[⟨w1 l,w2 l,(bq (w3 l)).1,(bQ l 4 true).1⟩] })
def lP(r:Read)(l:List (List UInt8)):Int×Read:=
 if(decide (7<=r.Where)&&decide (2<=l.length)&&decide (l.length<=10)&&cj (w1 l)&&(dB (l.drop 2) true).2)=false then(3,r)
 else(if 99<=r.curI.Objs.length then 2 else 0,{ r.instr (fun x=>{ x with Objs:=x.Objs++[⟨w1 l,(dB (l.drop 2) true).1⟩] })with Where:=8 })
def kJ(l:List (List UInt8)):Option Term:=
 if w0 l=lm then(if(decide (l.length=2)&&cj (w1 l))=true then some ⟨1,⟨0,[],0⟩,[w1 l],0⟩else none)
 else if w0 l=dz then(if(decide (l.length=4)&&(cj (w2 l)&&cj (w3 l))&&eQ false (w1 l))=true then some ⟨2,(cX (w1 l)).1,[w2 l,w3 l],0⟩else none)
 else if w0 l=rh then(if(decide (l.length=2)&&eQ false (w1 l))=true then some ⟨3,(cX (w1 l)).1,[],0⟩else none)
 else if w0 l=pq then(if(decide (l.length=2)&&(bq (w1 l)).2)=true then some ⟨4,⟨0,[],0⟩,[],(bq (w1 l)).1⟩else none)
 else none
def uF(r:Read)(l:List (List UInt8)):Int×Read:=match kJ l with
 |some t=>(0,{ r.block (fun b=>{ b with End:=t })with Where:=9 })
 |none=>(3,{ r with Where:=9 })
def bi(r:Read)(l:List (List UInt8)):(Bool×Int)×Read:=
 if w0 l=kAt\/w0 l=my\/w0 l=lm\/w0 l=dz\/w0 l=rh\/w0 l=pq then
  if r.ins=false then((true,3),r)
  else if w0 l=kAt then((true,(sAt r l).1),(sAt r l).2)
  else if w0 l=my then((true,(lP r l).1),(lP r l).2)
  else((true,(uF r l).1),(uF r l).2)
 else((false,0),r)
def Kr(op:Int)(l:List (List UInt8)):Option (List UInt8×List (List UInt8)):=
 if op=26\/op=27 then(if l.length < 3 then none else some (w2 l,w1 l::l.drop 3))
 else if(rOf op).1.Named then(if l.length < 2 then none else some (w1 l,l.drop 2))
 else some ([],l.drop 1)
def fP(dst:List UInt8)(l:List (List UInt8)):Option Instr:=
 if((sOp (w0 l)).2&&((rOf (sOp (w0 l)).1).1.Dst==!decide (dst=[])))=false then none
 else match Kr (sOp (w0 l)).1 l with
 |none=>none
 |some (nm,rest)=>
  if((dB rest false).2&&!((rOf (sOp (w0 l)).1).1.Named&&!cj nm)&&decide ((rOf (sOp (w0 l)).1).1.Least<=((dB rest false).1.length:Int))&&decide (((dB rest false).1.length:Int)<=(rOf (sOp (w0 l)).1).1.Most))=true
  then some ⟨(sOp (w0 l)).1,dst,nm,(dB rest false).1,[],[]⟩else none
def sEq(l:List (List UInt8)):Bool:=decide (2<l.length)&&decide (w1 l=[61])
def cY(r:Read)(l:List (List UInt8)):Int×Read:=
 if(sEq l&&!cj (w0 l))=true then(3,r)
 else if r.ins=false then(3,r)
 else match fP (if sEq l then w0 l else []) (if sEq l then l.drop 2 else l)with
 |none=>(3,r)
 |some x=>if 1024<=r.Long then(2,r)else(0,{ r.block (fun b=>{ b with Code:=b.Code++[x] })with Where:=if x.Op=31\/x.Op=34 then 7 else 6,Long:=r.Long+1 })
def aK(r:Read)(l:List (List UInt8))(first:Bool):Int×Read:=
 if sEq l then cY r l
 else if w0 l=si then(if(first&&decide (l.length=1))=false then(3,r)else(0,{ r with P:={ r.P with SSA:=true } }))
 else if(bG r l).1.1 then((bG r l).1.2,(bG r l).2)
 else if(cg r l).1.1 then((cg r l).1.2,(cg r l).2)
 else if(bi r l).1.1 then((bi r l).1.2,(bi r l).2)
 else cY r l
structure Cut where
 out:List RLine
 l:List (List UInt8)
 w:List UInt8
 n:Int
 remark:Bool
 bad:Bool
def Cut.word(k:Cut):Cut:={ k with l:=if k.w=[]then k.l else k.l++[k.w],w:=[] }
def Cut.byte(k:Cut)(c:UInt8):Cut:=
 if c=59 then { k.word with remark:=true }
 else if(k.remark||c=32||c=9)=true then k.word
 else { k with bad:=k.bad||(decide (c.toNat < 33)||decide (126<c.toNat)),w:=k.w++[c] }
def Cut.line(k:Cut):Cut:={ out:=if k.word.l=[]then k.out else k.out++[⟨k.n,k.word.l⟩],l:=[],w:=[],n:=k.n+1,remark:=false,bad:=k.bad }
def cD:List UInt8->Cut->List RLine×Int×Int
 |[],k=>if k.bad then([],k.n,3)else(k.line.out,0,0)
 |c::r,k=>if c=10 then(if k.bad then([],k.n,3)else cD r k.line)else cD r (k.byte c)
def fR(s:List UInt8):List RLine×Int×Int:=if 4194304<s.length then([],0,2)else cD s ⟨[],[],[],1,false,false⟩
def jN:List RLine->Bool->Read->Program×Int×Int
 |[],_,r=>if r.out then(r.P,0,0)else(⟨false,[],[],[],[]⟩,0,3)
 |x::t,first,r=>if(aK r x.Words first).1=0 then jN t false (aK r x.Words first).2 else(⟨false,[],[],[],[]⟩,x.N,(aK r x.Words first).1)
def Fm(s:List UInt8):Program×Int×Int:=
 if(fR s).2.2=0 then jN (fR s).1 true ⟨⟨false,[],[],[],[]⟩,0,0⟩else(⟨false,[],[],[],[]⟩,(fR s).2.1,(fR s).2.2)
def Zv(l:List (List UInt8))(a:Arg)(y:List (List UInt8)):Prop:=y.length<=l.length+1/\∀v,v∈y ↔ (a.Kind=1/\a.S=v)\/v∈l
def jp(a b:List Var):Bool:=decide (a=b)
def pI(a b:List Arg):Bool:=decide (a=b)
def p9(a b:Instr):Bool:=decide (a=b)
def qS(a b:Block):Bool:=decide (a=b)
def tg(a b:Func):Bool:=decide (a=b)
def Same(a b:Program):Bool:=decide (a=b)
def eM(s:List UInt8):Int×Bool:=bq s
def zJ(s:List UInt8):Int×Bool:=jm s
def qX(s:List UInt8):Arg×Bool:=cX s
def kP(s:List UInt8):Arg×Bool:=if(jm s).2 then(⟨3,[],(jm s).1⟩,true)else if(bq s).2 then(⟨2,[],(bq s).1⟩,true)else(⟨0,[],0⟩,false)
def ir(l:List Int)(n:Int):Bool:=l.contains n
def cG(w:List UInt8):Except Value (List UInt8):=if Name w then .ok w else .error (flt 3)
def io(w:List UInt8):Except Value (List UInt8):=if pH w then .ok w else .error (flt 3)
def q0(w:List UInt8)(least most:Int):Except Value Int:=if(bq w).2&&(decide (least<=(bq w).1)&&decide ((bq w).1<=most))then .ok (bq w).1 else .error (flt 3)
def Bv(w:List UInt8)(objs:Bool):Except Value Arg:=if eQ objs w then .ok (cX w).1 else .error (flt 3)
def rF(l:List (List UInt8))(objs:Bool):Except Value (List Arg):=if(dB l objs).2 then .ok (dB l objs).1 else .error (flt 3)
def yOp(w:List UInt8):Int×Bool:=sOp w
def Reader.abs(r:Reader):Read:=⟨r.p,if r.where_=0 then(if 0<=r.long then 9 else 2)else if r.where_=1 then 1 else r.where_+1,r.long⟩
def gP(r:Reader)(x:Int×Read)(w:Int):Except Value Unit×Reader:=
 if x.1=0 then(.ok (),⟨x.2.P,r.at_,w,r.first,x.2.Long⟩)else(.error (flt x.1),r)
def Z3(r:Reader)(l:List (List UInt8)):Except Value Unit×Reader:=gP r (if(r.first&&decide (l.length=1))=false then(3,r.abs)else(0,{ r.abs with P:={ r.p with SSA:=true } })) r.where_
def FB(r:Reader)(l:List (List UInt8)):Except Value Unit×Reader:=gP r (eh r.abs l) 1
def FE(r:Reader)(l:List (List UInt8)):Except Value Unit×Reader:=gP r (fO r.abs l) r.where_
def yr(r:Reader)(l:List (List UInt8)):Except Value Unit×Reader:=gP r (dK r.abs l) 0
def yq(r:Reader)(l:List (List UInt8)):Except Value Unit×Reader:=gP r (dJ r.abs l) 0
def qZ(r:Reader)(l:List (List UInt8)):Except Value Unit×Reader:=gP r (fW r.abs l) 2
def FG(r:Reader)(l:List (List UInt8)):Except Value Unit×Reader:=gP r (fQ r.abs l) r.where_
def q8(r:Reader)(l:List (List UInt8)):Except Value Unit×Reader:=gP r (jA r.abs l) 3
def FI(r:Reader)(l:List (List UInt8)):Except Value Unit×Reader:=gP r (dG r.abs l) 4
def Z2(r:Reader)(l:List (List UInt8)):Except Value Unit×Reader:=gP r (lQ r.abs l) 4
def xF(r:Reader)(l:List (List UInt8)):Except Value Unit×Reader:=gP r (cY r.abs l) ((cY r.abs l).2.Where - 1)
def FF(r:Reader)(l:List (List UInt8)):Except Value Unit×Reader:=gP r (sAt r.abs l) 6
def q7(r:Reader)(l:List (List UInt8)):Except Value Unit×Reader:=gP r (if r.abs.ins=false then(3,r.abs)else lP r.abs l) 7
def pS(l:List (List UInt8)):Option Term:=if w0 l=lm\/w0 l=dz\/w0 l=rh then kJ l else if(decide (l.length=2)&&(bq (w1 l)).2)=true then some ⟨4,⟨0,[],0⟩,[],(bq (w1 l)).1⟩else none
def FC(r:Reader)(l:List (List UInt8)):Except Value Unit×Reader:=gP r (if r.abs.ins=false then(3,r.abs)else match pS l with|some t=>(0,{ r.abs.block (fun b=>{ b with End:=t })with Where:=9 })|none=>(3,r.abs)) 0
def rG(r:Reader)(l:List (List UInt8)):Except Value Unit×Reader:=
 if sEq l then xF r l
 else if w0 l=si then Z3 r l else if w0 l=nM then FB r l else if w0 l=lH then FE r l else if w0 l=g9 then yr r l
 else if w0 l=fE then yq r l else if w0 l=rC then qZ r l else if w0 l=lI then FG r l else if w0 l=BK then q8 r l
 else if w0 l=nL then FI r l else if w0 l=vQ then Z2 r l else if w0 l=kAt then FF r l else if w0 l=my then q7 r l
 else if w0 l=lm\/w0 l=dz\/w0 l=rh\/w0 l=pq then FC r l else xF r l
def Reader.heads(r:Reader):Nat:=r.p.Classes.length+r.p.Globals.length+r.p.Externs.length
def Bw(r:Reader)(l:List (List UInt8)):Except Value Unit×Reader:=match rG r l with
 |(.ok _,x)=>(.ok (),{ x with first:=false,long:=if r.heads<x.heads then -1 else x.long })
 |(.error v,x)=>(.error v,x)
def kQ(s:List UInt8):Program×Int×Int:=Fm s
def blank(c:UInt8):Bool:=decide (c=32)||decide (c=9)
def iU:List UInt8->List UInt8->List (List UInt8)->List (List UInt8)×Bool
 |[],w,out=>(if w=[]then out else out++[w],true)
 |c::r,w,out=>if blank c then iU r [] (if w=[]then out else out++[w])else if c.toNat<=32\/126<c.toNat then([],false)else iU r (w++[c]) out
def Dv(s:List UInt8):Prop:=s.length<=room
def dt(s:List UInt8):List (List UInt8)×Bool:=iU s [] []
def fN(s:List UInt8):List Line×Int×Int:=((fR s).1.map fun l=>⟨l.N,l.Words⟩,(fR s).2.1,(fR s).2.2)
def Reader.inv(r:Reader):Prop:=Inv r.abs/\(0<=r.where_/\r.where_<=7)/\(-1<=r.long/\r.long<=1024)/\(0<=r.long ↔ r.where_≠1/\r.abs.Where≠2)
def bz(r:Reader)(l:List (List UInt8)):Prop:=r.inv/\l≠[]/\l.length<=room
end Lt
end

section
namespace Go.Am
open Go
def Gf(a:List UInt8)(KK:(Int×Bool)->Prop):Prop:=
 aa (α:=Bool) (fun i=>if(decide (a=([]:List UInt8)))=true then(i true)else(i (decide (20 < (a.length:Int))))) (fun l=>if l=true then(KK (0,false))else(aa (α:=Int) (fun g=>((0:Int)<=0/\0<a.length)/\if(decide ((((a.getD 0 0).toNat:Nat):Int)=(((45:UInt8).toNat:Nat):Int)))=true then(g 1)else(g 0)) (fun v4=>ab (α:=Int×Int) (fun k b=>have e:=((0:Int)<=b.2/\b.2.toNat<a.length);have d:=(((a.getD b.2.toNat 0).toNat:Nat):Int);(a.length<=4611686018427387904->if(decide (b.2 < (a.length:Int)))=true then(aa (α:=Bool) (fun f=>e/\if(decide (d < (((48:UInt8).toNat:Nat):Int)))=true then(f true)else(e/\f (decide ((((57:UInt8).toNat:Nat):Int)<d)))) (fun j=>if j=true then(KK (0,false))else(e/\k ((i64.wrap ((i64.wrap (b.1*10)) - (i64.wrap (((UInt8.ofNat (IntKind.u8.wrap (d - (((48:UInt8).toNat:Nat):Int))).toNat).toNat:Nat):Int)))),(i64.wrap (b.2+1))))))else(aa (α:=Int) (fun h=>if(decide (v4=0))=true then(h (i64.wrap (0-b.1)))else(h b.1)) (fun c=>(lL c)/\if(!decide ((aB c)=a))=true then(KK (0,false))else(KK (c,true)))))) (0,v4))))
def s9(a:List UInt8)(KK:(Int×Bool)->Prop):Prop:=
 aa (α:=Bool) (fun b=>if(!((mm a [48,102]).2))=true then(b true)else(b (!decide ((((mm a [48,102]).1).length:Int)=16)))) (fun c=>if c=true then(KK (0,false))else((((mm a [48,102]).1).length<=4611686018427387904->ab (α:=Int×Int) (fun d v4=>if(decide (v4.2 < (((mm a [48,102]).1).length:Int)))=true then(((0:Int)<=v4.2/\v4.2.toNat < ((mm a [48,102]).1).length)/\if(decide ((gZ [48,49,50,51,52,53,54,55,56,57,97,98,99,100,101,102] (((mm a [48,102]).1).getD v4.2.toNat 0)) < 0))=true then(KK (0,false))else((0:Int)<=4/\d ((IntKind.u64.wrap ((BitVec.ofInt IntKind.u64.bits (IntKind.u64.wrap (v4.1*2 ^ (min (4:Int).toNat IntKind.u64.bits))) ||| BitVec.ofInt IntKind.u64.bits (IntKind.u64.wrap (gZ [48,49,50,51,52,53,54,55,56,57,97,98,99,100,101,102] (((mm a [48,102]).1).getD v4.2.toNat 0)))).toNat:Nat)),(i64.wrap (v4.2+1)))))else(if(!decide ((Lt.Plain (i64.wrap v4.1))=(i64.wrap v4.1)))=true then(KK (0,false))else(KK ((i64.wrap v4.1),true)))) (0,0))))
def ta(a:List UInt8)(KK:(Lt.Arg×Bool)->Prop):Prop:=
 if((zJ a).2)=true then(KK ((Lt.Arg.mk 3 ([]:List UInt8) ((zJ a).1)),true))else(if(!((eM a).2))=true then(KK ((Lt.Arg.mk 0 ([]:List UInt8) 0),false))else(KK ((Lt.Arg.mk 2 ([]:List UInt8) ((eM a).1)),true)))
def Cz(a:List UInt8)(KK:(Lt.Arg×Bool)->Prop):Prop:=
 if(decide (a=([]:List UInt8)))=true then(KK ((Lt.Arg.mk 0 ([]:List UInt8) 0),false))else(if(decide (a=[110,117,108,108]))=true then(KK ((Lt.Arg.mk 4 ([]:List UInt8) 0),true))else(if(Lt.Name a)=true then(KK ((Lt.Arg.mk 1 a 0),true))else(((0:Int)<=0/\0<a.length)/\if(decide ((((a.getD 0 0).toNat:Nat):Int)=(((35:UInt8).toNat:Nat):Int)))=true then((0:Int)<=1/\(1<=a.length/\a.length<=a.length)/\aa (α:=Bool) (fun b=>if(!((eM ((a.drop 1).take (a.length - 1))).2))=true then(b true)else(if(decide ((eM ((a.drop 1).take (a.length - 1))).1 < 0))=true then(b true)else(b (decide (999 < (eM ((a.drop 1).take (a.length - 1))).1))))) (fun c=>if c=true then(KK ((Lt.Arg.mk 0 ([]:List UInt8) 0),false))else(KK ((Lt.Arg.mk 5 ([]:List UInt8) ((eM ((a.drop 1).take (a.length - 1))).1)),true))))else(KK (((kP a).1),(kP a).2)))))
def N8(a:UInt8)(KK:Bool->Prop):Prop:=
 if(decide (((a.toNat:Nat):Int)=(((32:UInt8).toNat:Nat):Int)))=true then(KK true)else(KK (decide (((a.toNat:Nat):Int)=(((9:UInt8).toNat:Nat):Int))))
def Gb(a:List UInt8)(KK:(List (List UInt8)×Bool)->Prop):Prop:=
 ab (α:=List (List UInt8)×Int×Int) (fun l b=>have f:=((0:Int)<=b.2.2/\b.2.2.toNat<a.length);have c:=([((a.drop b.2.1.toNat).take (b.2.2.toNat-b.2.1.toNat))]:List (List UInt8));(a.length<=4611686018427387904->if(decide (b.2.2<=(a.length:Int)))=true then(aa (α:=List (List UInt8)×Int) (fun d=>aa (α:=Bool) (fun h=>(a.length<=4611686018427387904->if(decide (b.2.2=(a.length:Int)))=true then(h true)else(f/\h (Lt.blank (a.getD b.2.2.toNat 0))))) (fun j=>if j=true then(aa (α:=List (List UInt8)) (fun g=>if(decide (0<=b.2.1))=true then((0:Int)<=b.2.1/\(0:Int)<=b.2.2/\(b.2.1.toNat<=b.2.2.toNat/\b.2.2.toNat<=a.length)/\(b.1.length+c.length<=4611686018427387904/\(b.1.length+c.length)*16<=140737488355328)/\g (b.1++c))else(g b.1)) (fun k=>d (k,(-1))))else(aa (α:=Bool) (fun i=>f/\if(decide ((((a.getD b.2.2.toNat 0).toNat:Nat):Int)<=(((32:UInt8).toNat:Nat):Int)))=true then(i true)else(f/\i (decide ((((126:UInt8).toNat:Nat):Int) < (((a.getD b.2.2.toNat 0).toNat:Nat):Int))))) (fun e=>if e=true then(KK ([],false))else(if(decide (b.2.1 < 0))=true then(d (b.1,b.2.2))else(d (b.1,b.2.1))))))) (fun v4=>l (v4.1,v4.2,(i64.wrap (b.2.2+1)))))else(KK (b.1,true)))) ([],(-1),0)
def Ga(a:List UInt8)(KK:(List Lt.Line×Int×Int)->Prop):Prop:=
 (a.length<=4611686018427387904->if(decide (4194304 < (a.length:Int)))=true then(KK ([],0,2))else((JX a [10])/\((fd a [10]).length<=4611686018427387904->ab (α:=List Lt.Line×Int) (fun f b=>have c:=(Vw ((fd a [10]).getD b.2.toNat default) [59]).1;have d:=([(Lt.Line.mk (i64.wrap (b.2+1)) ((dt c).1))]:List Lt.Line);if(decide (b.2 < ((fd a [10]).length:Int)))=true then(aa (α:=List Lt.Line) (fun e=>((0:Int)<=b.2/\b.2.toNat < (fd a [10]).length)/\(WE ((fd a [10]).getD b.2.toNat default) [59])/\(Dv c)/\if(!((dt c).2))=true then(KK ([],(i64.wrap (b.2+1)),3))else((((dt c).1).length<=4611686018427387904->if(decide (0 < (((dt c).1).length:Int)))=true then((b.1.length+d.length<=4611686018427387904/\(b.1.length+d.length)*32<=140737488355328)/\e (b.1++d))else(e b.1)))) (fun v4=>f (v4,(i64.wrap (b.2+1)))))else(KK (b.1,0,0))) ([],0))))
def TQ(a:List Int)(b:Int)(KK:Bool->Prop):Prop:=
 (a.length<=4611686018427387904->ab (α:=Int) (fun d c=>if(decide (c < (a.length:Int)))=true then(((0:Int)<=c/\c.toNat<a.length)/\if(decide ((a.getD c.toNat default)=b))=true then(KK true)else(d (i64.wrap (c+1))))else(KK false)) 0)
def Ot(a:List UInt8)(KK:(List UInt8)->Prop)(KP:Value->Prop):Prop:=
 if(!(Lt.Name a))=true then(KP (Lt.flt 3))else(KK a)
def Oo(a:List UInt8)(KK:(List UInt8)->Prop)(KP:Value->Prop):Prop:=
 aa (α:=Unit) (fun b=>if(decide (a=[105,110,116]))=true then(if false=true then(KP (Lt.flt 3))else(b ()))else(if(decide (a=[102,108,111,97,116]))=true then(if false=true then(KP (Lt.flt 3))else(b ()))else(if(!(Lt.Name a))=true then(KP (Lt.flt 3))else(b ())))) (fun c=>KK a)
def CD(a:List UInt8)(b:Int)(c:Int)(KK:Int->Prop)(KP:Value->Prop):Prop:=
 if((eM a).2)=true then(if(decide (b<=(eM a).1))=true then(if(!(decide ((eM a).1<=c)))=true then(KP (Lt.flt 3))else(KK ((eM a).1)))else(KP (Lt.flt 3)))else(KP (Lt.flt 3))
def TO(a:List UInt8)(b:Bool)(KK:Lt.Arg->Prop)(KP:Value->Prop):Prop:=
 aa (α:=Unit) (fun c=>if((qX a).2)=true then(if b=true then(if false=true then(KP (Lt.flt 3))else(c ()))else(if(!(!decide (((qX a).1).Kind=5)))=true then(KP (Lt.flt 3))else(c ())))else(KP (Lt.flt 3))) (fun d=>KK ((qX a).1))
def Om(a:List (List UInt8))(b:Bool)(KK:(List Lt.Arg)->Prop)(KP:Value->Prop):Prop:=
 (a.length<=4611686018427387904->ab (α:=List Lt.Arg×Int) (fun d c=>if(decide (c.2 < (a.length:Int)))=true then(((0:Int)<=c.2/\c.2.toNat<a.length)/\True/\exQ (Bv (a.getD c.2.toNat default) b) (fun z3=>(c.1.length+([z3]:List Lt.Arg).length<=4611686018427387904/\(c.1.length+([z3]:List Lt.Arg).length)*32<=140737488355328)/\d ((c.1++([z3]:List Lt.Arg)),(i64.wrap (c.2+1)))) (fun v=>KP v))else(KK c.1)) ([],0))
def aaC(a:List UInt8)(KK:(Int×Bool)->Prop):Prop:=
 ab (α:=Int) (fun c b=>if(decide (b<=34))=true then(if(decide (((Lt.Of b).1).Word=a))=true then(KK (b,true))else(c (i64.wrap (b+1))))else(KK (0,false))) 1
def TT(a:Lt.Reader)(b:List (List UInt8))(KK:((Unit)×Lt.Reader)->Prop)(KP:Value->Lt.Reader->Prop):Prop:=
 if a.first=true then(if(!(decide ((b.length:Int)=1)))=true then(KP (Lt.flt 3) a)else(KK ((),(Lt.Reader.mk (Lt.Program.mk true a.p.Classes a.p.Globals a.p.Externs a.p.Funcs) a.at_ a.where_ a.first a.long))))else(KP (Lt.flt 3) a)
def Gm(a:Lt.Reader)(b:List (List UInt8))(KK:((Unit)×Lt.Reader)->Prop)(KP:Value->Lt.Reader->Prop):Prop:=
 if(!(ir [0,1] a.where_))=true then(KP (Lt.flt 3) a)else((b.length<=4611686018427387904->if(!(decide ((b.length:Int)=2)))=true then(KP (Lt.flt 3) a)else(((0:Int)<=1/\1<b.length)/\True/\exQ (cG (b.getD 1 default)) (fun c=>(a.p.Classes.length<=4611686018427387904->if(decide (8<=(a.p.Classes.length:Int)))=true then(KP (Lt.flt 2) a)else(aa (α:=Lt.Reader) (fun d=>((a.p.Classes.length+([(Lt.Class.mk c [])]:List Lt.Class).length<=4611686018427387904/\(a.p.Classes.length+([(Lt.Class.mk c [])]:List Lt.Class).length)*40<=140737488355328)/\d (Lt.Reader.mk (Lt.Program.mk a.p.SSA (a.p.Classes++([(Lt.Class.mk c [])]:List Lt.Class)) a.p.Globals a.p.Externs a.p.Funcs) a.at_ a.where_ a.first a.long))/\((a.p.Classes.length+([(Lt.Class.mk c [])]:List Lt.Class).length<=4611686018427387904/\(a.p.Classes.length+([(Lt.Class.mk c [])]:List Lt.Class).length)*40<=140737488355328)/\d (Lt.Reader.mk (Lt.Program.mk a.p.SSA (a.p.Classes++([(Lt.Class.mk c [])]:List Lt.Class)) a.p.Globals a.p.Externs a.p.Funcs) a.at_ a.where_ a.first a.long))) (fun v3=>KK ((),(Lt.Reader.mk v3.p v3.at_ 1 v3.first v3.long)))))) (fun v=>KP v a))))
def Gn(a:Lt.Reader)(b:List (List UInt8))(KK:((Unit)×Lt.Reader)->Prop)(KP:Value->Lt.Reader->Prop):Prop:=
 have c:=(i64.wrap ((a.p.Classes.length:Int) - 1));have d:=(a.p.Classes.getD c.toNat default).Fields;if(!(ir [1] a.where_))=true then(KP (Lt.flt 3) a)else((b.length<=4611686018427387904->if(!(decide ((b.length:Int)=3)))=true then(KP (Lt.flt 3) a)else(aa (α:=Lt.Var) (fun f=>((0:Int)<=1/\1<b.length)/\((0:Int)<=2/\2<b.length)/\(True/\exQ (cG (b.getD 1 default)) (fun z5=>(True/\exQ (io (b.getD 2 default)) (fun i=>f (Lt.Var.mk z5 i)) (fun v=>KP v a))/\(True/\exQ (io (b.getD 2 default)) (fun h=>f (Lt.Var.mk z5 h)) (fun v=>KP v a))) (fun v=>KP v a))/\(True/\exQ (cG (b.getD 1 default)) (fun z3=>True/\exQ (io (b.getD 2 default)) (fun z4=>f (Lt.Var.mk z3 z4)) (fun v=>KP v a)) (fun v=>KP v a))) (fun e=>have g:=((d.length+([e]:List Lt.Var).length<=4611686018427387904/\(d.length+([e]:List Lt.Var).length)*32<=140737488355328)/\c.toNat<a.p.Classes.length/\c.toNat=c.toNat/\KK ((),(Lt.Reader.mk (Lt.Program.mk a.p.SSA (a.p.Classes.set c.toNat (Lt.Class.mk ((a.p.Classes.getD c.toNat default).Name) (d++([e]:List Lt.Var)))) a.p.Globals a.p.Externs a.p.Funcs) a.at_ a.where_ a.first a.long)));(a.p.Classes.length<=4611686018427387904->((0:Int)<=c/\c < ((a.p.Classes.length:Nat):Int))/\(d.length<=4611686018427387904->if(decide (8<=(d.length:Int)))=true then(KP (Lt.flt 2) a)else(g/\g)))))))
def CC(a:Lt.Reader)(b:List (List UInt8))(KK:((Unit)×Lt.Reader)->Prop)(KP:Value->Lt.Reader->Prop):Prop:=
 if(!(ir [0,1] a.where_))=true then(KP (Lt.flt 3) a)else((b.length<=4611686018427387904->if(!(decide ((b.length:Int)=3)))=true then(KP (Lt.flt 3) a)else(aa (α:=Lt.Var) (fun d=>((0:Int)<=1/\1<b.length)/\((0:Int)<=2/\2<b.length)/\(True/\exQ (cG (b.getD 1 default)) (fun z5=>(True/\exQ (io (b.getD 2 default)) (fun g=>d (Lt.Var.mk z5 g)) (fun v=>KP v a))/\(True/\exQ (io (b.getD 2 default)) (fun f=>d (Lt.Var.mk z5 f)) (fun v=>KP v a))) (fun v=>KP v a))/\(True/\exQ (cG (b.getD 1 default)) (fun z3=>True/\exQ (io (b.getD 2 default)) (fun z4=>d (Lt.Var.mk z3 z4)) (fun v=>KP v a)) (fun v=>KP v a))) (fun c=>(a.p.Globals.length<=4611686018427387904->if(decide (8<=(a.p.Globals.length:Int)))=true then(KP (Lt.flt 2) a)else(aa (α:=Lt.Reader) (fun h=>have e:=((a.p.Globals.length+([c]:List Lt.Var).length<=4611686018427387904/\(a.p.Globals.length+([c]:List Lt.Var).length)*32<=140737488355328)/\h (Lt.Reader.mk (Lt.Program.mk a.p.SSA a.p.Classes (a.p.Globals++([c]:List Lt.Var)) a.p.Externs a.p.Funcs) a.at_ a.where_ a.first a.long));e/\e) (fun v9=>KK ((),(Lt.Reader.mk v9.p v9.at_ 0 v9.first v9.long)))))))))
def CB(a:Lt.Reader)(b:List (List UInt8))(KK:((Unit)×Lt.Reader)->Prop)(KP:Value->Lt.Reader->Prop):Prop:=
 have d:=q0 (b.getD 2 default) 0 8;if(!(ir [0,1] a.where_))=true then(KP (Lt.flt 3) a)else((b.length<=4611686018427387904->if(!(decide ((b.length:Int)=3)))=true then(KP (Lt.flt 3) a)else(aa (α:=Lt.Extern) (fun e=>((0:Int)<=1/\1<b.length)/\((0:Int)<=2/\2<b.length)/\(True/\exQ (cG (b.getD 1 default)) (fun z5=>(True/\exQ d (fun h=>e (Lt.Extern.mk z5 h)) (fun v=>KP v a))/\(True/\exQ d (fun g=>e (Lt.Extern.mk z5 g)) (fun v=>KP v a))) (fun v=>KP v a))/\(True/\exQ (cG (b.getD 1 default)) (fun z3=>True/\exQ d (fun z4=>e (Lt.Extern.mk z3 z4)) (fun v=>KP v a)) (fun v=>KP v a))) (fun c=>(a.p.Externs.length<=4611686018427387904->if(decide (8<=(a.p.Externs.length:Int)))=true then(KP (Lt.flt 2) a)else(aa (α:=Lt.Reader) (fun i=>have f:=((a.p.Externs.length+([c]:List Lt.Extern).length<=4611686018427387904/\(a.p.Externs.length+([c]:List Lt.Extern).length)*24<=140737488355328)/\i (Lt.Reader.mk (Lt.Program.mk a.p.SSA a.p.Classes a.p.Globals (a.p.Externs++([c]:List Lt.Extern)) a.p.Funcs) a.at_ a.where_ a.first a.long));f/\f) (fun v9=>KK ((),(Lt.Reader.mk v9.p v9.at_ 0 v9.first v9.long)))))))))
def wU(a:Lt.Reader)(b:List (List UInt8))(KK:((Unit)×Lt.Reader)->Prop)(KP:Value->Lt.Reader->Prop):Prop:=
 if(!(ir [0,1] a.where_))=true then(KP (Lt.flt 3) a)else((b.length<=4611686018427387904->if(!(decide ((b.length:Int)=3)))=true then(KP (Lt.flt 3) a)else(aa (α:=Lt.Func) (fun d=>((0:Int)<=1/\1<b.length)/\((0:Int)<=2/\2<b.length)/\(True/\exQ (cG (b.getD 1 default)) (fun z5=>(True/\exQ (io (b.getD 2 default)) (fun h=>d (Lt.Func.mk z5 h [] [] [])) (fun v=>KP v a))/\(True/\exQ (io (b.getD 2 default)) (fun g=>d (Lt.Func.mk z5 g [] [] [])) (fun v=>KP v a))) (fun v=>KP v a))/\(True/\exQ (cG (b.getD 1 default)) (fun z3=>True/\exQ (io (b.getD 2 default)) (fun z4=>d (Lt.Func.mk z3 z4 [] [] [])) (fun v=>KP v a)) (fun v=>KP v a))) (fun f=>have c:=([(Lt.Func.mk f.Name f.Result [] [] [])]:List Lt.Func);(a.p.Funcs.length<=4611686018427387904->if(decide (8<=(a.p.Funcs.length:Int)))=true then(KP (Lt.flt 2) a)else(aa (α:=Lt.Reader) (fun i=>have e:=((a.p.Funcs.length+c.length<=4611686018427387904/\(a.p.Funcs.length+c.length)*104<=140737488355328)/\i (Lt.Reader.mk (Lt.Program.mk a.p.SSA a.p.Classes a.p.Globals a.p.Externs (a.p.Funcs++c)) a.at_ a.where_ a.first a.long));e/\e) (fun v9=>KK ((),(Lt.Reader.mk v9.p v9.at_ 2 v9.first 0)))))))))
def Gq(a:Lt.Reader)(b:List (List UInt8))(KK:((Unit)×Lt.Reader)->Prop)(KP:Value->Lt.Reader->Prop):Prop:=
 have d:=(i64.wrap ((a.p.Funcs.length:Int) - 1));have c:=a.p.Funcs.getD d.toNat default;if(!(ir [2] a.where_))=true then(KP (Lt.flt 3) a)else((b.length<=4611686018427387904->if(!(decide ((b.length:Int)=3)))=true then(KP (Lt.flt 3) a)else(aa (α:=Lt.Var) (fun f=>((0:Int)<=1/\1<b.length)/\((0:Int)<=2/\2<b.length)/\(True/\exQ (cG (b.getD 1 default)) (fun z5=>(True/\exQ (io (b.getD 2 default)) (fun i=>f (Lt.Var.mk z5 i)) (fun v=>KP v a))/\(True/\exQ (io (b.getD 2 default)) (fun h=>f (Lt.Var.mk z5 h)) (fun v=>KP v a))) (fun v=>KP v a))/\(True/\exQ (cG (b.getD 1 default)) (fun z3=>True/\exQ (io (b.getD 2 default)) (fun z4=>f (Lt.Var.mk z3 z4)) (fun v=>KP v a)) (fun v=>KP v a))) (fun e=>have g:=(((c.Params).length+([e]:List Lt.Var).length<=4611686018427387904/\((c.Params).length+([e]:List Lt.Var).length)*32<=140737488355328)/\d.toNat<a.p.Funcs.length/\d.toNat=d.toNat/\KK ((),(Lt.Reader.mk (Lt.Program.mk a.p.SSA a.p.Classes a.p.Globals a.p.Externs (a.p.Funcs.set d.toNat (Lt.Func.mk (c.Name) (c.Result) ((c.Params)++([e]:List Lt.Var)) (c.Vars) (c.Blocks)))) a.at_ a.where_ a.first a.long)));(a.p.Funcs.length<=4611686018427387904->((0:Int)<=d/\d < ((a.p.Funcs.length:Nat):Int))/\((c.Params).length<=4611686018427387904->if(decide (6<=((c.Params).length:Int)))=true then(KP (Lt.flt 2) a)else(g/\g)))))))
def wV(a:Lt.Reader)(b:List (List UInt8))(KK:((Unit)×Lt.Reader)->Prop)(KP:Value->Lt.Reader->Prop):Prop:=
 have d:=(i64.wrap ((a.p.Funcs.length:Int) - 1));have c:=a.p.Funcs.getD d.toNat default;if(!(ir [2,3] a.where_))=true then(KP (Lt.flt 3) a)else((b.length<=4611686018427387904->if(!(decide ((b.length:Int)=3)))=true then(KP (Lt.flt 3) a)else(aa (α:=Lt.Var) (fun f=>((0:Int)<=1/\1<b.length)/\((0:Int)<=2/\2<b.length)/\(True/\exQ (cG (b.getD 1 default)) (fun z5=>(True/\exQ (io (b.getD 2 default)) (fun i=>f (Lt.Var.mk z5 i)) (fun v=>KP v a))/\(True/\exQ (io (b.getD 2 default)) (fun h=>f (Lt.Var.mk z5 h)) (fun v=>KP v a))) (fun v=>KP v a))/\(True/\exQ (cG (b.getD 1 default)) (fun z3=>True/\exQ (io (b.getD 2 default)) (fun z4=>f (Lt.Var.mk z3 z4)) (fun v=>KP v a)) (fun v=>KP v a))) (fun e=>(a.p.Funcs.length<=4611686018427387904->((0:Int)<=d/\d < ((a.p.Funcs.length:Nat):Int))/\((c.Vars).length<=4611686018427387904->if(decide (1024<=((c.Vars).length:Int)))=true then(KP (Lt.flt 2) a)else(aa (α:=Lt.Reader) (fun j=>have g:=(((c.Vars).length+([e]:List Lt.Var).length<=4611686018427387904/\((c.Vars).length+([e]:List Lt.Var).length)*32<=140737488355328)/\d.toNat<a.p.Funcs.length/\d.toNat=d.toNat/\j (Lt.Reader.mk (Lt.Program.mk a.p.SSA a.p.Classes a.p.Globals a.p.Externs (a.p.Funcs.set d.toNat (Lt.Func.mk (c.Name) (c.Result) (c.Params) ((c.Vars)++([e]:List Lt.Var)) (c.Blocks)))) a.at_ a.where_ a.first a.long));g/\g) (fun v9=>KK ((),(Lt.Reader.mk v9.p v9.at_ 3 v9.first v9.long))))))))))
def Gs(a:Lt.Reader)(b:List (List UInt8))(KK:((Unit)×Lt.Reader)->Prop)(KP:Value->Lt.Reader->Prop):Prop:=
 have c:=(i64.wrap ((a.p.Funcs.length:Int) - 1));have z4:=a.p.Funcs.getD c.toNat default;aa (α:=Unit) (fun d=>if(decide (a.where_=2))=true then(if false=true then(KP (Lt.flt 3) a)else(d ()))else(if(decide (a.where_=3))=true then(if false=true then(KP (Lt.flt 3) a)else(d ()))else(if(decide (a.where_=0))=true then(if(decide (0<=a.long))=true then(if(!(decide (0 < (a.p.Funcs.length:Int))))=true then(KP (Lt.flt 3) a)else(d ()))else(KP (Lt.flt 3) a))else(KP (Lt.flt 3) a)))) (fun g=>(b.length<=4611686018427387904->if(!(decide ((b.length:Int)=2)))=true then(KP (Lt.flt 3) a)else(((0:Int)<=1/\1<b.length)/\True/\exQ (cG (b.getD 1 default)) (fun z3=>have z5:=([(Lt.Block.mk z3 [] [] (Lt.Term.mk 0 (Lt.Arg.mk 0 ([]:List UInt8) 0) [] 0))]:List Lt.Block);(a.p.Funcs.length<=4611686018427387904->((0:Int)<=c/\c < ((a.p.Funcs.length:Nat):Int))/\((z4.Blocks).length<=4611686018427387904->if(decide (256<=((z4.Blocks).length:Int)))=true then(KP (Lt.flt 2) a)else(aa (α:=Lt.Reader) (fun f=>have e:=(((z4.Blocks).length+z5.length<=4611686018427387904/\((z4.Blocks).length+z5.length)*136<=140737488355328)/\c.toNat<a.p.Funcs.length/\c.toNat=c.toNat/\f (Lt.Reader.mk (Lt.Program.mk a.p.SSA a.p.Classes a.p.Globals a.p.Externs (a.p.Funcs.set c.toNat (Lt.Func.mk (z4.Name) (z4.Result) (z4.Params) (z4.Vars) ((z4.Blocks)++z5)))) a.at_ a.where_ a.first a.long));e/\e) (fun v5=>KK ((),(Lt.Reader.mk v5.p v5.at_ 4 v5.first v5.long))))))) (fun v=>KP v a))))
def TS(a:Lt.Reader)(b:List (List UInt8))(KK:((Unit)×Lt.Reader)->Prop)(KP:Value->Lt.Reader->Prop):Prop:=
 have z5:=(i64.wrap ((a.p.Funcs.length:Int) - 1));have d:=(a.p.Funcs.getD z5.toNat default);have z4:=(i64.wrap (((d.Blocks).length:Int) - 1));have c:=(d.Blocks).getD z4.toNat default;if(!(ir [4] a.where_))=true then(KP (Lt.flt 3) a)else((b.length<=4611686018427387904->if(decide (4<=(b.length:Int)))=true then((2:Int)≠0/\if(!(decide ((Int.tmod (b.length:Int) 2)=0)))=true then(KP (Lt.flt 3) a)else(((0:Int)<=1/\1<b.length)/\True/\exQ (cG (b.getD 1 default)) (fun m=>ab (α:=Int×Lt.Phi) (fun n v3=>have e:=Bv (b.getD (i64.wrap (v3.1+1)).toNat default) false;have z3:=(((c.Phis).length+([v3.2]:List Lt.Phi).length<=4611686018427387904/\((c.Phis).length+([v3.2]:List Lt.Phi).length)*40<=140737488355328)/\z5.toNat<a.p.Funcs.length/\z4.toNat < (d.Blocks).length/\z5.toNat=z5.toNat/\z4.toNat=z4.toNat/\KK ((),(Lt.Reader.mk (Lt.Program.mk a.p.SSA a.p.Classes a.p.Globals a.p.Externs (a.p.Funcs.set z5.toNat (Lt.Func.mk (d.Name) (d.Result) (d.Params) (d.Vars) ((d.Blocks).set z4.toNat (Lt.Block.mk (c.Name) ((c.Phis)++([v3.2]:List Lt.Phi)) (c.Code) (Lt.Term.mk ((c.End).Kind) ((c.End).A) ((c.End).To) ((c.End).N))))))) a.at_ a.where_ a.first (i64.wrap (a.long+1)))));(b.length<=4611686018427387904->if(decide (v3.1 < (b.length:Int)))=true then(aa (α:=Lt.Phi) (fun k=>((0:Int)<=v3.1/\v3.1.toNat<b.length)/\((0:Int)<=(i64.wrap (v3.1+1))/\(i64.wrap (v3.1+1)).toNat<b.length)/\(True/\exQ (cG (b.getD v3.1.toNat default)) (fun z9=>True/\exQ e (fun j=>have f:=([(Lt.In.mk z9 j)]:List Lt.In);(v3.2.Ins.length+f.length<=4611686018427387904/\(v3.2.Ins.length+f.length)*48<=140737488355328)/\k (Lt.Phi.mk v3.2.Dst (v3.2.Ins++f))) (fun v=>KP v a)) (fun v=>KP v a))/\(True/\exQ (cG (b.getD v3.1.toNat default)) (fun l=>(True/\exQ e (fun o=>have g:=([(Lt.In.mk l o)]:List Lt.In);(v3.2.Ins.length+g.length<=4611686018427387904/\(v3.2.Ins.length+g.length)*48<=140737488355328)/\k (Lt.Phi.mk v3.2.Dst (v3.2.Ins++g))) (fun v=>KP v a))/\(True/\exQ e (fun q=>have h:=([(Lt.In.mk l q)]:List Lt.In);have i:=((v3.2.Ins.length+h.length<=4611686018427387904/\(v3.2.Ins.length+h.length)*48<=140737488355328)/\k (Lt.Phi.mk v3.2.Dst (v3.2.Ins++h)));i/\i) (fun v=>KP v a))) (fun v=>KP v a))) (fun v5=>n ((i64.wrap (v3.1+2)),v5)))else((v3.2.Ins.length<=4611686018427387904->if(decide (256<=(i64.wrap ((v3.2.Ins.length:Int) - 1))))=true then(KP (Lt.flt 2) a)else(if(decide (1024<=a.long))=true then(KP (Lt.flt 2) a)else((a.p.Funcs.length<=4611686018427387904->((0:Int)<=z5/\z5 < ((a.p.Funcs.length:Nat):Int))/\((d.Blocks).length<=4611686018427387904->((0:Int)<=z4/\z4 < (((d.Blocks).length:Nat):Int))/\z3/\z3)))))))) (2,(Lt.Phi.mk m []))) (fun v=>KP v a)))else(KP (Lt.flt 3) a)))
def On(a:Lt.Reader)(b:List (List UInt8))(KK:((Unit)×Lt.Reader)->Prop)(KP:Value->Lt.Reader->Prop):Prop:=
 have l:=(i64.wrap ((a.p.Funcs.length:Int) - 1));have g:=(a.p.Funcs.getD l.toNat default);have z4:=(i64.wrap (((g.Blocks).length:Int) - 1));have i:=(g.Blocks).getD z4.toNat default;if(!(ir [4,5,6,7] a.where_))=true then(KP (Lt.flt 3) a)else(aa (α:=List (List UInt8)×Lt.Instr) (fun B=>aa (α:=Bool) (fun x=>(b.length<=4611686018427387904->if(decide (2 < (b.length:Int)))=true then(((0:Int)<=1/\1<b.length)/\x (decide ((b.getD 1 default)=[61])))else(x false))) (fun v4=>if v4=true then(((0:Int)<=0/\0<b.length)/\True/\exQ (cG (b.getD 0 default)) (fun z5=>(0:Int)<=2/\(2<=b.length/\b.length<=b.length)/\B (((b.drop 2).take (b.length - 2)),(Lt.Instr.mk 0 z5 ([]:List UInt8) [] [] []))) (fun v=>KP v a))else(B (b,(Lt.Instr.mk 0 ([]:List UInt8) ([]:List UInt8) [] [] []))))) (fun f=>have e:=Lt.yOp (f.1.getD 0 default);have z3:=(f.1.drop 1).take (f.1.length - 1);have h:=(z3.drop 0).take (1 - 0);((0:Int)<=0/\0<f.1.length)/\if(!(e.2))=true then(KP (Lt.flt 3) a)else(if(!(((Lt.Of (e.1)).1).Dst==(!decide (f.2.Dst=([]:List UInt8)))))=true then(KP (Lt.flt 3) a)else((0:Int)<=1/\(1<=f.1.length/\f.1.length<=f.1.length)/\aa (α:=Lt.Instr) (fun t=>aa (α:=Bool) (fun z=>if(decide (e.1=26))=true then(z true)else(z (decide (e.1=27)))) (fun v9=>if v9=true then((z3.length<=4611686018427387904->if(!(decide (2<=(z3.length:Int))))=true then(KP (Lt.flt 3) a)else(((0:Int)<=1/\1<z3.length)/\True/\exQ (cG (z3.getD 1 default)) (fun u=>(0:Int)<=1/\(0<=1/\1<=z3.length)/\(0:Int)<=2/\(2<=z3.length/\z3.length<=z3.length)/\(h.length<=4611686018427387904->ab (α:=List Lt.Arg×Int) (fun w c=>if(decide (c.2 < (h.length:Int)))=true then(((0:Int)<=c.2/\c.2.toNat<h.length)/\True/\exQ (Bv (h.getD c.2.toNat default) false) (fun j=>(c.1.length+([j]:List Lt.Arg).length<=4611686018427387904/\(c.1.length+([j]:List Lt.Arg).length)*32<=140737488355328)/\w ((c.1++([j]:List Lt.Arg)),(i64.wrap (c.2+1)))) (fun v=>KP v a))else((kG ((z3.drop 2).take (z3.length - 2)) false)/\exQ (rF ((z3.drop 2).take (z3.length - 2)) false) (fun k=>(c.1.length+k.length<=4611686018427387904/\(c.1.length+k.length)*32<=140737488355328)/\t (Lt.Instr.mk (e.1) f.2.Dst u (c.1++k) [] [])) (fun v=>KP v a))) ([],0))) (fun v=>KP v a))))else(if(((Lt.Of (e.1)).1).Named)=true then((z3.length<=4611686018427387904->if(!(decide (1<=(z3.length:Int))))=true then(KP (Lt.flt 3) a)else(((0:Int)<=0/\0<z3.length)/\True/\exQ (cG (z3.getD 0 default)) (fun s=>(0:Int)<=1/\(1<=z3.length/\z3.length<=z3.length)/\(kG ((z3.drop 1).take (z3.length - 1)) false)/\exQ (rF ((z3.drop 1).take (z3.length - 1)) false) (fun q=>t (Lt.Instr.mk (e.1) f.2.Dst s q [] [])) (fun v=>KP v a)) (fun v=>KP v a))))else((kG z3 false)/\exQ (rF z3 false) (fun o=>t (Lt.Instr.mk (e.1) f.2.Dst f.2.Name o [] [])) (fun v=>KP v a))))) (fun m=>have z9:=([(Lt.Instr.mk m.Op m.Dst m.Name m.Args [] [])]:List Lt.Instr);(m.Args.length<=4611686018427387904->if(decide (((Lt.Of (e.1)).1).Least<=(m.Args.length:Int)))=true then(if(!(decide ((m.Args.length:Int)<=((Lt.Of (e.1)).1).Most)))=true then(KP (Lt.flt 3) a)else(if(decide (1024<=a.long))=true then(KP (Lt.flt 2) a)else((a.p.Funcs.length<=4611686018427387904->((0:Int)<=l/\l < ((a.p.Funcs.length:Nat):Int))/\((g.Blocks).length<=4611686018427387904->((0:Int)<=z4/\z4 < (((g.Blocks).length:Nat):Int))/\aa (α:=Lt.Reader) (fun r=>have y:=(((i.Code).length+z9.length<=4611686018427387904/\((i.Code).length+z9.length)*112<=140737488355328)/\l.toNat<a.p.Funcs.length/\z4.toNat < (g.Blocks).length/\l.toNat=l.toNat/\z4.toNat=z4.toNat/\r (Lt.Reader.mk (Lt.Program.mk a.p.SSA a.p.Classes a.p.Globals a.p.Externs (a.p.Funcs.set l.toNat (Lt.Func.mk (g.Name) (g.Result) (g.Params) (g.Vars) ((g.Blocks).set z4.toNat (Lt.Block.mk (i.Name) (i.Phis) ((i.Code)++z9) (Lt.Term.mk ((i.End).Kind) ((i.End).A) ((i.End).To) ((i.End).N))))))) a.at_ a.where_ a.first (i64.wrap (a.long+1))));y/\y) (fun d=>aa (α:=Bool) (fun n=>if(decide (e.1=31))=true then(n true)else(n (decide (e.1=34)))) (fun v21=>if v21=true then(KK ((),(Lt.Reader.mk d.p d.at_ 6 d.first d.long)))else(KK ((),(Lt.Reader.mk d.p d.at_ 5 d.first d.long))))))))))else(KP (Lt.flt 3) a)))))))
def Gp(a:Lt.Reader)(c:List (List UInt8))(KK:((Unit)×Lt.Reader)->Prop)(KP:Value->Lt.Reader->Prop):Prop:=
 have z24:=q0 (c.getD 3 default) 0 1024;have f:=(i64.wrap ((a.p.Funcs.length:Int) - 1));have e:=(a.p.Funcs.getD f.toNat default);have z21:=(i64.wrap (((e.Blocks).length:Int) - 1));have h:=((e.Blocks).getD z21.toNat default);have g:=(i64.wrap (((h.Code).length:Int) - 1));have d:=((h.Code).getD g.toNat default);if(!(ir [6] a.where_))=true then(KP (Lt.flt 3) a)else((c.length<=4611686018427387904->if(decide (4<=(c.length:Int)))=true then((2:Int)≠0/\if(!(decide ((Int.tmod (c.length:Int) 2)=0)))=true then(KP (Lt.flt 3) a)else(aa (α:=Lt.Frame) (fun m=>((0:Int)<=1/\1<c.length)/\((0:Int)<=2/\2<c.length)/\((0:Int)<=3/\3<c.length)/\(True/\exQ (cG (c.getD 1 default)) (fun w=>(True/\exQ (cG (c.getD 2 default)) (fun z9=>(True/\exQ z24 (fun q=>m (Lt.Frame.mk w z9 q [])) (fun v=>KP v a))/\(True/\exQ z24 (fun r=>m (Lt.Frame.mk w z9 r [])) (fun v=>KP v a))) (fun v=>KP v a))/\(True/\exQ (cG (c.getD 2 default)) (fun B=>True/\exQ z24 (fun z=>m (Lt.Frame.mk w B z [])) (fun v=>KP v a)) (fun v=>KP v a))) (fun v=>KP v a))/\(True/\exQ (cG (c.getD 1 default)) (fun z3=>True/\exQ (cG (c.getD 2 default)) (fun z4=>True/\exQ z24 (fun z5=>m (Lt.Frame.mk z3 z4 z5 [])) (fun v=>KP v a)) (fun v=>KP v a)) (fun v=>KP v a))) (fun x=>ab (α:=Int×Lt.Frame) (fun n b=>have z23:=Bv (c.getD (i64.wrap (b.1+1)).toNat default) true;have y:=(((d.Frames).length+([b.2]:List Lt.Frame).length<=4611686018427387904/\((d.Frames).length+([b.2]:List Lt.Frame).length)*64<=140737488355328)/\f.toNat<a.p.Funcs.length/\z21.toNat < (e.Blocks).length/\g.toNat < (h.Code).length/\f.toNat=f.toNat/\z21.toNat=z21.toNat/\g.toNat=g.toNat/\KK ((),(Lt.Reader.mk (Lt.Program.mk a.p.SSA a.p.Classes a.p.Globals a.p.Externs (a.p.Funcs.set f.toNat (Lt.Func.mk (e.Name) (e.Result) (e.Params) (e.Vars) ((e.Blocks).set z21.toNat (Lt.Block.mk (h.Name) (h.Phis) ((h.Code).set g.toNat (Lt.Instr.mk (d.Op) (d.Dst) (d.Name) (d.Args) ((d.Frames)++([b.2]:List Lt.Frame)) (d.Objs))) (Lt.Term.mk ((h.End).Kind) ((h.End).A) ((h.End).To) ((h.End).N))))))) a.at_ a.where_ a.first a.long)));(c.length<=4611686018427387904->if(decide (b.1 < (c.length:Int)))=true then(aa (α:=Lt.Frame) (fun j=>((0:Int)<=b.1/\b.1.toNat<c.length)/\((0:Int)<=(i64.wrap (b.1+1))/\(i64.wrap (b.1+1)).toNat<c.length)/\(True/\exQ (cG (c.getD b.1.toNat default)) (fun s=>True/\exQ z23 (fun z20=>have i:=([(Lt.Bind.mk s z20)]:List Lt.Bind);(b.2.Vars.length+i.length<=4611686018427387904/\(b.2.Vars.length+i.length)*48<=140737488355328)/\j (Lt.Frame.mk b.2.Func b.2.Block b.2.At (b.2.Vars++i))) (fun v=>KP v a)) (fun v=>KP v a))/\(True/\exQ (cG (c.getD b.1.toNat default)) (fun k=>(True/\exQ z23 (fun t=>have z26:=([(Lt.Bind.mk k t)]:List Lt.Bind);(b.2.Vars.length+z26.length<=4611686018427387904/\(b.2.Vars.length+z26.length)*48<=140737488355328)/\j (Lt.Frame.mk b.2.Func b.2.Block b.2.At (b.2.Vars++z26))) (fun v=>KP v a))/\(True/\exQ z23 (fun o=>have z27:=([(Lt.Bind.mk k o)]:List Lt.Bind);have l:=((b.2.Vars.length+z27.length<=4611686018427387904/\(b.2.Vars.length+z27.length)*48<=140737488355328)/\j (Lt.Frame.mk b.2.Func b.2.Block b.2.At (b.2.Vars++z27)));l/\l) (fun v=>KP v a))) (fun v=>KP v a))) (fun u=>n ((i64.wrap (b.1+2)),u)))else((b.2.Vars.length<=4611686018427387904->if(decide (16<=(i64.wrap ((b.2.Vars.length:Int) - 1))))=true then(KP (Lt.flt 2) a)else((a.p.Funcs.length<=4611686018427387904->((0:Int)<=f/\f < ((a.p.Funcs.length:Nat):Int))/\((e.Blocks).length<=4611686018427387904->((0:Int)<=z21/\z21 < (((e.Blocks).length:Nat):Int))/\((h.Code).length<=4611686018427387904->((0:Int)<=g/\g < (((h.Code).length:Nat):Int))/\((d.Frames).length<=4611686018427387904->if(decide (16<=((d.Frames).length:Int)))=true then(KP (Lt.flt 2) a)else(y/\y)))))))))) (4,(Lt.Frame.mk x.Func x.Block x.At [])))))else(KP (Lt.flt 3) a)))
def CE(a:Lt.Reader)(b:List (List UInt8))(KK:((Unit)×Lt.Reader)->Prop)(KP:Value->Lt.Reader->Prop):Prop:=
 have f:=(b.drop 2).take (b.length - 2);have c:=(i64.wrap ((a.p.Funcs.length:Int) - 1));have h:=(a.p.Funcs.getD c.toNat default);have d:=(i64.wrap (((h.Blocks).length:Int) - 1));have g:=((h.Blocks).getD d.toNat default);have e:=(i64.wrap (((g.Code).length:Int) - 1));have z9:=((g.Code).getD e.toNat default);if(!(ir [6,7] a.where_))=true then(KP (Lt.flt 3) a)else((b.length<=4611686018427387904->if(decide (2<=(b.length:Int)))=true then(if(!(decide ((b.length:Int)<=10)))=true then(KP (Lt.flt 3) a)else(aa (α:=Lt.Virt) (fun j=>((0:Int)<=1/\1<b.length)/\(0:Int)<=2/\(2<=b.length/\b.length<=b.length)/\(True/\exQ (cG (b.getD 1 default)) (fun z5=>((kG f true)/\exQ (rF f true) (fun m=>j (Lt.Virt.mk z5 m)) (fun v=>KP v a))/\((kG f true)/\exQ (rF f true) (fun l=>j (Lt.Virt.mk z5 l)) (fun v=>KP v a))) (fun v=>KP v a))/\(True/\exQ (cG (b.getD 1 default)) (fun z3=>(kG f true)/\exQ (rF f true) (fun z4=>j (Lt.Virt.mk z3 z4)) (fun v=>KP v a)) (fun v=>KP v a))) (fun i=>(a.p.Funcs.length<=4611686018427387904->((0:Int)<=c/\c < ((a.p.Funcs.length:Nat):Int))/\((h.Blocks).length<=4611686018427387904->((0:Int)<=d/\d < (((h.Blocks).length:Nat):Int))/\((g.Code).length<=4611686018427387904->((0:Int)<=e/\e < (((g.Code).length:Nat):Int))/\((z9.Objs).length<=4611686018427387904->if(decide (99<=((z9.Objs).length:Int)))=true then(KP (Lt.flt 2) a)else(aa (α:=Lt.Reader) (fun n=>have k:=(((z9.Objs).length+([i]:List Lt.Virt).length<=4611686018427387904/\((z9.Objs).length+([i]:List Lt.Virt).length)*40<=140737488355328)/\c.toNat<a.p.Funcs.length/\d.toNat < (h.Blocks).length/\e.toNat < (g.Code).length/\c.toNat=c.toNat/\d.toNat=d.toNat/\e.toNat=e.toNat/\n (Lt.Reader.mk (Lt.Program.mk a.p.SSA a.p.Classes a.p.Globals a.p.Externs (a.p.Funcs.set c.toNat (Lt.Func.mk (h.Name) (h.Result) (h.Params) (h.Vars) ((h.Blocks).set d.toNat (Lt.Block.mk (g.Name) (g.Phis) ((g.Code).set e.toNat (Lt.Instr.mk (z9.Op) (z9.Dst) (z9.Name) (z9.Args) (z9.Frames) ((z9.Objs)++([i]:List Lt.Virt)))) (Lt.Term.mk ((g.End).Kind) ((g.End).A) ((g.End).To) ((g.End).N))))))) a.at_ a.where_ a.first a.long));k/\k) (fun v9=>KK ((),(Lt.Reader.mk v9.p v9.at_ 7 v9.first v9.long)))))))))))else(KP (Lt.flt 3) a)))
def TP(a:Lt.Reader)(b:List (List UInt8))(KK:((Unit)×Lt.Reader)->Prop)(KP:Value->Lt.Reader->Prop):Prop:=
 have e:=(!(decide ((b.length:Int)=2)));have d:=((0:Int)<=1/\1<b.length);have z9:=(i64.wrap ((a.p.Funcs.length:Int) - 1));have c:=(a.p.Funcs.getD z9.toNat default);have g:=(i64.wrap (((c.Blocks).length:Int) - 1));have f:=(c.Blocks).getD g.toNat default;if(!(ir [4,5,6,7] a.where_))=true then(KP (Lt.flt 3) a)else(aa (α:=Lt.Term) (fun h=>((0:Int)<=0/\0<b.length)/\if(decide ((b.getD 0 default)=[106,117,109,112]))=true then((b.length<=4611686018427387904->if e=true then(KP (Lt.flt 3) a)else(d/\True/\exQ (cG (b.getD 1 default)) (fun z3=>h (Lt.Term.mk 1 (Lt.Arg.mk 0 ([]:List UInt8) 0) [z3] 0)) (fun v=>KP v a))))else(if(decide ((b.getD 0 default)=[98,114,97,110,99,104]))=true then((b.length<=4611686018427387904->if(!(decide ((b.length:Int)=4)))=true then(KP (Lt.flt 3) a)else(d/\((0:Int)<=2/\2<b.length)/\((0:Int)<=3/\3<b.length)/\True/\exQ (Bv (b.getD 1 default) false) (fun z4=>True/\exQ (cG (b.getD 2 default)) (fun z5=>True/\exQ (cG (b.getD 3 default)) (fun j=>h (Lt.Term.mk 2 z4 [z5,j] 0)) (fun v=>KP v a)) (fun v=>KP v a)) (fun v=>KP v a))))else(if(decide ((b.getD 0 default)=[114,101,116]))=true then((b.length<=4611686018427387904->if e=true then(KP (Lt.flt 3) a)else(d/\True/\exQ (Bv (b.getD 1 default) false) (fun k=>h (Lt.Term.mk 3 k [] 0)) (fun v=>KP v a))))else((b.length<=4611686018427387904->if e=true then(KP (Lt.flt 3) a)else(d/\if(!((eM (b.getD 1 default)).2))=true then(KP (Lt.flt 3) a)else(h (Lt.Term.mk 4 (Lt.Arg.mk 0 ([]:List UInt8) 0) [] ((eM (b.getD 1 default)).1))))))))) (fun l=>aa (α:=Lt.Reader) (fun m=>have i:=((a.p.Funcs.length<=4611686018427387904->((0:Int)<=z9/\z9 < ((a.p.Funcs.length:Nat):Int))/\((c.Blocks).length<=4611686018427387904->((0:Int)<=g/\g < (((c.Blocks).length:Nat):Int))/\z9.toNat<a.p.Funcs.length/\g.toNat < (c.Blocks).length/\m (Lt.Reader.mk (Lt.Program.mk a.p.SSA a.p.Classes a.p.Globals a.p.Externs (a.p.Funcs.set z9.toNat (Lt.Func.mk (c.Name) (c.Result) (c.Params) (c.Vars) ((c.Blocks).set g.toNat (Lt.Block.mk (f.Name) (f.Phis) (f.Code) l))))) a.at_ a.where_ a.first a.long))));i/\i) (fun v9=>KK ((),(Lt.Reader.mk v9.p v9.at_ 0 v9.first v9.long)))))
def yGo(r:Lt.Reader)(l:List (List UInt8))(KK:((Unit)×Lt.Reader)->Prop)(KP:Value->Lt.Reader->Prop)(X:Except Value Unit×Lt.Reader):Prop:=
 (r.p.Classes.length<=4611686018427387904->(r.p.Globals.length<=4611686018427387904->(r.p.Externs.length<=4611686018427387904->bz r l/\exP X (fun _ x=>aa (α:=Lt.Reader) (fun a=>(x.p.Classes.length<=4611686018427387904->(x.p.Globals.length<=4611686018427387904->(x.p.Externs.length<=4611686018427387904->if(decide ((i64.wrap ((i64.wrap ((r.p.Classes.length:Int)+(r.p.Globals.length:Int)))+(r.p.Externs.length:Int))) < (i64.wrap ((i64.wrap ((x.p.Classes.length:Int)+(x.p.Globals.length:Int)))+(x.p.Externs.length:Int)))))=true then(a (Lt.Reader.mk x.p x.at_ x.where_ x.first (-1)))else(a x))))) (fun v=>KK ((),(Lt.Reader.mk v.p v.at_ v.where_ false v.long)))) (fun v x=>KP v x))))
def oo(r:Lt.Reader)(l:List (List UInt8))(KK:((Unit)×Lt.Reader)->Prop)(KP:Value->Lt.Reader->Prop)(X:Except Value Unit×Lt.Reader):Prop:=
 aa (α:=Bool) (fun a=>(l.length<=4611686018427387904->if(decide (2 < (l.length:Int)))=true then(((0:Int)<=1/\1<l.length)/\a (decide ((l.getD 1 default)=[61])))else(a false))) (fun b=>if b=true then yGo r l KK KP (xF r l)else yGo r l KK KP X)
def Oq(r:Lt.Reader)(l:List (List UInt8))(KK:((Unit)×Lt.Reader)->Prop)(KP:Value->Lt.Reader->Prop):Prop:=
 ((0:Int)<=0/\0<l.length)/\if decide ((l.getD 0 default)=[115,115,97])=true then oo r l KK KP (Z3 r l)else if decide ((l.getD 0 default)=[99,108,97,115,115])=true then oo r l KK KP (FB r l)else if decide ((l.getD 0 default)=[102,105,101,108,100])=true then oo r l KK KP (FE r l)else if decide ((l.getD 0 default)=[103,108,111,98,97,108])=true then oo r l KK KP (yr r l)else if decide ((l.getD 0 default)=[101,120,116,101,114,110])=true then oo r l KK KP (yq r l)else if decide ((l.getD 0 default)=[102,117,110,99])=true then oo r l KK KP (qZ r l)else if decide ((l.getD 0 default)=[112,97,114,97,109])=true then oo r l KK KP (FG r l)else if decide ((l.getD 0 default)=[118,97,114])=true then oo r l KK KP (q8 r l)else if decide ((l.getD 0 default)=[98,108,111,99,107])=true then oo r l KK KP (FI r l)else if decide ((l.getD 0 default)=[112,104,105])=true then oo r l KK KP (Z2 r l)else if decide ((l.getD 0 default)=[97,116])=true then oo r l KK KP (FF r l)else if decide ((l.getD 0 default)=[111,98,106])=true then oo r l KK KP (q7 r l)else if decide ((l.getD 0 default)=[106,117,109,112])=true then oo r l KK KP (FC r l)else if decide ((l.getD 0 default)=[98,114,97,110,99,104])=true then oo r l KK KP (FC r l)else if decide ((l.getD 0 default)=[114,101,116])=true then oo r l KK KP (FC r l)else if decide ((l.getD 0 default)=[116,114,97,112])=true then oo r l KK KP (FC r l)else oo r l KK KP (xF r l)
def yO(a:List UInt8)(KK:(Lt.Program×Int×Int)->Prop):Prop:=
 have b:=Lt.Program.mk false [] [] [] [];if(!decide ((fN a).2.2=0))=true then(aa (α:=Lt.Program×Int×Int) (fun h=>have g:=(h (b,(fN a).2.1,(fN a).2.2))/\(h (b,(fN a).2.1,(fN a).2.2));((h (b,(fN a).2.1,(fN a).2.2))/\g)/\g/\g) (fun f=>KK ((Lt.Program.mk f.1.SSA [] [] [] []),f.2.1,f.2.2)))else((((fN a).1).length<=4611686018427387904->ab (α:=Int×Lt.Reader) (fun i v4=>have z3:=((fN a).1).getD v4.1.toNat default;if(decide (v4.1 < (((fN a).1).length:Int)))=true then(((0:Int)<=v4.1/\v4.1.toNat < ((fN a).1).length)/\(bz (Lt.Reader.mk v4.2.p (z3.N) v4.2.where_ v4.2.first v4.2.long) (z3.Words))/\exP (Bw (Lt.Reader.mk v4.2.p (z3.N) v4.2.where_ v4.2.first v4.2.long) (z3.Words)) (fun z5 d=>i ((i64.wrap (v4.1+1)),d)) (fun v d=>∃e:Int,v=Lt.flt e/\(Lit.int .i64 e).wf=true/\((KK (b,d.at_,e))/\((KK (b,d.at_,e))/\(KK (b,d.at_,e))))))else(if(!(ir [0,1] v4.2.where_))=true then(∃c:Int,(Lt.flt 3)=Lt.flt c/\(Lit.int .i64 c).wf=true/\((KK (b,0,c))/\((KK (b,0,c))/\(KK (b,0,c)))))else(KK (v4.2.p,0,0)))) (0,(Lt.Reader.mk b 0 0 true (-1)))))
def yJ(a:List Lt.Var)(b:List Lt.Var)(KK:Bool->Prop):Prop:=
 (a.length<=4611686018427387904->(b.length<=4611686018427387904->if(!decide ((a.length:Int)=(b.length:Int)))=true then(KK false)else(ab (α:=Int) (fun d c=>(a.length<=4611686018427387904->if(decide (c < (a.length:Int)))=true then(((0:Int)<=c/\c.toNat<a.length)/\((0:Int)<=c/\c.toNat<b.length)/\if(!(decide ((a.getD c.toNat default).Name=(b.getD c.toNat default).Name)&&decide ((a.getD c.toNat default).Type_=(b.getD c.toNat default).Type_)))=true then(KK false)else(d (i64.wrap (c+1))))else(KK true))) 0)))
def yI(a:List Lt.Arg)(b:List Lt.Arg)(KK:Bool->Prop):Prop:=
 (a.length<=4611686018427387904->(b.length<=4611686018427387904->if(!decide ((a.length:Int)=(b.length:Int)))=true then(KK false)else(ab (α:=Int) (fun d c=>(a.length<=4611686018427387904->if(decide (c < (a.length:Int)))=true then(((0:Int)<=c/\c.toNat<a.length)/\((0:Int)<=c/\c.toNat<b.length)/\if(!(decide ((a.getD c.toNat default).Kind=(b.getD c.toNat default).Kind)&&(decide ((a.getD c.toNat default).S=(b.getD c.toNat default).S)&&decide ((a.getD c.toNat default).N=(b.getD c.toNat default).N))))=true then(KK false)else(d (i64.wrap (c+1))))else(KK true))) 0)))
def wH(a:Lt.Instr)(b:Lt.Instr)(KK:Bool->Prop):Prop:=
 aa (α:=Bool) (fun g=>if(!decide (a.Op=b.Op))=true then(g true)else(if(!decide (a.Dst=b.Dst))=true then(g true)else(if(!decide (a.Name=b.Name))=true then(g true)else(if(!(pI a.Args b.Args))=true then(g true)else(if(!decide ((a.Frames.length:Int)=(b.Frames.length:Int)))=true then(g true)else(g (!decide ((a.Objs.length:Int)=(b.Objs.length:Int))))))))) (fun n=>if n=true then(KK false)else(ab (α:=Int) (fun l v4=>have f:=b.Frames.getD v4.toNat default;have d:=a.Frames.getD v4.toNat default;(a.Frames.length<=4611686018427387904->if(decide (v4 < (a.Frames.length:Int)))=true then(((0:Int)<=v4/\v4.toNat<a.Frames.length)/\((0:Int)<=v4/\v4.toNat<b.Frames.length)/\aa (α:=Bool) (fun i=>if(!decide (d.Func=f.Func))=true then(i true)else(if(!decide (d.Block=f.Block))=true then(i true)else(if(!decide (d.At=f.At))=true then(i true)else(i (!decide (((d.Vars).length:Int)=((f.Vars).length:Int))))))) (fun k=>if k=true then(KK false)else(ab (α:=Int) (fun o e=>have z4:=(f.Vars).getD e.toNat default;have z3:=(d.Vars).getD e.toNat default;((d.Vars).length<=4611686018427387904->if(decide (e < ((d.Vars).length:Int)))=true then(((0:Int)<=e/\e.toNat < (d.Vars).length)/\((0:Int)<=e/\e.toNat < (f.Vars).length)/\if(!(decide (z3.Name=z4.Name)&&(decide ((z3.A).Kind=(z4.A).Kind)&&(decide ((z3.A).S=(z4.A).S)&&decide ((z3.A).N=(z4.A).N)))))=true then(KK false)else(o (i64.wrap (e+1))))else(l (i64.wrap (v4+1))))) 0)))else(ab (α:=Int) (fun m c=>(a.Objs.length<=4611686018427387904->if(decide (c < (a.Objs.length:Int)))=true then(aa (α:=Bool) (fun h=>((0:Int)<=c/\c.toNat<a.Objs.length)/\((0:Int)<=c/\c.toNat<b.Objs.length)/\if(!decide ((a.Objs.getD c.toNat default).Class=(b.Objs.getD c.toNat default).Class))=true then(h true)else(((0:Int)<=c/\c.toNat<a.Objs.length)/\((0:Int)<=c/\c.toNat<b.Objs.length)/\h (!(pI ((a.Objs.getD c.toNat default).Vals) ((b.Objs.getD c.toNat default).Vals))))) (fun j=>if j=true then(KK false)else(m (i64.wrap (c+1)))))else(KK true))) 0))) 0))
def wK(a:Lt.Block)(b:Lt.Block)(KK:Bool->Prop):Prop:=
 aa (α:=Bool) (fun f=>if(!decide (a.Name=b.Name))=true then(f true)else(if(!decide ((a.Phis.length:Int)=(b.Phis.length:Int)))=true then(f true)else(if(!decide ((a.Code.length:Int)=(b.Code.length:Int)))=true then(f true)else(if(!decide (a.End.Kind=b.End.Kind))=true then(f true)else(if(!(decide (a.End.A.Kind=b.End.A.Kind)&&(decide (a.End.A.S=b.End.A.S)&&decide (a.End.A.N=b.End.A.N))))=true then(f true)else(if(!decide (a.End.N=b.End.N))=true then(f true)else(f (!decide ((a.End.To.length:Int)=(b.End.To.length:Int)))))))))) (fun o=>if o=true then(KK false)else(ab (α:=Int) (fun l v4=>(a.End.To.length<=4611686018427387904->if(decide (v4 < (a.End.To.length:Int)))=true then(((0:Int)<=v4/\v4.toNat<a.End.To.length)/\((0:Int)<=v4/\v4.toNat<b.End.To.length)/\if(!decide ((a.End.To.getD v4.toNat default)=(b.End.To.getD v4.toNat default)))=true then(KK false)else(l (i64.wrap (v4+1))))else(ab (α:=Int) (fun n e=>have z5:=((0:Int)<=e/\e.toNat<b.Phis.length);have z4:=b.Phis.getD e.toNat default;have z3:=((0:Int)<=e/\e.toNat<a.Phis.length);have g:=(a.Phis.getD e.toNat default).Ins;(a.Phis.length<=4611686018427387904->if(decide (e < (a.Phis.length:Int)))=true then(aa (α:=Bool) (fun k=>z3/\z5/\if(!decide ((a.Phis.getD e.toNat default).Dst=z4.Dst))=true then(k true)else(z3/\z5/\k (!decide ((g.length:Int)=((z4.Ins).length:Int))))) (fun p=>if p=true then(KK false)else(ab (α:=Int) (fun m d=>have i:=g.getD d.toNat default;have h:=(z4.Ins).getD d.toNat default;z3/\(g.length<=4611686018427387904->if(decide (d < (g.length:Int)))=true then(z3/\((0:Int)<=d/\d.toNat<g.length)/\z5/\((0:Int)<=d/\d.toNat < (z4.Ins).length)/\if(!(decide (i.Block=h.Block)&&(decide ((i.A).Kind=(h.A).Kind)&&(decide ((i.A).S=(h.A).S)&&decide ((i.A).N=(h.A).N)))))=true then(KK false)else(m (i64.wrap (d+1))))else(n (i64.wrap (e+1))))) 0)))else(ab (α:=Int) (fun j c=>(a.Code.length<=4611686018427387904->if(decide (c < (a.Code.length:Int)))=true then(((0:Int)<=c/\c.toNat<a.Code.length)/\((0:Int)<=c/\c.toNat<b.Code.length)/\if(!(p9 (a.Code.getD c.toNat default) (b.Code.getD c.toNat default)))=true then(KK false)else(j (i64.wrap (c+1))))else(KK true))) 0))) 0))) 0))
def yE(a:Lt.Func)(b:Lt.Func)(KK:Bool->Prop):Prop:=
 aa (α:=Bool) (fun e=>if(!decide (a.Name=b.Name))=true then(e true)else(if(!decide (a.Result=b.Result))=true then(e true)else(if(!(jp a.Params b.Params))=true then(e true)else(if(!(jp a.Vars b.Vars))=true then(e true)else(e (!decide ((a.Blocks.length:Int)=(b.Blocks.length:Int)))))))) (fun g=>if g=true then(KK false)else(ab (α:=Int) (fun f v4=>have d:=b.Blocks.getD v4.toNat default;have c:=a.Blocks.getD v4.toNat default;(a.Blocks.length<=4611686018427387904->if(decide (v4 < (a.Blocks.length:Int)))=true then(((0:Int)<=v4/\v4.toNat<a.Blocks.length)/\((0:Int)<=v4/\v4.toNat<b.Blocks.length)/\if(!(qS (Lt.Block.mk (c.Name) (c.Phis) (c.Code) (Lt.Term.mk ((c.End).Kind) ((c.End).A) ((c.End).To) ((c.End).N))) (Lt.Block.mk (d.Name) (d.Phis) (d.Code) (Lt.Term.mk ((d.End).Kind) ((d.End).A) ((d.End).To) ((d.End).N)))))=true then(KK false)else(f (i64.wrap (v4+1))))else(KK true))) 0))
def Ty(a:Lt.Program)(b:Lt.Program)(KK:Bool->Prop):Prop:=
 aa (α:=Bool) (fun e=>if(!(a.SSA==b.SSA))=true then(e true)else(if(!decide ((a.Classes.length:Int)=(b.Classes.length:Int)))=true then(e true)else(if(!(jp a.Globals b.Globals))=true then(e true)else(if(!decide ((a.Externs.length:Int)=(b.Externs.length:Int)))=true then(e true)else(e (!decide ((a.Funcs.length:Int)=(b.Funcs.length:Int)))))))) (fun j=>if j=true then(KK false)else(ab (α:=Int) (fun h v4=>(a.Classes.length<=4611686018427387904->if(decide (v4 < (a.Classes.length:Int)))=true then(aa (α:=Bool) (fun f=>((0:Int)<=v4/\v4.toNat<a.Classes.length)/\((0:Int)<=v4/\v4.toNat<b.Classes.length)/\if(!decide ((a.Classes.getD v4.toNat default).Name=(b.Classes.getD v4.toNat default).Name))=true then(f true)else(((0:Int)<=v4/\v4.toNat<a.Classes.length)/\((0:Int)<=v4/\v4.toNat<b.Classes.length)/\f (!(jp ((a.Classes.getD v4.toNat default).Fields) ((b.Classes.getD v4.toNat default).Fields))))) (fun g=>if g=true then(KK false)else(h (i64.wrap (v4+1)))))else(ab (α:=Int) (fun k d=>(a.Externs.length<=4611686018427387904->if(decide (d < (a.Externs.length:Int)))=true then(((0:Int)<=d/\d.toNat<a.Externs.length)/\((0:Int)<=d/\d.toNat<b.Externs.length)/\if(!(decide ((a.Externs.getD d.toNat default).Name=(b.Externs.getD d.toNat default).Name)&&decide ((a.Externs.getD d.toNat default).N=(b.Externs.getD d.toNat default).N)))=true then(KK false)else(k (i64.wrap (d+1))))else(ab (α:=Int) (fun i c=>(a.Funcs.length<=4611686018427387904->if(decide (c < (a.Funcs.length:Int)))=true then(((0:Int)<=c/\c.toNat<a.Funcs.length)/\((0:Int)<=c/\c.toNat<b.Funcs.length)/\if(!(tg (a.Funcs.getD c.toNat default) (b.Funcs.getD c.toNat default)))=true then(KK false)else(i (i64.wrap (c+1))))else(KK true))) 0))) 0))) 0))
end Go.Am
end

section
namespace Go.Am
open Go
open Lt (nmB toB Gd Rc)
def ac3(f:Lt.Func)(l:List Bool):Prop:=l.length=f.Blocks.length/\∀k,l.getD k false=true->Rc f.Blocks k
theorem ac3.set{f:Lt.Func}{l:List Bool}(h:ac3 f l){k:Nat}(hk:k<f.Blocks.length)(hr:Rc f.Blocks k):ac3 f (l.set k true):=by
 refine⟨by rw[ahO];exact h.1,fun j hj=>?_⟩;rw[fB (by rw[h.1];exact hk)]at hj;have:=h.2 j
 grind
end Go.Am
end

section
namespace Go.Am
open Go
open Lt (nmB toB Gd Rc bkB phB fl Bare)
def QU(KK:List (List UInt8)->Prop)(out:List (List UInt8))(r:List Lt.Arg):Prop:=out.length+r.length<=1000000/\∀y,(∀v,v∈y ↔ v∈out\/∃a∈r,a.Kind=1/\a.S=v)->KK y
theorem QU.step{KK:List (List UInt8)->Prop}{out y:List (List UInt8)}{a:Lt.Arg}{r:List Lt.Arg}(h:QU KK out (a::r))(hy:Zv out a y):QU KK y r:=by
 obtain⟨h1,h2⟩:=h;obtain⟨h3,h4⟩:=hy;refine⟨by grind,fun z hz=>h2 z fun v=>?_⟩
 grind
end Go.Am
end

section
namespace Go.Am
open Go
open Lt (nmB toB Gd Rc bkB phB fl Bare)
def CLv(f:Lt.Func)(v:List UInt8)(o:List Bool)(i:Nat):Prop:=v ∉ fl (bkB f i)->∀k,k<f.Blocks.length->nmB f.Blocks k∈toB f.Blocks i->v ∉ phB f k->o.getD k false=true
structure BI (f:Lt.Func) (v:List UInt8) (l o:List Bool):Prop where
 len:o.length=f.Blocks.length
 sd:∀k,o.getD k false=true->Bare f v k/\v ∉ phB f k
 mono:∀k,l.getD k false=true->o.getD k false=true
 less:o=l\/rZ o<rZ l
 cl:(∀i,i<f.Blocks.length->l.getD i false=true->CLv f v l i)->o=l
theorem SJ{o:List Bool}{k:Nat}(h:o.getD k false=true):o.set k true=o:=by
 refine ag7 fun j=>?_
 grind
theorem BI.set{f:Lt.Func}{v:List UInt8}{l o:List Bool}(h:BI f v l o){i k:Nat}(hi:i<f.Blocks.length)(ho:o.getD i false=true)(hs:v ∉ fl (bkB f i))(hk:k<f.Blocks.length)(he:nmB f.Blocks k∈toB f.Blocks i)(hp:v ∉ phB f k):BI f v l (o.set k true):=by
 have hl:k<o.length:=by grind [len]
 by_cases hc:o.getD k false=true
 ·grind [SJ]
 have hb:=h.sd i ho
 have hct:=tM o k (by grind)
 refine⟨by grind [len],fun j hj=>?_,fun j hj=>?_,?_,fun hcl=>?_⟩
 ·rw[fB hl]at hj;by_cases e:j=k
  ·subst e;exact⟨.next i j hb.1 hb.2 hs hi hk he,hp⟩
  grind [sd]
 ·grind [fB,mono]
 ·rcases h.less with rfl|hlt
  all_goals omega
 ·have e:=h.cl hcl
  subst e;exact absurd (hcl i hi ho hs k hk he hp) hc
end Go.Am
end

section
namespace Go.Am
open Go
theorem iF{n:Nat}(h:n < 10):Lt.digs n=[UInt8.ofNat (48+n)]:=by
 grind [Lt.digs]
theorem oZ{n:Nat}(h:¬ n < 10):Lt.digs n=Lt.digs (n / 10)++[UInt8.ofNat (48+n % 10)]:=by
 grind [Lt.digs]
theorem Iq:∀(k n:Nat),n < 10 ^ (k+1)->(Lt.digs n).length<=k+1
 |0,n,h=>by grind [iF]
 |k+1,n,h=>by
  by_cases a:n < 10
  ·grind [iF]
  rw[oZ a];have:=Iq k (n / 10) kQ1
  grind
variable{n:Int}
theorem gA(h:Lt.inR n):(aB n).length<=20:=by
 unfold Lt.inR at h;have:=Iq 18 n.natAbs kQ1
 grind [aB]
theorem cC{n:Nat}(h:n < 18446744073709551616):IntKind.u64.wrap (n:Int)=(n:Int):=by
 grind [IntKind.wrap,IntKind.signed,IntKind.bits]
variable{α:Type}
theorem OZ(f g:α->List UInt8)(l:List α):(l.flatMap fun b=>[f b,g b]).length=2*l.length:=by
 induction l<;>grind
variable{β:Type}
theorem jV[Inhabited α](f:α->List β)(l:List α){i:Nat}(h:i<l.length):(l.take (i+1)).flatMap f=(l.take i).flatMap f++f (l.getD i default):=by
 grind [bC]
theorem L4(n:Int):(eK n).length=18:=by rfl
theorem XL(op:Int):(Lt.Of op).1.Most<=8:=by
 grind (splits:=20) [Lt.Of]
variable{op:Int}
theorem T0(h:op=26\/op=27):1<=(Lt.Of op).1.Least:=by
 rcases h with rfl|rfl<;>decide
structure InstrOk (i:Lt.Instr):Prop where
 args:i.Args.length<=8
 frames:i.Frames.length<=16
 objs:i.Objs.length<=99
 fr:∀f∈i.Frames,Lt.frame f=true
 ob:∀o∈i.Objs,Lt.virt o=true
 least:i.Op=26\/i.Op=27->1<=i.Args.length
 aok:bE i.Args false=true
 of:(Lt.Of i.Op).2=true
 dst:(Lt.Of i.Op).1.Dst=!decide (i.Dst=[])
 nm:(Lt.Of i.Op).1.Named=!decide (i.Name=[])
 dstN:(Lt.Of i.Op).1.Dst=true->Lt.Name i.Dst=true
 nmN:(Lt.Of i.Op).1.Named=true->Lt.Name i.Name=true
 lo:(Lt.Of i.Op).1.Least<=(i.Args.length:Int)
 hi:(i.Args.length:Int)<=(Lt.Of i.Op).1.Most
 none:i.Op≠31/\i.Op≠34->i.Frames=[]/\i.Objs=[]
variable{i:Lt.Instr}
theorem eD(h:Lt.instr i=true):InstrOk i:=by
 unfold Lt.instr at h;simp only[afZ,decide_eq_true_eq,beq_iff_eq,agS,Bool.and_eq_false_iff]at h;obtain⟨⟨⟨⟨⟨⟨h1,h2⟩,h3⟩,h4⟩,h5⟩,⟨⟨⟨h6,h7⟩,h8⟩,h9⟩,b⟩,c⟩:=h;have d:=XL i.Op
 have a:(∀f∈i.Frames,Lt.frame f=true)/\(∀o∈i.Objs,Lt.virt o=true):=by
  grind
 refine⟨by omega,h9,b,a.1,a.2,fun ho=>?_,h8,h1,h2,h3,fun hd=>?_,fun hd=>?_,h6,h7,fun ho=>?_⟩
 ·have:=T0 ho
  omega
 all_goals grind
theorem pb{f:Lt.Frame}(h:Lt.frame f=true):Lt.Name f.Func=true/\Lt.Name f.Block=true/\0<=f.At/\f.At<=1024/\f.Vars.length<=16/\∀b∈f.Vars,gF b=true:=by
 grind [Lt.frame]
theorem yn{o:Lt.Virt}(h:Lt.virt o=true):Lt.Name o.Class=true/\o.Vals.length<=8/\bE o.Vals true=true:=by
 grind [Lt.virt]
theorem AK{x:Lt.Phi}(h:Lt.phi x=true):Lt.Name x.Dst=true/\x.Ins≠[]/\x.Ins.length<=256/\∀i∈x.Ins,ll i=true:=by
 grind [Lt.phi]
variable{b:Lt.Block}
theorem me(h:Lt.block b=true):Lt.Name b.Name=true/\dp b.End=true/\(∀x∈b.Phis,Lt.phi x=true)/\∀i∈b.Code,Lt.instr i=true:=by
 grind [Lt.block]
def longs(l:List Lt.Block):Nat:=(l.map fun b=>b.Phis.length+b.Code.length).sum
theorem CO:∀(l:List Lt.Block)(n:Nat),n<=1024->Lt.blocks l n=true->n+longs l<=1024/\∀b∈l,Lt.block b=true
 |[],n,hn,_=>⟨by grind [longs],by simp⟩
 |b::r,n,hn,h=>by
  simp only[Lt.blocks,afZ,decide_eq_true_eq]at h;obtain⟨⟨h1,h2⟩,h3⟩:=h;obtain⟨k1,k2⟩:=CO r _ h1 h3
  grind [longs]
structure FuncOk (f:Lt.Func):Prop where
 name:Lt.Name f.Name=true
 res:Lt.kind f.Result=true
 params:Lt.typed f.Params 6=true
 vars:Lt.typed f.Vars 1024=true
 ne:f.Blocks≠[]
 len:f.Blocks.length<=256
 long:longs f.Blocks<=1024
 bl:∀b∈f.Blocks,Lt.block b=true
variable{f:Lt.Func}
theorem nB(h:ay f=true):FuncOk f:=by
 unfold ay at h;simp only[afZ,decide_eq_true_eq,agS,decide_eq_false_iff_not]at h;obtain⟨⟨⟨⟨⟨⟨h1,h2⟩,h3⟩,h4⟩,h5⟩,h6⟩,h7⟩:=h;obtain⟨k1,k2⟩:=CO _ 0 kQ1 h7;exact⟨h1,h2,h3,h4,h5,h6,by omega,k2⟩
structure ProgOk (p:Lt.Program):Prop where
 nc:p.Classes.length<=8
 ne:p.Externs.length<=8
 nf:p.Funcs.length<=8
 glob:Lt.typed p.Globals 8=true
 cl:∀c∈p.Classes,bF c=true
 ex:∀x∈p.Externs,bW x=true
 fn:∀f∈p.Funcs,ay f=true
variable{p:Lt.Program}
theorem qM(h:bB p=true):ProgOk p:=by
 unfold bB at h;simp only[afZ,decide_eq_true_eq,agH]at h;obtain⟨⟨⟨⟨h1,h2⟩,h3⟩,h4⟩,h5,h6,h7⟩:=h;exact⟨h1,h2,h3,h4,h5,h6,h7⟩
variable{a:Lt.Arg}
theorem eH(h:aU a=true):(a.Kind=1/\Lt.Name a.S=true/\a.N=0)\/(a.Kind=2/\a.S=[])\/(a.Kind=3/\a.S=[]/\Lt.Plain a.N=a.N)\/(a.Kind=4/\a.S=[]/\a.N=0)\/(a.Kind=5/\a.S=[]/\0<=a.N/\a.N<=999):=by
 grind (splits:=20) [aU]
theorem SH[Inhabited α][DecidableEq α](a b:List α)(hl:a.length<=LEN)(c:a.length=b.length)(rest:Bool)(KK:Bool->Prop)(body:(Int->Prop)->Int->Prop)
  (hs:∀R i,i<a.length->(a.getD i default=b.getD i default->R (i64.wrap ((i:Int)+1)))->(a.getD i default≠b.getD i default->KK false)->body R (i:Int))
  (he:∀R,KK rest->body R (a.length:Int)) (h:KK (decide (a=b)&&rest)):ab body 0:=by
 refine aO body a.length (fun i x=>x=(i:Int)/\KK (decide (a.drop i=b.drop i)&&rest)) (fun R i x hi hx ih=>?_) (fun R x hx=>?_) _ ⟨rfl,by grind⟩
 all_goals grind [agO,au,LEN,List.cons.injEq]
theorem cF[Inhabited α][DecidableEq α](a b:List α)(c:a.length=b.length)(rest:Bool)(KK:Bool->Prop)(body:(Int->Prop)->Int->Prop)
  (hs:∀R i,a.length<=LEN->i<a.length->(a.getD i default=b.getD i default->R (i64.wrap ((i:Int)+1)))->(a.getD i default≠b.getD i default->KK false)->body R (i:Int))
  (he:∀R,KK rest->body R (a.length:Int)) (h:KK (decide (a=b)&&rest)):ab (fun R v=>a.length<=4611686018427387904->body R v) 0:=by
 by_cases hl:a.length<=LEN
 ·exact SH a b hl c rest KK _ (fun R i hi h1 h2 _=>hs R i hl hi h1 h2) (fun R h _=>he R h) h
 exact⟨1,fun h=>absurd h hl⟩
theorem acI(x y:Lt.Var):(decide (x.Name=y.Name)&&decide (x.Type_=y.Type_))=decide (x=y):=by
 obtain⟨a,b⟩:=x;obtain⟨c,d⟩:=y
 grind
theorem Eu(x y:Lt.Arg):(decide (x.Kind=y.Kind)&&(decide (x.S=y.S)&&decide (x.N=y.N)))=decide (x=y):=by
 obtain⟨a,b,c⟩:=x;obtain⟨d,e,f⟩:=y
 grind
theorem YF(x y:Lt.Bind):(decide (x.Name=y.Name)&&(decide (x.A.Kind=y.A.Kind)&&(decide (x.A.S=y.A.S)&&decide (x.A.N=y.A.N))))=decide (x=y):=by
 rw[Eu];obtain⟨a,b⟩:=x;obtain⟨c,d⟩:=y
 grind
theorem aeT(x y:Lt.In):(decide (x.Block=y.Block)&&(decide (x.A.Kind=y.A.Kind)&&(decide (x.A.S=y.A.S)&&decide (x.A.N=y.A.N))))=decide (x=y):=by
 rw[Eu];obtain⟨a,b⟩:=x;obtain⟨c,d⟩:=y
 grind
theorem Q8(x y:Lt.Extern):(decide (x.Name=y.Name)&&decide (x.N=y.N))=decide (x=y):=by
 obtain⟨a,b⟩:=x;obtain⟨c,d⟩:=y
 grind
theorem ob2{a:List α}{b:List β}{i:Nat}(h:i<a.length)(e:a.length=b.length):(0:Int)<=(i:Int)/\i<b.length:=⟨af9 i,by omega⟩
theorem EM(a b:List Lt.Var)(KK:Bool->Prop)(h:KK (jp a b)):yJ a b KK:=by
 unfold yJ;(try simp only[aq,az,aC,jval,bor,band,bnand,bimp,and_self]);intro _ _;unfold jp at h;refine ifk (fun hc=>kk h (by grind)) (fun hc=>?_);have c:a.length=b.length:=by grind
 refine cF a b c true KK _ (fun R i hl hi ih d=>?_) (fun R h=>?_) (kk h (by simp))
 all_goals grind [acI]
theorem EL(a b:List Lt.Arg)(KK:Bool->Prop)(h:KK (pI a b)):yI a b KK:=by
 unfold yI;(try simp only[aq,az,aC,jval,bor,band,bnand,bimp,and_self]);intro _ _;unfold pI at h;refine ifk (fun hc=>kk h (by grind)) (fun hc=>?_);have c:a.length=b.length:=by grind
 refine cF a b c true KK _ (fun R i hl hi ih d=>?_) (fun R h=>?_) (kk h (by simp))
 all_goals grind [Eu]
theorem BL(a b:Lt.Instr)(KK:Bool->Prop)(h:KK (p9 a b)):wH a b KK:=by
 unfold wH;dsimp only;(try simp only[aq,az,aC,jval,bor,band,bnand,bimp,and_self]);unfold p9 at h;unfold pI;refine ifk (fun hc=>kk h (by grind)) (fun hc=>?_);simp only[ag2,agS,decide_eq_false_iff_not,not_or,agP,decide_eq_true_eq,Classical.not_not]at hc;obtain⟨h1,h2,h3,h4,h5,h6⟩:=hc;have e:decide (a=b)=(decide (a.Frames=b.Frames)&&(decide (a.Objs=b.Objs)&&true)):=by
  obtain⟨w,u,a3,a4,a5,p⟩:=a;obtain⟨b1,b2,t,b4,b5,b6⟩:=b
  grind
 rw[e]at h;have f:a.Frames.length=b.Frames.length:=by omega
 have c:a.Objs.length=b.Objs.length:=by omega
 refine cF a.Frames b.Frames f _ KK _ (fun R i hl hi ih d=>?_) (fun R h=>?_) h
 ·simp only[bP hi,if_true,Int.toNat_natCast]
  try dsimp +instances only [Int.toNat_natCast]
  refine⟨⟨af9 i,hi⟩,ob2 hi f,?_⟩;generalize a.Frames.getD i default=x at ih d⊢;generalize b.Frames.getD i default=y at ih d⊢;refine ifk (fun hc=>d (by grind)) (fun hc=>?_);have g:x.Vars.length=y.Vars.length:=by grind
  refine cF x.Vars y.Vars g true (fun b=>if b=true then R (i64.wrap ((i:Int)+1))else KK false) _ (fun l j hl hj o m=>?_) (fun l h=>?_) ?_
  ·grind [YF]
  ·grind
  refine ifk (fun hv=>ih ?_) (fun hv=>d ?_)
  ·obtain⟨n,k,q,v⟩:=x;simp_all
  grind
 simp only[ji,agA,if_false];refine cF a.Objs b.Objs c _ KK _ (fun R i hl hi ih d=>?_) (fun R h=>?_) h
 ·simp only[bP hi,if_true,Int.toNat_natCast]
  try dsimp +instances only [Int.toNat_natCast]
  refine⟨⟨af9 i,hi⟩,ob2 hi c,?_⟩;have o1:(0:Int)<=(i:Int)/\i<a.Objs.length:=⟨af9 i,hi⟩
  have o2:=ob2 hi c
  simp only[o1,o2,and_self,true_and];(try simp only[aq,az,aC,jval,bor,band,bnand,bimp,and_self]);generalize a.Objs.getD i default=x at ih d⊢;generalize b.Objs.getD i default=y at ih d⊢;obtain⟨n,k⟩:=x;obtain⟨r,s⟩:=y
  grind
 grind
theorem BO(a b:Lt.Block)(KK:Bool->Prop)(h:KK (qS a b)):wK a b KK:=by
 unfold wK;dsimp only;(try simp only[aq,az,aC,jval,bor,band,bnand,bimp,and_self]);unfold qS at h;rw[Eu];refine ifk (fun hc=>kk h (by grind)) (fun hc=>?_);simp only[ag2,agS,decide_eq_false_iff_not,not_or,agP,decide_eq_true_eq,Classical.not_not]at hc;obtain⟨h1,h2,h3,h4,h5,h6,h7⟩:=hc;have e:decide (a=b)=(decide (a.End.To=b.End.To)&&(decide (a.Phis=b.Phis)&&(decide (a.Code=b.Code)&&true))):=by
  obtain⟨z,w,a3,⟨a4,a5,q,t⟩⟩:=a;obtain⟨b1,b2,v,⟨b4,b5,b6,r⟩⟩:=b
  grind
 rw[e]at h;have g:a.End.To.length=b.End.To.length:=by omega
 have c:a.Phis.length=b.Phis.length:=by omega
 have f:a.Code.length=b.Code.length:=by omega
 refine cF a.End.To b.End.To g _ KK _ (fun R i hl hi ih d=>?_) (fun R h=>?_) h
 ·grind
 simp only[ji,agA,if_false];refine cF a.Phis b.Phis c _ KK _ (fun R i hl hi ih d=>?_) (fun R h=>?_) h
 ·simp only[bP hi,if_true,Int.toNat_natCast]
  try dsimp +instances only [Int.toNat_natCast]
  have o1:(0:Int)<=(i:Int)/\i<a.Phis.length:=⟨af9 i,hi⟩
  have o2:=ob2 hi c
  simp only[o1,o2,and_self,true_and];(try simp only[aq,az,aC,jval,bor,band,bnand,bimp,and_self]);generalize a.Phis.getD i default=x at ih d⊢;generalize b.Phis.getD i default=y at ih d⊢;obtain⟨u,l⟩:=x;obtain⟨s,m⟩:=y;dsimp only;refine ifk (fun hc=>d (by grind)) (fun hc=>?_);have k:l.length=m.length:=by grind
  refine cF l m k true (fun b=>if b=true then R (i64.wrap ((i:Int)+1))else KK false) _ (fun n j hl hj p o=>?_) (fun n h=>?_) ?_
  all_goals simp_all[aeT]
 simp only[ji,agA,if_false];refine cF a.Code b.Code f _ KK _ (fun R i hl hi ih d=>?_) (fun R h=>?_) h
 all_goals grind [p9]
theorem EH(a b:Lt.Func)(KK:Bool->Prop)(h:KK (tg a b)):yE a b KK:=by
 unfold yE;dsimp only;(try simp only[aq,az,aC,jval,bor,band,bnand,bimp,and_self]);unfold tg at h;unfold jp;refine ifk (fun hc=>kk h (by grind)) (fun hc=>?_);simp only[ag2,agS,decide_eq_false_iff_not,not_or,agP,decide_eq_true_eq,Classical.not_not]at hc;obtain⟨h1,h2,h3,h4,h5⟩:=hc;have e:decide (a=b)=(decide (a.Blocks=b.Blocks)&&true):=by
  obtain⟨z,t,a3,a4,a5⟩:=a;obtain⟨b1,b2,o,b4,b5⟩:=b
  grind
 rw[e]at h;have c:a.Blocks.length=b.Blocks.length:=by omega
 refine cF a.Blocks b.Blocks c _ KK _ (fun R i hl hi ih d=>?_) (fun R h=>?_) h
 ·simp only[bP hi,if_true,Int.toNat_natCast]
  try dsimp +instances only [Int.toNat_natCast]
  refine⟨⟨af9 i,hi⟩,ob2 hi c,?_⟩;generalize a.Blocks.getD i default=x at ih d⊢;generalize b.Blocks.getD i default=y at ih d⊢;obtain⟨g,k,u,⟨w,r,l,j⟩⟩:=x;obtain⟨v,f,p,⟨m,q,s,n⟩⟩:=y
  grind [qS]
 grind
theorem VT(a b:Lt.Program)(KK:Bool->Prop)(h:KK (Lt.Same a b)):Ty a b KK:=by
 unfold Ty;(try simp only[aq,az,aC,jval,bor,band,bnand,bimp,and_self]);unfold Lt.Same at h;unfold jp tg;refine ifk (fun hc=>kk h (by grind)) (fun hc=>?_);simp only[ag2,agS,decide_eq_false_iff_not,not_or,agP,decide_eq_true_eq,Classical.not_not,beq_iff_eq]at hc;obtain⟨h1,h2,h3,h4,h5⟩:=hc;have e:decide (a=b)=(decide (a.Classes=b.Classes)&&(decide (a.Externs=b.Externs)&&(decide (a.Funcs=b.Funcs)&&true))):=by
  obtain⟨p,o,a3,a4,a5⟩:=a;obtain⟨b1,b2,n,b4,b5⟩:=b
  grind
 rw[e]at h;have c:a.Classes.length=b.Classes.length:=by omega
 have g:a.Externs.length=b.Externs.length:=by omega
 have f:a.Funcs.length=b.Funcs.length:=by omega
 refine cF a.Classes b.Classes c _ KK _ (fun R i hl hi ih d=>?_) (fun R h=>?_) h
 ·simp only[bP hi,if_true,Int.toNat_natCast]
  try dsimp +instances only [Int.toNat_natCast]
  have o1:(0:Int)<=(i:Int)/\i<a.Classes.length:=⟨af9 i,hi⟩
  have o2:=ob2 hi c
  simp only[o1,o2,and_self,true_and];(try simp only[aq,az,aC,jval,bor,band,bnand,bimp,and_self]);generalize a.Classes.getD i default=x at ih d⊢;generalize b.Classes.getD i default=y at ih d⊢;obtain⟨m,j⟩:=x;obtain⟨k,l⟩:=y
  grind
 simp only[ji,agA,if_false];refine cF a.Externs b.Externs g _ KK _ (fun R i hl hi ih d=>?_) (fun R h=>?_) h
 ·grind [Q8]
 simp only[ji,agA,if_false];refine cF a.Funcs b.Funcs f _ KK _ (fun R i hl hi ih d=>?_) (fun R h=>?_) h
 all_goals grind
theorem zY:∀(k:Nat)(x:Int)(l:List UInt8),(nG k x l).length=k+l.length
 |0,_,_=>by simp[nG]
 |k+1,x,l=>by rw[nG,zY k];grind
theorem sa(f:β->α->β)(b:β)(l:List α)(x:α):(l++[x]).foldl f b=f (l.foldl f b) x:=by simp
theorem zT(n:Int):Lt.inR (PD n):=by
 have:=wf_wrap (k:=.i64) n
 simp only[Lit.wf,afZ,decide_eq_true_eq]at this;have h1:i64.min=-9223372036854775808:=by decide
 have h2:i64.max=9223372036854775807:=by decide
 grind [Lt.inR,PD]
theorem DA(p:α->Bool)(d:α):∀l:List α,((List.range l.length).all fun i=>p (l.getD i d))=l.all p
 |[]=>rfl
 |a::r=>by
  rw[af4,List.range_succ_eq_map,agF,List.all_map];have:=DA p d r
  grind
theorem Dz(i:Nat)(c:UInt8):Fdz i c=(Lt.letter c||(j0 c&&decide (0<i))):=by
 grind [Fdz,Lt.letter,ue,j0]
theorem aS(s:List UInt8):cj s=Lt.Name s:=by
 unfold cj Lt.Name Lt.kept;cases s with
 |nil=>rfl
 |cons a r=>
  rw[af4,List.range_succ_eq_map,agF,List.all_map];have e:((List.range r.length).all ((fun i=>Fdz i ((a::r).getD i 0)) ∘ Nat.succ))=r.all ic:=by
   rw[<- DA ic 0 r]
   grind [Dz,ic]
  grind [Dz,ic]
theorem Wm(x:Nat):(9218868437227405312<x % 9223372036854775808) ↔ ((x &&& 9218868437227405312)=9218868437227405312/\(x &&& 4503599627370495)≠0):=by
 have b:x &&& 4503599627370495=x % 2 ^ 52:=ahT x 52
 have d:x &&& 9223372036854775807=x % 2 ^ 63:=ahT x 63
 have c:(x &&& 9218868437227405312) % 2 ^ 52=0:=by
  rw[<- ahT,Nat.and_assoc]
  grind
 have a:x &&& 9223372036854775807=(x &&& 9218868437227405312) ||| (x &&& 4503599627370495):=by
  rw[<- Nat.and_or_distrib_left];rfl
 obtain⟨q,hq⟩:∃q,x &&& 9218868437227405312=2 ^ 52*q:=⟨_,(Nat.mul_div_cancel' (Nat.dvd_of_mod_eq_zero c)).symm⟩
 have h:=Nat.and_le_right (n:=x) (m:=9218868437227405312)
 rw[hq,b,<- Nat.two_pow_add_eq_or_of_lt (ah3 _ (by decide))]at a;omega
theorem im(n:Int):IntKind.u64.wrap n=(((BitVec.ofInt 64 n).toNat:Nat):Int):=by
 grind [BitVec.toNat_ofInt,IntKind.wrap,IntKind.signed,IntKind.bits]
theorem kB(n:Int):cW n=Lt.Plain n:=by
 unfold cW WR Lt.Plain;have a:i64.bits=64:=rfl
 rw[im,a,BitVec.toNat_and,BitVec.toNat_and];generalize(BitVec.ofInt 64 n).toNat=x;have b:(BitVec.ofInt 64 9218868437227405312).toNat=9218868437227405312:=by decide
 have c2:(BitVec.ofInt 64 4503599627370495).toNat=4503599627370495:=by decide
 rw[b,c2];have h1:=Nat.and_le_right (n:=x) (m:=9218868437227405312)
 have h2:=Nat.and_le_right (n:=x) (m:=4503599627370495)
 have:=Wm x
 grind [dk]
def Rl:List UInt8:=[48,49,50,51,52,53,54,55,56,57,97,98,99,100,101,102]
def lG(k:Nat):UInt8:=Rl.getD (k % 16) 0
theorem EA(k:Nat):acR (k:Int)=lG k:=by
 unfold acR lG;have e:Int.tmod (k:Int) 16=((k % 16:Nat):Int):=rfl
 rw[e];have h:k % 16 < 16:=ah3 _ (by decide)
 generalize k % 16=j at h;have:∀j:Fin 16,UInt8.ofNat (IntKind.u8.wrap ((IntKind.u8.wrap ((j.1:Nat):Int))+(if IntKind.u8.wrap ((j.1:Nat):Int) < 10 then 48 else 87))).toNat=Rl.getD j.1 0:=by decide
 exact this ⟨j,h⟩
theorem yd:∀(k m:Nat)(l:List UInt8),m < 18446744073709551616->nG k (m:Int) l=((List.range k).map fun i=>lG (m / 16 ^ (k - 1-i)))++l
 |0,m,l,_=>rfl
 |k+1,m,l,h=>by
  rw[nG,show Int.tdiv (m:Int) 16=((m / 16:Nat):Int)from rfl,cC kQ1,yd k (m / 16) _ kQ1,EA,List.range_succ,ahQ];have e:(List.range k).map (fun i=>lG (m / 16 / 16 ^ (k - 1-i)))=(List.range k).map (fun i=>lG (m / 16 ^ (k+1 - 1-i))):=by
   refine agJ (fun i hi=>?_);have hi:i<k:=List.mem_range.1 hi
   rw[Nat.div_div_eq_div_mul,show k+1 - 1-i=(k - 1-i)+1 by omega,Nat.pow_succ,Nat.mul_comm 16]
  grind
theorem VC(u:Int)(s:Nat)(hs:s<=60):O5 u (s:Int)=lG ((BitVec.ofInt 64 u).toNat / 2 ^ s):=by
 unfold O5;have a:IntKind.u64.bits=64:=rfl
 rw[im u,cC (n:=s) kQ1,a,Int.toNat_natCast,Nat.min_eq_left kQ1];have hx:=(BitVec.ofInt 64 u).isLt
 generalize(BitVec.ofInt 64 u).toNat=x at hx⊢;have e:Int.fdiv (x:Int) (2 ^ s)=((x / 2 ^ s:Nat):Int):=by
  grind
 have d:x / 2 ^ s < 18446744073709551616:=Nat.lt_of_le_of_lt (Nat.div_le_self _ _) hx
 have b:(BitVec.ofInt 64 15).toNat=15:=by decide
 have f:(BitVec.ofInt 64 ((x / 2 ^ s:Nat):Int)).toNat=x / 2 ^ s:=by
  grind [BitVec.toNat_ofInt]
 rw[e,BitVec.toNat_and,b,f];have c:(x / 2 ^ s &&& 15:Nat)=x / 2 ^ s % 16:=ahT _ 4
 rw[c,cC kQ1,Int.toNat_natCast];rfl
theorem zK(n:Int):oG n=eK n:=by
 unfold oG eK;rw[kB,im,yd 16 _ _ (BitVec.isLt _),aiE]
 congr 1
 refine agJ (fun i hi=>?_);have hi:i < 16:=List.mem_range.1 hi
 have e:(60:Int) - 4*(i:Int)=((60 - 4*i:Nat):Int):=by omega
 rw[e,VC _ _ kQ1];rw[show 60 - 4*i=4*(16 - 1-i)by omega,Nat.pow_mul]
theorem A8(a:Lt.Arg):Fe a=aU a:=by
 grind [Fe,aU,aS,kB,decide]
theorem qY(a:Lt.Arg):gN a=al a:=by
 grind [gN,al,B5,A8,zK,eH]
theorem pG(op:Int):(Lt.rOf op).2=(Lt.Of op).2/\(Lt.rOf op).1.Word=(Lt.Of op).1.Word/\(Lt.rOf op).1.Dst=(Lt.Of op).1.Dst/\(Lt.rOf op).1.Named=(Lt.Of op).1.Named/\(Lt.rOf op).1.Least=(Lt.Of op).1.Least/\(Lt.rOf op).1.Most=(Lt.Of op).1.Most:=by
 by_cases h:1<=op/\op<=34
 ·obtain⟨k,rfl⟩:=ahX (show 0<=op by omega);have hk:k < 35:=by omega
  have:∀k:Fin 35,1<=k.1->(Lt.rOf (k.1:Int)).2=(Lt.Of (k.1:Int)).2/\(Lt.rOf (k.1:Int)).1.Word=(Lt.Of (k.1:Int)).1.Word/\(Lt.rOf (k.1:Int)).1.Dst=(Lt.Of (k.1:Int)).1.Dst/\(Lt.rOf (k.1:Int)).1.Named=(Lt.Of (k.1:Int)).1.Named/\(Lt.rOf (k.1:Int)).1.Least=(Lt.Of (k.1:Int)).1.Least/\(Lt.rOf (k.1:Int)).1.Most=(Lt.Of (k.1:Int)).1.Most:=by decide +kernel
  exact this ⟨k,hk⟩ (by grind)
 grind (splits:=20) [Lt.rOf,Lt.Of]
theorem r7:∀(n:Nat),∀c∈Lt.digs n,48<=c.toNat/\c.toNat<=57:=by
 intro n;induction n using Nat.strongRecOn with
 |_ n ih=>
  have hd:∀k:Nat,k < 10->(UInt8.ofNat (48+k)).toNat=48+k:=fun k hk=>by simp;omega
  by_cases h:n < 10
  all_goals grind [iF,oZ]
theorem Es(n:Nat):Lt.digs n≠[]:=by
 by_cases h:n < 10
 all_goals simp_all[iF,oZ]
theorem Pb{m:Nat}{c:UInt8}(h1:48<=c.toNat)(h2:c.toNat<=57)(h3:10*m+(c.toNat - 48) < 18446744073709551616):DI (m:Int) c=((10*m+(c.toNat - 48):Nat):Int):=by
 grind [DI,IntKind.wrap,IntKind.signed,IntKind.bits]
theorem Q3:∀(n:Nat),n < 18446744073709551616->(Lt.digs n).foldl DI 0=(n:Int):=by
 intro n;induction n using Nat.strongRecOn with
 |_ n ih=>
  intro hn;have hd:∀k:Nat,k < 10->(UInt8.ofNat (48+k)).toNat=48+k:=fun k hk=>by simp;omega
  by_cases h:n < 10
  ·rw[iF h];show DI ((0:Nat):Int) _=_
   rw[Pb (by grind) (by grind) (by grind),hd n h];omega
  rw[oZ h,sa,ih (n / 10) kQ1 kQ1];have:=ah3 n (show 10 > 0 by decide)
  rw[Pb (by grind) (by grind) (by grind),hd _ this];omega
theorem Wr(h:Lt.inR n):PE (aB n)=n:=by
 have hl:=gA h
 unfold Lt.inR at h;have a:=Es n.natAbs
 have b:=r7 n.natAbs
 have hf:=Q3 n.natAbs kQ1
 unfold PE W5 PD;rw[ag4 (show(aB n).length<=30 by omega)];by_cases hn:n < 0
 ·grind [aB,IntKind.wrap,IntKind.signed,IntKind.bits]
 have e:aB n=Lt.digs n.natAbs:=by grind [aB]
 rw[e];have c:¬ (Lt.digs n.natAbs).getD 0 0=45:=by
  intro e;cases d:Lt.digs n.natAbs<;>simp_all
 grind [IntKind.wrap,IntKind.bits]
theorem jo(h:Lt.inR n):bq (aB n)=(n,true):=by
 grind [bq,Wr,B5]
theorem jk(n:Int):∀c∈aB n,c=45\/(48<=c.toNat/\c.toNat<=57):=by
 grind [aB,r7]
theorem vY(n:Int):aB n≠[]:=by
 grind [aB,Es]
theorem VE(k:Nat):(if 97<=(IntKind.u64.wrap (((lG k).toNat:Nat):Int))then IntKind.u64.wrap ((IntKind.u64.wrap (((lG k).toNat:Nat):Int)) - 87)else IntKind.u64.wrap ((IntKind.u64.wrap (((lG k).toNat:Nat):Int)) - 48))=((k % 16:Nat):Int):=by
 unfold lG;have h:k % 16 < 16:=ah3 _ (by decide)
 generalize k % 16=j at h;have:∀j:Fin 16,(if 97<=(IntKind.u64.wrap (((Rl.getD j.1 0).toNat:Nat):Int))then IntKind.u64.wrap ((IntKind.u64.wrap (((Rl.getD j.1 0).toNat:Nat):Int)) - 87)else IntKind.u64.wrap ((IntKind.u64.wrap (((Rl.getD j.1 0).toNat:Nat):Int)) - 48))=((j.1:Nat):Int):=by decide
 exact this ⟨j,h⟩
theorem YL{u k:Nat}(h:16*u+15 < 18446744073709551616):Kn (u:Int) (lG k)=((16*u+k % 16:Nat):Int):=by
 unfold Kn;rw[VE];have e:Int.tmod ((k % 16:Nat):Int) 16=((k % 16:Nat):Int):=by
  grind
 rw[e];have a:=ah3 k (show 16 > 0 by decide)
 rw[show((u:Nat):Int)*16=((16*u:Nat):Int)by omega,cC kQ1,show((16*u:Nat):Int)+((k % 16:Nat):Int)=((16*u+k % 16:Nat):Int)by omega,cC kQ1]
theorem vN:∀(k m:Nat)(l:List UInt8),m < 18446744073709551616->k<=16->(nG k (m:Int) l).foldl Kn 0=l.foldl Kn ((m % 16 ^ k:Nat):Int)
 |0,m,l,_,_=>by grind [nG]
 |k+1,m,l,h,hk=>by
  rw[nG,show Int.tdiv (m:Int) 16=((m / 16:Nat):Int)from rfl,cC kQ1,vN k (m / 16) _ kQ1 kQ1,EA,ahJ];have hp:16 ^ k<=16 ^ 15:=Nat.pow_le_pow_right (by decide) kQ1
  have b:=ah3 (m / 16) (show 16 ^ k > 0 from Nat.pow_pos (by decide))
  have a:(16:Nat) ^ 15=1152921504606846976:=by decide
  rw[YL kQ1]
  congr 2
  grind [Nat.mod_mul]
theorem Dt(h:Lt.inR n):Lt.inR (cW n):=by
 grind [cW,Lt.inR]
theorem Vo(h:Lt.inR n):Ko (oG n)=cW n:=by
 have hp:=Dt h
 unfold Lt.inR at hp;unfold Ko oG;have hx:IntKind.u64.wrap (cW n)=(((IntKind.u64.wrap (cW n)).toNat:Nat):Int):=by
  rw[im];rfl
 have a:(IntKind.u64.wrap (cW n)).toNat < 18446744073709551616:=by
  rw[im];omega
 have hl:=zY 16 (IntKind.u64.wrap (cW n)) []
 have b:([48,102]++nG 16 (IntKind.u64.wrap (cW n)) []).drop 2=nG 16 (IntKind.u64.wrap (cW n)) []:=rfl
 rw[b,ag4 (by grind),hx,vN 16 _ _ a kQ1]
 grind [IntKind.wrap,IntKind.signed,IntKind.bits]
theorem WQ(n:Int):(oG n).length=18:=by rfl
theorem Np(n:Int):oG (cW n)=oG n:=by
 grind [oG,cW]
theorem uG(h:Lt.inR n):jm (oG n)=(cW n,true):=by
 grind [jm,Vo,WQ,Np]
theorem fi(s:List UInt8)(a:Lt.Arg):nY s a=true ↔ aU a=true/\al a=s:=by
 grind [nY,A8,qY]
theorem sx{a:UInt8}{r:List UInt8}(h:Lt.Name (a::r)=true):Lt.letter a=true:=by
 grind [Lt.Name]
theorem E3(n:Int):Lt.Name (aB n)=false:=by
 cases b:aB n with
 |nil=>rfl
 |cons a r=>
  have hb:=jk n a (by grind)
  cases hN:Lt.Name (a::r)with
  |false=>rfl
  |true=>
   exfalso
   have:=sx hN
   unfold Lt.letter ue at this;rcases hb with rfl|hb
   all_goals grind
theorem KT:al ⟨2,[],n⟩=aB n:=by rfl
theorem DQ(h:Lt.Plain n=n):al ⟨3,[],n⟩=eK n:=by simp[al,aU,h]
theorem Xw:al ⟨4,[],0⟩=[110,117,108,108]:=by decide
theorem KU(h0:0<=n)(h1:n<=999):al ⟨5,[],n⟩=35::aB n:=by grind [al,aU]
variable{s:List UInt8}
theorem Xv(h:Lt.Name s=true):al ⟨1,s,0⟩=s:=by simp[al,aU,h]
theorem Xm(s:List UInt8):nY s ⟨1,s,0⟩=Lt.Name s:=by
 grind [nY,A8,qY,Xv,aU]
theorem mR(h:aU a=true)(ok:a.ok):Lt.cX (al a)=(a,true):=by
 obtain⟨k,s,n⟩:=a;have ok:Lt.inR n:=ok
 rcases eH h with⟨hk,hN,hn⟩|⟨hk,hs⟩|⟨hk,hs,hp⟩|⟨hk,hs,hn⟩|⟨hk,hs,h0,h1⟩
 ·grind [Xv,Lt.cX,Xm]
 ·grind [KT,Lt.cX,Xm,E3,jo,fi]
 ·simp only at hk hs hp;subst hk;subst hs
  rw[DQ hp];have e:eK n=48::102::(eK n).drop 2:=rfl
  have hN:Lt.Name (eK n)=false:=by
   cases hN:Lt.Name (eK n)with
   |false=>rfl
   |true=>rw[e]at hN;have:=sx hN;revert this;decide
  have h2:∀m,nY (eK n) ⟨2,[],m⟩=false:=by
   intro m;cases b:nY (eK n) ⟨2,[],m⟩with
   |false=>rfl
   |true=>
    have:=((fi _ _).1 b).2
    rw[KT]at this;have hb:=jk m 102 (by grind)
    grind
  unfold Lt.cX;rw[Xm,hN,h2,if_neg (by decide),if_neg (by decide)];have c:(jm (eK n)).1=n:=by rw[<- zK,uG ok,kB];exact hp
  grind [fi,DQ]
 ·simp only at hk hs hn;subst hk;subst hs;subst hn
  decide +kernel
 simp only at hk hs h0 h1;subst hk;subst hs
 rw[KU h0 h1];have hN:Lt.Name (35::aB n)=false:=by
  cases hN:Lt.Name (35::aB n)with
  |false=>rfl
  |true=>have:=sx hN;revert this;decide
 have h2:∀m,nY (35::aB n) ⟨2,[],m⟩=false:=by
  intro m;cases b:nY (35::aB n) ⟨2,[],m⟩with
  |false=>rfl
  |true=>
   have:=((fi _ _).1 b).2
   rw[KT]at this;have hb:=jk m 35 (by grind)
   grind
 have h3:∀m,nY (35::aB n) ⟨3,[],m⟩=false:=by
  intro m;cases b:nY (35::aB n) ⟨3,[],m⟩with
  |false=>rfl
  |true=>
   obtain⟨hr,this⟩:=(fi _ _).1 b;rcases eH hr with h|h|h|h|h
   all_goals grind [DQ,eK]
 grind [fi,Xw,Lt.cX,Xm,jo,KU]
theorem wr(h:(Lt.cX s).2=true):aU (Lt.cX s).1=true/\al (Lt.cX s).1=s:=by
 grind [Lt.cX,fi]
variable{objs:Bool}
theorem qd(h:bb objs a=true)(ok:a.ok):eQ objs (al a)=true:=by
 grind [bb,eQ,mR]
theorem rQ(h:eQ objs s=true):bb objs (Lt.cX s).1=true:=by
 grind [eQ,bb,wr]
theorem DH{l:List Lt.Arg}(h:bE l objs=true)(ok:rR l):dB (Lt.puts l) objs=(l,true):=by
 unfold bE at h;rw[agH]at h;unfold dB Lt.puts;have h1:(l.map al).all (eQ objs)=true:=by
  rw[agH];intro w hw;obtain⟨a,b,rfl⟩:=agL.1 hw;exact qd (h a b) (ok a b)
 have h2:(l.map al).map (fun w=>(Lt.cX w).1)=l:=by
  rw[ag6];have:∀a∈l,((fun w=>(Lt.cX w).1) ∘ al) a=id a:=fun a b=>by
   show(Lt.cX (al a)).1=a
   have:=h a b
   unfold bb at this;simp only[afZ]at this;rw[mR this.1 (ok a b)]
  simp_all[agJ]
 grind
variable{l:List (List UInt8)}
theorem Bf(h:(dB l objs).2=true):bE (dB l objs).1 objs=true/\(dB l objs).1.length=l.length/\Lt.puts (dB l objs).1=l:=by
 unfold dB at h⊢;split at h
 ·rename_i hc;rw[if_pos hc];rw[agH]at hc;refine⟨?_,by simp,?_⟩
  ·grind [bE,rQ]
  unfold Lt.puts;rw[ag6];have:∀w∈l,(al ∘ (fun w=>(Lt.cX w).1)) w=id w:=fun w hw=>by
   grind [eQ,wr]
  simp_all[agJ]
 grind
theorem sD:∀{l:List Lt.Bind},(∀b∈l,Lt.Name b.Name=true/\bb objs b.A=true/\b.A.ok)->cZ objs (l.flatMap fun b=>[b.Name,al b.A])=some l
 |[],_=>rfl
 |b::r,h=>by
  obtain⟨h1,h2,h3⟩:=h b (by simp);have ih:=sD (l:=r) (fun x hx=>h x (by grind))
  have a:aU b.A=true:=by
   grind [bb]
  rw[ag3];show cZ objs (b.Name::al b.A::(r.flatMap fun b=>[b.Name,al b.A]))=_
  simp_all[cZ,aS,qd,mR]
theorem xn:∀{l:List (List UInt8)}{x:List Lt.Bind},cZ objs l=some x->(∀b∈x,Lt.Name b.Name=true/\bb objs b.A=true)/\(x.flatMap fun b=>[b.Name,al b.A])=l
 |[],x,h=>by
  grind [cZ]
 |[_],x,h=>by grind [cZ]
 |a::b::r,x,h=>by
  rw[cZ]at h;split at h
  ·rename_i hc;rw[afZ,aS]at hc;cases hr:cZ objs r with
   |none=>grind
   |some y=>
    obtain⟨k1,k2⟩:=xn hr
    grind [rQ,eQ,wr]
  grind
theorem JN(w:List UInt8):∀(l:List (List UInt8))(n m:Int),Ny w l n=(m,true)->∃i:Nat,i<l.length/\m=n+(i:Int)/\l.getD i []=w
 |[],n,m,h=>by grind [Ny]
 |x::r,n,m,h=>by
  rw[Ny]at h;split at h
  ·grind
  obtain⟨i,h1,h2,h3⟩:=JN w r _ _ h;exact⟨i+1,by grind,by omega,by grind⟩
variable{w:List UInt8}
theorem W6(h:(Lt.sOp w).2=true):(1<=(Lt.sOp w).1/\(Lt.sOp w).1<=34)/\(Lt.Of (Lt.sOp w).1).1.Word=w/\(Lt.Of (Lt.sOp w).1).2=true:=by
 have e:Lt.sOp w=((Lt.sOp w).1,true):=by grind
 obtain⟨i,h1,h2,h3⟩:=JN w (gw.drop 1) 1 (Lt.sOp w).1 e;have hi:i < 34:=h1
 have ho:=pG (Lt.sOp w).1
 grind (splits:=20) [Lt.rOf]
theorem ZK(h:(Lt.Of op).2=true):Lt.sOp (Lt.Of op).1.Word=(op,true):=by
 by_cases hc:1<=op/\op<=34
 ·obtain⟨k,rfl⟩:=ahX (show 0<=op by omega);have hk:k < 35:=by omega
  have:∀k:Fin 35,1<=k.1->Lt.sOp (Lt.Of (k.1:Int)).1.Word=((k.1:Int),true):=by decide +kernel
  exact this ⟨k,hk⟩ (by grind)
 exfalso
 rw[<- (pG op).1]at h
 grind [Lt.rOf]
theorem cx(a b:List Lt.Line):bv (a++b)=bv a++bv b:=by simp[bv]
theorem kn(w:List (List UInt8)):bv [Lt.ln w]=Lt.lnT w:=by simp[bv,Lt.ln,Lt.lnT]
theorem mw(f:α->List (List UInt8))(l:List α):bv (l.map fun x=>Lt.ln (f x))=l.flatMap fun x=>Lt.lnT (f x):=by
 induction l with
 |nil=>rfl
 |cons a r ih=>rw[af3,ag3,<- ih,<- kn,<- cx];rfl
theorem nK(f:α->List Lt.Line)(l:List α):bv (l.flatMap f)=l.flatMap fun x=>bv (f x):=by
 induction l with
 |nil=>rfl
 |cons a r ih=>grind [cx]
theorem nw{f g:α->List β}{l:List α}(h:∀x∈l,f x=g x):l.flatMap f=l.flatMap g:=by
 induction l<;>grind
theorem Su(h:Lt.instr i=true):A6 i=Lt.words i:=by
 have ho:=eD h
 obtain⟨_,d,c,b,_,_⟩:=pG i.Op;unfold A6 Lt.words Kc Lt.puts;have a:gN=al:=funext qY
 rw[d,c,b,a];by_cases hc:i.Op=26\/i.Op=27
 ·have:=ho.least hc
  cases e:i.Args<;>grind
 grind
variable{t:Lt.Term}
theorem qj(h:dp t=true) :
  (∃x,t=⟨1,⟨0,[],0⟩,[x],0⟩/\Lt.Name x=true)\/(∃a x y,t=⟨2,a,[x,y],0⟩/\bb false a=true/\Lt.Name x=true/\Lt.Name y=true) \/
  (∃a,t=⟨3,a,[],0⟩/\bb false a=true)\/(∃n,t=⟨4,⟨0,[],0⟩,[],n⟩):=by
 obtain⟨k,a,b,n⟩:=t;unfold dp Dn at h;simp only[afZ,agH]at h;obtain⟨c,h⟩:=h;split at h
 ·rename_i hk;simp only[afZ,decide_eq_true_eq]at h;obtain⟨⟨rfl,hl⟩,rfl⟩:=h;subst hk
  match b,hl with
  |[x],_=>grind
 split at h
 ·rename_i hk;simp only[afZ,decide_eq_true_eq]at h;obtain⟨⟨d,hl⟩,rfl⟩:=h;subst hk
  match b,hl with
  |[x,y],_=>grind
 split at h
 all_goals simp_all
theorem WP(h:dp t=true):Ka t=Lt.lnT (gW t):=by
 unfold Ka Px gW B5;rcases qj h with⟨x,rfl,_⟩|⟨a,x,y,rfl,_⟩|⟨a,rfl,_⟩|⟨n,rfl⟩
 all_goals simp_all[qY]
theorem wj(first:List UInt8)(l:List Lt.Var):wi first l=bv (fL first l):=(mw (fun v:Lt.Var=>[first,v.Name,v.Type_]) l).symm
theorem Sr(h:Lt.instr i=true):wg i=bv (gJ i):=by
 have a:gN=al:=funext qY
 unfold wg gJ;rw[cx,cx,kn,mw,mw,Su h];unfold nV gr wk mW Lt.puts;rw[a];rfl
theorem No(h:Lt.block b=true):qO b=bv (dN b):=by
 have a:gN=al:=funext qY
 obtain⟨_,he,_,hc⟩:=me h;unfold qO dN;rw[cx,cx,cx,kn,mw,nK,kn,WP he,nw (fun x hx=>Sr (hc x hx))]
 grind [A5,wd]
theorem Ss(h:ay f=true):wh f=bv (fS f):=by
 have ho:=nB h
 grind [wh,fS,cx,kn,nK,wj,nw,No,FuncOk.bl]
theorem Dy(h:bB p=true):nW p=bv (kH p):=by
 have ho:=qM h
 unfold nW kH;rw[cx,cx,cx,cx,nK,nK,<- wj,nw (fun x hx=>Ss (ho.fn x hx))];have a:p.Classes.flatMap qP=p.Classes.flatMap fun x=>bv (dO x):=nw (fun c _=>by
  grind [qP,dO,cx,kn,wj])
 have b:p.Externs.flatMap pF=bv (p.Externs.map iS):=(mw (fun x:Lt.Extern=>[[101,120,116,101,114,110],x.Name,Lt.number x.N]) p.Externs).symm
 grind [bv,kn]
def rv(c:UInt8):Bool:=decide (33<=c.toNat)&&decide (c.toNat<=126)&&!decide (c=59)
def fe(w:List UInt8):Prop:=w≠[]/\∀c∈w,rv c=true
def xk(x:Lt.Line):Prop:=x.Words≠[]/\∀w∈x.Words,fe w
theorem aL(h:(!decide (w=[])&&w.all rv)=true):fe w:=by
 simp only[afZ,agS,decide_eq_false_iff_not,agH]at h;exact h
theorem B3{c:UInt8}(h:ic c=true):rv c=true:=by
 unfold ic Lt.letter ue j0 at h;unfold rv;simp only[ag2,afZ,decide_eq_true_eq,agS,decide_eq_false_iff_not]at h⊢;refine⟨⟨by omega,by omega⟩,?_⟩;rintro rfl
 grind
theorem bJ(h:Lt.Name s=true):fe s:=by
 unfold Lt.Name at h;simp only[afZ,agS,decide_eq_false_iff_not,agH]at h;exact⟨h.1.1.1.1,fun c hc=>B3 (h.2 c hc)⟩
theorem De(h:Lt.kind s=true):fe s:=by
 unfold Lt.kind at h;simp only[ag2,decide_eq_true_eq]at h;rcases h with(rfl|rfl)|h
 ·exact aL (by decide)
 ·exact aL (by decide)
 exact bJ h
theorem py(n:Int):fe (aB n):=by
 refine⟨vY n,fun c hc=>?_⟩;rcases jk n c hc with rfl|h
 ·decide
 unfold rv;simp only[afZ,decide_eq_true_eq,agS,decide_eq_false_iff_not];refine⟨⟨by omega,by omega⟩,?_⟩;rintro rfl
 grind
theorem Rk(k:Nat):rv (lG k)=true:=by
 unfold lG;have h:k % 16 < 16:=ah3 _ (by decide)
 generalize k % 16=j at h;have:∀j:Fin 16,rv (Rl.getD j.1 0)=true:=by decide
 exact this ⟨j,h⟩
theorem Vp(n:Int):fe (eK n):=by
 refine⟨by simp[eK],fun c hc=>?_⟩;rw[<- zK]at hc;unfold oG at hc;rw[im,yd 16 _ _ (BitVec.isLt _),aiE]at hc;rcases agE.1 hc with hc|hc
 ·simp only[agC,agX,or_false]at hc;rcases hc with rfl|rfl<;>decide
 grind [Rk]
theorem S1(h:aU a=true):fe (al a):=by
 obtain⟨k,s,n⟩:=a;rcases eH h with⟨hk,hN,hn⟩|⟨hk,hs⟩|⟨hk,hs,hp⟩|⟨hk,hs,hn⟩|⟨hk,hs,h0,h1⟩
 ·grind [Xv,bJ]
 ·grind [KT,py]
 ·grind [DQ,Vp]
 ·simp only at hk hs hn;subst hk;subst hs;subst hn
  rw[Xw];exact aL (by decide)
 simp only at hk hs h0 h1;subst hk;subst hs
 rw[KU h0 h1];refine⟨by simp,fun c hc=>?_⟩;rcases agC.1 hc with rfl|hc
 ·decide
 exact(py n).2 c hc
theorem oS(h:bb objs a=true):fe (al a):=by
 grind [bb,S1]
theorem Dx{l:List Lt.Arg}(h:bE l objs=true):∀w∈Lt.puts l,fe w:=by
 intro w hw;obtain⟨a,b,rfl⟩:=agL.1 hw
 grind [bE,oS]
theorem XK(h:(Lt.Of op).2=true):fe (Lt.Of op).1.Word:=by
 by_cases hc:1<=op/\op<=34
 ·obtain⟨k,rfl⟩:=ahX (show 0<=op by omega);have hk:k < 35:=by omega
  have:∀k:Fin 35,1<=k.1->(!decide ((Lt.Of (k.1:Int)).1.Word=[])&&(Lt.Of (k.1:Int)).1.Word.all rv)=true:=by decide +kernel
  exact aL (this ⟨k,hk⟩ (by grind))
 exfalso
 rw[<- (pG op).1]at h
 grind [Lt.rOf]
theorem aw(h:fe w)(hl:∀v∈l,fe v):∀v∈w::l,fe v:=by
 grind
theorem dj:∀v∈([]:List (List UInt8)),fe v:=by simp
theorem pg{a b:List (List UInt8)}(h:∀v∈a,fe v)(hl:∀v∈b,fe v):∀v∈a++b,fe v:=by
 grind
theorem Db{n:α->List UInt8}{a:α->List UInt8}{l:List α}(h:∀x∈l,fe (n x)/\fe (a x)):∀v∈l.flatMap (fun x=>[n x,a x]),fe v:=by
 grind
theorem NQ(h:Lt.instr i=true):xk (Lt.ln (Lt.words i)):=by
 have ho:=eD h
 have hp:=Dx ho.aok
 refine⟨by simp[Lt.ln,Lt.words],?_⟩;show ∀w∈Lt.words i,fe w
 unfold Lt.words;refine pg (pg ?_ (aw (XK ho.of) dj)) ?_
 ·split
  ·rename_i hd;exact aw (bJ (ho.dstN hd)) (aw (aL (by decide)) dj)
  grind
 grind [InstrOk.least,Lt.Of,Lt.puts,bJ,InstrOk.nmN]
theorem oh{first:List UInt8}(hf:fe first){l:List Lt.Var}(h:Lt.typed l n=true):∀x∈fL first l,xk x:=by
 intro x hx;obtain⟨v,hv,rfl⟩:=agL.1 hx;unfold Lt.typed at h;simp only[afZ,agH]at h;have:=h.2 v hv
 exact⟨by simp[Lt.ln],aw hf (aw (bJ this.1) (aw (De this.2) dj))⟩
theorem LW(h:Lt.instr i=true):∀x∈gJ i,xk x:=by
 have ho:=eD h
 unfold gJ;intro x hx;rcases agE.1 hx with hx|hx
 ·rcases agE.1 hx with hx|hx
  ·grind [NQ]
  obtain⟨f,hf,rfl⟩:=agL.1 hx;obtain⟨h1,h2,_,_,_,h3⟩:=pb (ho.fr f hf);refine⟨by simp[Lt.ln,gr],pg (aw (aL (by decide)) (aw (bJ h1) (aw (bJ h2) (aw (py _) dj)))) (Db (fun b hb=>?_))⟩
  grind [gF,bJ,oS]
 obtain⟨o,a,rfl⟩:=agL.1 hx;obtain⟨h1,_,h3⟩:=yn (ho.ob o a);exact⟨by simp[Lt.ln,mW],pg (aw (aL (by decide)) (aw (bJ h1) dj)) (Dx h3)⟩
theorem GY(h:Lt.block b=true):∀x∈dN b,xk x:=by
 obtain⟨hn,he,hp,hc⟩:=me h;unfold dN;intro x hx;rcases agE.1 hx with hx|hx
 ·rcases agE.1 hx with hx|hx
  ·rcases agE.1 hx with hx|hx
   ·rw[agI.1 hx];exact⟨by simp[Lt.ln],aw (aL (by decide)) (aw (bJ hn) dj)⟩
   obtain⟨y,hy,rfl⟩:=agL.1 hx;obtain⟨h1,_,_,h3⟩:=AK (hp y hy);refine⟨by simp[Lt.ln,wd],pg (aw (aL (by decide)) (aw (bJ h1) dj)) (Db (fun i hi=>?_))⟩
   grind [ll,bJ,oS]
  grind [LW]
 rw[agI.1 hx];generalize b.End=t at he;rcases qj he with⟨x,rfl,h1⟩|⟨a,x,y,rfl,h1,h2,h3⟩|⟨a,rfl,h1⟩|⟨n,rfl⟩
 ·exact⟨by simp[Lt.ln,gW],aw (aL (by decide)) (aw (bJ h1) dj)⟩
 ·exact⟨by simp[Lt.ln,gW],aw (aL (by decide)) (aw (oS h1) (aw (bJ h2) (aw (bJ h3) dj)))⟩
 ·exact⟨by simp[Lt.ln,gW],aw (aL (by decide)) (aw (oS h1) dj)⟩
 exact⟨by simp[Lt.ln,gW],aw (aL (by decide)) (aw (py _) dj)⟩
theorem L6(h:ay f=true):∀x∈fS f,xk x:=by
 have ho:=nB h
 unfold fS;intro x hx;rcases agE.1 hx with hx|hx
 ·rcases agE.1 hx with hx|hx
  ·rcases agE.1 hx with hx|hx
   ·rw[agI.1 hx];exact⟨by simp[Lt.ln],aw (aL (by decide)) (aw (bJ ho.name) (aw (De ho.res) dj))⟩
   exact oh (aL (by decide)) ho.params x hx
  exact oh (aL (by decide)) ho.vars x hx
 obtain⟨b,hb,hx⟩:=ahI.1 hx;exact GY (ho.bl b hb) x hx
theorem Nj(h:bB p=true):∀x∈kH p,xk x:=by
 have ho:=qM h
 unfold kH;intro x hx;rcases agE.1 hx with hx|hx
 ·rcases agE.1 hx with hx|hx
  ·rcases agE.1 hx with hx|hx
   ·rcases agE.1 hx with hx|hx
    ·split at hx
     ·rw[agI.1 hx];exact⟨by simp[Lt.ln],aw (aL (by decide)) dj⟩
     grind
    obtain⟨c,hc,hx⟩:=ahI.1 hx;have hr:=ho.cl c hc
    unfold bF at hr;simp only[afZ]at hr;unfold dO at hx;rcases agE.1 hx with hx|hx
    ·rw[agI.1 hx];exact⟨by simp[Lt.ln],aw (aL (by decide)) (aw (bJ hr.1) dj)⟩
    exact oh (aL (by decide)) hr.2 x hx
   exact oh (aL (by decide)) ho.glob x hx
  obtain⟨e,he,rfl⟩:=agL.1 hx;have hr:=ho.ex e he
  unfold bW at hr;simp only[afZ]at hr;exact⟨by simp[Lt.ln,iS],aw (aL (by decide)) (aw (bJ hr.1.1) (aw (py _) dj))⟩
 obtain⟨f,hf,hx⟩:=ahI.1 hx;exact L6 (ho.fn f hf) x hx
theorem sQ:∀(w r:List UInt8)(k:Lt.Cut),(∀c∈w,rv c=true)->k.remark=false->cD (w++r) k=cD r { k with w:=k.w++w }
 |[],r,k,_,_=>by simp
 |c::w,r,k,h,hr=>by
  have hc:=h c (by simp)
  unfold rv at hc;simp only[afZ,decide_eq_true_eq,agS,decide_eq_false_iff_not]at hc;have a:¬ c=10:=by rintro rfl;grind
  have b:¬ c=32:=by rintro rfl;grind
  have e:¬ c=9:=by rintro rfl;grind
  have d:k.byte c={ k with w:=k.w++[c] }:=by
   grind [Lt.Cut.byte]
  rw[ahS,cD,if_neg a,d,sQ w r { k with w:=k.w++[c] } (fun x hx=>h x (by grind)) hr];simp
theorem Bj:∀(ws:List (List UInt8))(r:List UInt8)(out:List Lt.RLine)(l:List (List UInt8))(w:List UInt8)(n:Int),(∀v∈ws,fe v)->w≠[] ->
  cD (Lt.jw true ws++10::r) ⟨out,l,w,n,false,false⟩=cD r ⟨out++[⟨n,l++w::ws⟩],[],[],n+1,false,false⟩
 |[],r,out,l,w,n,_,hw=>by
  simp_all[Lt.jw,cD,Lt.Cut.line,Lt.Cut.word]
 |v::vs,r,out,l,w,n,h,hw=>by
  have hv:=h v (by simp)
  rw[Lt.jw,if_pos rfl];show cD (32::(v++Lt.jw true vs++10::r)) _=_
  rw[cD,if_neg (by decide)];have a:(⟨out,l,w,n,false,false⟩:Lt.Cut).byte 32=⟨out,l++[w],[],n,false,false⟩:=by
   grind [Lt.Cut.byte,Lt.Cut.word]
  rw[a,agN,sQ v _ _ hv.2 rfl];simp only[agZ];rw[Bj vs r out (l++[w]) v n (fun x hx=>h x (by grind)) hv.1];simp
def numb:Int->List Lt.Line->List Lt.RLine
 |_,[]=>[]
 |n,x::t=>⟨n,x.Words⟩::numb (n+1) t
theorem xw:∀(L:List Lt.Line)(out:List Lt.RLine)(n:Int),(∀x∈L,xk x)->cD (bv L) ⟨out,[],[],n,false,false⟩=(out++numb n L,0,0)
 |[],out,n,_=>by simp[bv,cD,Lt.Cut.line,Lt.Cut.word,numb]
 |x::t,out,n,h=>by
  obtain⟨a,hx⟩:=h x (by simp);cases hw:x.Words with
  |nil=>grind
  |cons w ws=>
   rw[hw]at hx;have hv:=hx w (by simp)
   have e:bv (x::t)=w++(Lt.jw true ws++10::bv t):=by
    simp[bv,hw,Lt.jw]
   rw[e,sQ w _ _ hv.2 rfl];simp only[agZ];rw[Bj ws _ out [] w n (fun v hv=>hx v (by grind)) hv.1,xw t _ _ (fun y hy=>h y (by grind))];simp[numb,hw]
theorem NA{L:List Lt.Line}(h:∀x∈L,xk x)(hl:(bv L).length<=4194304):fR (bv L)=(numb 1 L,0,0):=by
 grind [fR,xw]
theorem jr{l:List Lt.Var}{k:Nat}(h:Lt.typed l k=true):l.length<=k:=by
 grind [Lt.typed]
theorem Eb{n c:Nat}(h:n<=5000)(hc:c<=200):(n+1<=4611686018427387904/\(n+1)*c<=140737488355328)=True:=by
 have:(n+1)*c<=5001*200:=Nat.mul_le_mul kQ1 hc
 grind
theorem cy{l:List α}(h:l≠[])(h8:l.length<=5000):i64.wrap ((l.length:Int) - 1)=((l.length - 1:Nat):Int):=by
 grind [ahD,eI]
theorem dH{l:List α}(h:l≠[]):(l.length - 1<l.length)=True:=by
 grind [ahD]
theorem dI{l:List α}(h:l≠[]):((0:Int)<=((l.length - 1:Nat):Int)/\((l.length - 1:Nat):Int) < (l.length:Int))=True:=by
 grind [ahD]
theorem vK[Inhabited α](l:List α)(x:α):(l++[x]).getD ((l++[x]).length - 1) default=x:=by
 grind
variable{r:Lt.Read}
theorem iP(h:Lt.Inv r)(hw:3<=r.Where):r.P.Funcs≠[]/\o8 r.curF r.Where r.Long/\r.curF.Params.length<=6/\r.curF.Vars.length<=1024/\r.curF.Blocks.length<=256:=by
 obtain⟨_,_,_,_,_,h3⟩:=h;obtain⟨fs,f,hf,_,hp⟩:=h3 hw;have e:r.curF=f:=by grind [Lt.Read.curF]
 rw[e];exact⟨by grind,hp,jr (k:=6) hp.1.2.2.1,jr (k:=1024) hp.1.2.2.2,hp.2.1.1⟩
theorem lY(h:Lt.Inv r)(hw:5<=r.Where):r.curF.Blocks≠[]/\r.curB.Phis.length<=1024/\r.curB.Code.length<=1024/\r.curB.Code.all Lt.instr=true:=by
 obtain⟨_,hp,_⟩:=iP h kQ1;obtain⟨_,⟨_,h0,hn⟩,_,hb⟩:=hp
 grind [Lt.Read.curB]
theorem CF(h:Lt.Inv r)(hw:6<=r.Where)(a:r.Where<=8):r.curB.Code≠[]/\r.curI.Frames.length<=16/\r.curI.Objs.length<=99:=by
 obtain⟨_,hp,_⟩:=iP h kQ1;obtain⟨_,⟨_,h0,hn⟩,_,hb⟩:=hp
 grind [Lt.Read.curB,vK,Lt.Read.curI,Lt.instr]
theorem xu(objs:Bool):∀(l:List (List UInt8))(x:List Lt.Bind),cZ objs l=some x->l.length=2*x.length
 |[],x,h=>by grind [cZ]
 |[_],x,h=>by grind [cZ]
 |a::b::r,x,h=>by
  rw[cZ]at h;split at h
  ·cases hr:cZ objs r with
   |none=>grind
   |some y=>
    have:=xu objs r y hr
    grind
  grind
theorem sO{f:Int}(h:(bQ l f objs).2=true)(h0:0<=f):(l.length:Int)=f+2*((bQ l f objs).1.length:Int):=by
 grind [bQ,xu,aiD]
end Go.Am
end
