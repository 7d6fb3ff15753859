/-
  Part 16: AmLibC · AmE15 · AmE13 · AmE16 · AmE18r · AmRen · AmE19 · AmKeys · AmB2 · AmB3 · AmSw · AmPan.
-/
import Derived.Test.YteooihiebpbaiaaGreatDoorVp15
import Derived.Test.YteooihiebpbaiaaGreatDoorChecked
set_option linter.unusedSimpArgs false
set_option linter.unusedVariables false
set_option linter.unusedSectionVars false
set_option linter.unnecessarySimpa false
open Lt
open Go.Proofs.Tryz
section
namespace Go.Am
open Go Go.RowKit Go.Proofs
theorem zx(w:World):Below w.heap.size w w:=Below.refl _ w
theorem JH(c:UInt8):∀l:a8,-1<=Lib.indexByte l c/\Lib.indexByte l c<=(l.length:Int)
 |[]=>by simp[Lib.indexByte]
 |b::l=>by
  have:=JH c l
  grind [Lib.indexByte]
theorem yD{w:World}{H:FH}{γ:Gam}{m:Mm}{l:a8}(h:l.length<=BIG):AR1 w H γ m (.c (.d (.str l))) (.string ⟨l.toArray⟩):=⟨λ_=>rfl,0,rfl,h⟩
theorem U6{w:World}{H:FH}{γ:Gam}{k:IntKind}{n:Int}{y:Value}(h:AR w H γ [] (.one (.c (.d (.int k n)))) y):y=.int k n:=by obtain⟨_,m,h⟩:=h;cases m<;>exact h.1
def Vd:CKt:=tc [.s,.b8] [.i .i64] (λx=>Xw x.1 x.2)
theorem Wz:Cont prog 255 Vd:=Pi (kI (mq (fn:=f255) kQ0 (by rfl) (by rfl)) (λx args w H γ _ hl ha g a=>by
 obtain⟨s,c⟩:=x;obtain⟨u,v,rfl,h1,h2⟩:=Qf (x:=.one (.c (.d (.str s)))) (y:=.one (.c (.d (.int .u8 (UInt8.toNat c:Int))))) hl ha;obtain⟨rfl,hs⟩:=lK h1;have hs:List.length (α:=UInt8) s<=BIG:=hs
 obtain rfl:=U6 h2;refine(Tryz.strings_IndexByte ⟨s.toArray⟩ (c.toNat:Int) w).mono ?_;rintro e w' ⟨rfl,hw⟩
 rw[hw];refine⟨_,H,rfl,zx w,λ_ _ _ h=>h,λb o h1 h2=>absurd h2 h1,λb o x l c h1 h2=>by grind,a,?_⟩;have f:((c.toNat:Int).toNat).toUInt8=c:=by simp
 have hi:=JH c s
 rw[qW,f];unfold BIG at hs;show AR w H γ [] (.one (.c (.d (.int .i64 (Lib.indexByte s c))))) (.int .i64 (Lib.indexByte s c))
 refine⟨λ_=>rfl,0,rfl,?_⟩;simp only[Lit.wf,akP,decide_eq_true_eq,show IntKind.i64.min=-9223372036854775808 from rfl,show IntKind.i64.max=9223372036854775807 from rfl];omega))
def ZP:CKt:=tc [.s,.s] [.s,.bo] (λx=>ae5 x.1 x.2)
theorem aaX:Cont prog 254 ZP:=Pi (kI (mq (fn:=f254) kQ0 (by rfl) (by rfl)) (λx args w H γ _ hl ha f a=>by
 obtain⟨s,p⟩:=x;obtain⟨u,v,rfl,h1,h2⟩:=Qf (x:=.one (.c (.d (.str s)))) (y:=.one (.c (.d (.str p)))) hl ha;obtain⟨rfl,hs⟩:=lK h1;have hs:List.length (α:=UInt8) s<=BIG:=hs
 obtain⟨rfl,hp⟩:=lK h2;refine(Tryz.strings_CutPrefix ⟨s.toArray⟩ ⟨p.toArray⟩ w).mono ?_;rintro e w' ⟨rfl,hw⟩
 rw[hw];refine⟨_,H,rfl,zx w,λ_ _ _ h=>h,λb o h1 h2=>absurd h2 h1,λb o x l c h1 h2=>by grind,a,_,rfl,?_⟩;rw[qW,qW];have hl:(Lib.trimPrefix s p).length<=BIG:=by grind [Lib.trimPrefix]
 show ARs w H γ [] [.c (.d (.str (Lib.trimPrefix s p))),.c (.d (.bool (Lib.hasPrefix s p)))] [_,_]
 exact⟨(yD hl:AR1 w H γ [] _ _),⟨λ_=>rfl,0,rfl⟩,trivial⟩))
def afV:CKt:=lk [.s,.s] [.s,.s,.bo] (λx=>ahQ x.1 x.2) (λx=>ai4 x.1 x.2)
theorem agP:Cont prog 81 afV:=kI (mq (fn:=f81) kQ0 (by rfl) (by rfl)) (λx args w H γ a hl ha g f=>by
 obtain⟨s,p⟩:=x;obtain⟨u,v,rfl,h1,h2⟩:=Qf (x:=.one (.c (.d (.str s)))) (y:=.one (.c (.d (.str p)))) hl ha;obtain⟨rfl,hs⟩:=lK h1;have hs:List.length (α:=UInt8) s<=BIG:=hs
 obtain⟨rfl,hp⟩:=lK h2;have a:s.length < 4294967281:=a
 obtain⟨m,hm⟩:=DA g f (k:=1) (by rfl);refine(Tryz.strings_Cut ⟨s.toArray⟩ ⟨p.toArray⟩ m w (by grind [ui]) hm).mono ?_;rintro e w' ⟨rfl,n,rfl⟩
 refine⟨_,H,rfl,IJ _ _ _,λ_ _ _ h=>h,λb o h1 h2=>absurd h2 h1,λb o x l c h1 h2=>by grind,f,_,rfl,?_⟩;rw[qW,qW];have hl:(Lib.cut s p).1.length<=BIG/\(Lib.cut s p).2.1.length<=BIG:=by grind [Lib.cut]
 show ARs _ H γ [] [.c (.d (.str (Lib.cut s p).1)),.c (.d (.str (Lib.cut s p).2.1)),.c (.d (.bool (Lib.cut s p).2.2))] [_,_,_]
 exact⟨(yD hl.1:AR1 (w.drewN n) H γ [] _ _),(yD hl.2:AR1 (w.drewN n) H γ [] _ _),⟨λ_=>rfl,0,rfl⟩,trivial⟩)
theorem xM(p:ByteArray):∀(k:Nat)(s:ByteArray),∀x∈Lib.splitB p 0 k s,x.size<=s.size
 |0,s,x,hx=>by grind [Lib.splitB_zero]
 |k+1,s,x,hx=>by
  unfold Lib.splitB at hx;split at hx
  .grind
  rcases akX.1 hx with rfl|hx
  .grind [ByteArray.size_extract]
  have:=xM p k _ x hx
  grind [ByteArray.size_extract]
def Ve:CKt:=lk [.s,.s] [.sl .s] (λx=>YM x.1 x.2) (λx=>E1 x.1 x.2)
theorem WA:Cont prog 80 Ve:=kI (mq (fn:=f80) kQ0 (by rfl) (by rfl)) (λx args w H γ f hl ha A a=>by
 obtain⟨s,p⟩:=x;obtain⟨u,v,rfl,h1,h2⟩:=Qf (x:=.one (.c (.d (.str s)))) (y:=.one (.c (.d (.str p)))) hl ha;obtain⟨rfl,hs⟩:=lK h1;have hs:List.length (α:=UInt8) s<=BIG:=hs
 obtain⟨rfl,hp⟩:=lK h2;obtain⟨f,B⟩:s.length < 4294967281/\1<=p.length:=f;obtain⟨m,hm⟩:=DA A a (k:=1) (by rfl);have r:=ui s
 refine(Tryz.strings_Split ⟨s.toArray⟩ ⟨p.toArray⟩ m w kQ1 hm (by grind [ui])).mono ?_;rintro e w' ⟨rfl,rfl⟩
 have g:=Lib.splitB_all ⟨p.toArray⟩ (by grind [ui]) 0 _ ⟨s.toArray⟩ rfl
 have q:=Lib.countB_le ⟨p.toArray⟩ (by grind [ui]) _ ⟨s.toArray⟩ (akR _)
 have n:=xM ⟨p.toArray⟩ (Lib.countB ⟨s.toArray⟩ ⟨p.toArray⟩) ⟨s.toArray⟩
 have t:E1 s p=(Lib.splitB ⟨p.toArray⟩ 0 (Lib.countB ⟨s.toArray⟩ ⟨p.toArray⟩) ⟨s.toArray⟩).map (·.data.toList):=rfl
 generalize Lib.splitB ⟨p.toArray⟩ 0 (Lib.countB ⟨s.toArray⟩ ⟨p.toArray⟩) ⟨s.toArray⟩=L at g n t|-;rw[<- g];rw[r]at q n;refine⟨_,λb o=>if b=w.heap.size then((L.map Value.string).toArray[o]?).map HV.c else H b o,rfl,(Below.refl _ w).alloc (akR _) _,λb o y h=>?_,λb o h1 h2=>?_,λb o x l c h1 h2=>?_,λb o y h=>?_,λ_=>rfl,1,?_⟩
 .have:=(a b o y h).lt
  grind
 .grind
 .grind
 .dsimp only at h;split at h
  .rename_i hb;subst hb;obtain⟨z,C,rfl⟩:=ak5.1 h;show World.cell? _ _=some z
   grind [World.cell?_alloc_new]
  exact(a b o y h).frame (cW (a b o y h).lt)
 show FD _ 1 (.li ((E1 s p).map (ap .s))) _
 rw[t,mR];unfold BIG at hs|-;refine⟨_,_,by rw[akV,akV],by simp,by grind,.inr ⟨w.heap.size,0,1,rfl,λi hi=>?_⟩⟩;have hi:i<L.length:=by grind
 have e:((L.map (·.data.toList)).map (ap .s)).getD i []=[.str L[i].data.toList]:=by rw[List.getD,akT,akT,akQ hi];rfl
 rw[e];refine⟨rfl,λj hj=>?_⟩;have hj:j=0:=by omega
 subst hj;refine⟨.string L[i],?_,?_⟩
 .grind
 refine⟨by simp,?_⟩
 grind [amK,Lib.size_eq])
end Go.Am
end

section
namespace Go.Am
variable{j:Nat}
section
variable {g:G} {s1:S} {a:Act} {w:World} {H1:FH} {γ:Gam} {F1:Nm->Fp}
theorem OC(h1:RX g s1 a w H1 γ F1){o:Operand}{os:List Operand}{r:Nm}{cells:List T}(k:aI o=true/\os.all aI=true)(B:ev s1 o=.one (.c (.pl ⟨r,0,[]⟩)))(d:ah s1.m r=some ⟨true,cells⟩)
  (v:(Nm.out j).tyd=r.tyd) (t:cells.all (T.self r)=true) (hfz:(os.map (ev s1)).all AV.isFz=true) {nt:Nat} (K:os.length+1<=nt) :
  ∃b f,γ r=.blk b/\RX ⟨nt,w,H1,F1 r,λi=>if i=j then some b else none,none,[]⟩ ⟨cO 0 (.one (.c (.pl ⟨.out j,0,[]⟩))::os.map λx=>(ev s1 x).map T.canon),[(.out j,⟨true,cells.map (T.ren r (.out j))⟩)]⟩
   ⟨((o::os).map a.eval).toArray++Array.replicate (nt - ((o::os).map a.eval).toArray.size) undef,[]⟩ w H1 f (λ_=>F1 r):=by
 have p:=aL h1 k.1
 rw[B]at p;obtain⟨_,l,ad,J,A⟩:=p;have M:=h1.mem.roots _ (aj d)
 obtain⟨b,hγr⟩:∃b,γ r=.blk b:=by grind [bv]
 have z:ad=⟨b,0,none⟩:=by grind [plA]
 subst z;have H:0<cells.length:=by rw[ay]at l;obtain⟨r0,D,q2⟩:=l;dsimp only at D;rw[d]at D;obtain rfl:=Option.some.inj D;exact q2
 let f:Gam:=λn=>if n=.out j then .blk b else γ n
 let s:Mm:=[(.out j,⟨true,cells.map (T.ren r (.out j))⟩)]
 let g1:G:=⟨nt,w,H1,F1 r,λi=>if i=j then some b else none,none,[]⟩
 have u:f (.out j)=.blk b:=by grind
 have L:bv w H1 f s (.out j) ⟨true,cells.map (T.ren r (.out j))⟩ (F1 r):=vQ M v t hγr d u ⟨cells.map (T.ren r (.out j)),by simp[s,ah],by simp⟩
 have C:∀c,F1 r c<=tot F1 s1.m c:=λc=>bD (F:=F1) (aj d) c
 let I:Nm->Fp:=λ_=>F1 r
 have q:∀c,tot I s c=F1 r c:=λc=>(anK (F1 r c))
 have E:Mem w H1 f s I:=by
  refine⟨h1.mem.agree,λx hx=>?_,by simp[s],λc=>by rw[q];exact alC (C c) (h1.mem.le1 c),λc hc=>by rw[q]at hc;exact h1.mem.lt c (by grind),λc hc=>by rw[q]at hc;exact h1.mem.nofz c (by grind)⟩
  grind
 refine⟨b,f,hγr,?_⟩;refine⟨E,⟨akR _,rfl,rfl,rfl,λ_ _ _=>rfl,λ_ _ _ h=>h,λb o h2 h3=>absurd h3 h2,λc hc=>.inl (by grind),oO⟩,?_,⟨rfl,λi b' e=>?_,ji h1⟩,λi=>?_⟩
 .grind
 .grind
 have hget:∀x,(o::os)[i]? = some x->(((o::os).map a.eval).toArray++Array.replicate (nt - ((o::os).map a.eval).toArray.size) undef).getD i undef=a.eval x:=by
  intro x hx;rw[al7,amA (by grind)]
  grind
 cases i with
 |zero=>
  rw[G.tv_none rfl,hget o rfl,A];simp only[cO,aW,if_true];refine⟨λ_=>rfl,?_,⟨b,0,none⟩,?_,rfl⟩
  .rw[ay];refine⟨⟨true,cells.map (T.ren r (.out j))⟩,by simp[s,ah],?_⟩;show 0 < (cells.map (T.ren r (.out j))).length
   grind
  grind [plA]
 |succ i=>
  have y:aW (cO 0 (.one (.c (.pl ⟨.out j,0,[]⟩))::os.map λx=>(ev s1 x).map T.canon)) (i+1)=((os.map λx=>(ev s1 x).map T.canon)[i]?).getD .any:=by grind [gU]
  show AR w H1 f s (aW (cO 0 (.one (.c (.pl ⟨.out j,0,[]⟩))::os.map λx=>(ev s1 x).map T.canon)) (i+1)) _
  rw[y,akT];cases hi:os[i]? with
  |none=>simp only[Option.map_none,Option.getD_none];trivial
  |some x=>
   have hx:=aL h1 (ak0.1 k.2 x (alU hi))
   simp only[Option.map_some,alK];have N:(ev s1 x).isFz=true:=ak0.1 hfz (ev s1 x) (am5 (alU hi))
   rw[G.tv_none rfl,hget x (by grind)];exact iG fp (wZ (λ_ _ _ h=>h) N hx)
theorem Up(h1:RX g s1 a w H1 γ F1){r:Nm}{cells:List T}(z:ah s1.m r=some ⟨true,cells⟩)(O:(Nm.out j).tyd=r.tyd){b:Nat}(hγr:γ r=.blk b){nt:Nat}{s2:S}{a':Act}{w':World}{E:FH}{γ':Gam}{v:Nm->Fp}
  (H:RX ⟨nt,w,H1,F1 r,λi=>if i=j then some b else none,none,[]⟩ s2 a' w' E γ' v) {d:List T} (u:ah s2.m (.out j)=some ⟨true,d⟩) (an:d.length=cells.length) (hs2:d.all (T.self (.out j))=true) :
  ∃F3,RX g ⟨nu (mz r) s1.t,(r,⟨true,d.map (T.ren (.out j) r)⟩)::aM (mz r) (bQ s1.m r)⟩ a w' E γ F3:=by
 have ak:∀c,F1 r c<=tot F1 s1.m c:=λc=>bD (F:=F1) (aj z) c
 have k:=H.fr
 dsimp only at k;have hd:=tY h1 r
 have N:(s1.drop r).m=aM (bm r) (bQ s1.m r):=rfl
 have l:=hd.mem
 rw[N]at l;generalize hmd0:aM (bm r) (bQ s1.m r)=md at l;have B:∀c,tot F1 md c+F1 r c=tot F1 s1.m c:=λc=>by grind [bg,ms]
 have s:∀c,tot F1 md c≠0->w'.heap[c]? = w.heap[c]? := λc hc=>k.block c (h1.mem.lt c (by grind)) (by have:=B c;have:=h1.mem.le1 c;omega)
 have I:∀c,c<w.heap.size->F1 r c=0->H1 c=E c:=by
  intro c hc h0
  funext o
  cases hh:H1 c o with
  |some y=>rw[k.hold c o y hh]
  |none=>
   cases al:E c o with
   |none=>rfl
   |some y=>
    rcases k.hnew c o (by grind) hh with h'|h'
    all_goals omega
 have U:=fj (w':=w') l s
 have ad:Mem w' E γ md F1:=by refine⟨H.mem.agree,λx hx=>aZ U k.hold rfl (λc hc=>s c (by grind [bD])) (l.roots x hx),l.keys,l.le1,λc hc=>by grind [Mem.lt],λc hc o=>?_⟩;rw[<- I c (l.lt c hc) (by have:=B c;have:=h1.mem.le1 c;omega)];exact l.nofz c hc o
 have K:=H.mem.roots _ (aj u)
 have P:γ' (.out j)=.blk b:=H.df.2.1 j b (by simp)
 have A:ah md r=none:=by rw[<- hmd0];exact JA h1.mem.keys
 have G:upd γ r (.blk b)=γ:=by grind [dZ,mO]
 have X:bv w' E (upd γ r (.blk b)) ((r,⟨true,d.map (T.ren (.out j) r)⟩)::md) r ⟨true,d.map (T.ren (.out j) r)⟩ (v (.out j)):=vQ K O.symm hs2 P u dZ ⟨d.map (T.ren (.out j) r),by grind [ah],by simp⟩
 have af:∀c,v (.out j) c<=tot v s2.m c:=λc=>bD (F:=v) (aj u) c
 have ac:∀c,v (.out j) c≠0->F1 r c≠0\/w.heap.size<=c:=λc hc=>k.tt c (by grind)
 have L:∀c,v (.out j) c≠0->tot F1 md c=0:=λc hc=>by
  rcases ac c hc with h'|h'
  .have:=B c;have:=h1.mem.le1 c;omega
  grind [Mem.lt]
 obtain⟨M,ae⟩:=yg ad (n:=r) (rc:=.blk b) (r:=⟨true,d.map (T.ren (.out j) r)⟩) (f:=v (.out j)) A X (λc=>by
   by_cases hc:v (.out j) c=0
   .grind [Mem.le1]
   have:=L c hc;have:=H.mem.le1 c;grind)
  (λc hc=>⟨H.mem.lt c (by grind),H.mem.nofz c (by grind)⟩)
 rw[G]at M;have am:Fr w H1 (tot F1 s1.m) w' E (tot (upd F1 r (v (.out j))) ((r,⟨true,d.map (T.ren (.out j) r)⟩)::md)):=by
  refine⟨k.size,k.os,k.tape,k.output,λc hc h0=>k.block c hc (by grind),k.hold,λc o h2 h3=>?_,λc hc=>?_,k.nz⟩
  all_goals grind
 have J:KeepsB (mz r) w γ s1.m w' γ ((r,⟨true,d.map (T.ren (.out j) r)⟩)::md):=by
  have ab:=mT (w:=w') (γ:=γ) (rc:=.blk b) (r:=⟨true,d.map (T.ren (.out j) r)⟩) A
  rw[G]at ab;have ag:KeepsB (bm r) w γ s1.m w γ md:=by grind [eD]
  constructor
  .intro q p hq;by_cases C:q.root=r
   .obtain⟨qr,qo,qp⟩:=q;dsimp only at C;subst C;simp only[mz,decide_true,ak9,Bool.false_or,Bool.not_eq_false',List.isEmpty_iff]at p;subst p;refine⟨?_,by rfl⟩;rw[ay]at hq|-;obtain⟨r0,W,q2⟩:=hq;dsimp only at W q2;rw[z]at W;obtain rfl:=Option.some.inj W;refine⟨⟨true,d.map (T.ren (.out j) qr)⟩,by grind [ah],?_⟩;have ai:qo<cells.length:=q2
    show qo < (d.map (T.ren (.out j) qr)).length
    grind
   grind [KeepsB.pl,bm,Keeps.pl,Keeps.pl]
  grind [mz,KeepsB.rf,bm,Keeps.rf,Keeps.rf]
 have aa:ah ((r,(⟨true,d.map (T.ren (.out j) r)⟩:Root))::aM (mz r) (bQ s1.m r)) r=some ⟨true,d.map (T.ren (.out j) r)⟩:=by grind [ah]
 have D:KeepsB (mz r) w γ s1.m w' γ ((r,⟨true,d.map (T.ren (.out j) r)⟩)::aM (mz r) (bQ s1.m r)):=by
  constructor
  .intro q p hq;refine⟨?_,(J.pl q p hq).2⟩;by_cases C:q.root=r
   .have h:=(J.pl q p hq).1
    grind [ay,ah]
   have h2:bU (aM (mz r) (bQ s1.m r)) q:=s7 (by grind [ay,ng])
   grind [ay,ah]
  intro q p hq;have C:q.root≠r:=by grind [mz]
  refine⟨?_,(J.rf q p hq).2⟩;have h2:gY (aM (mz r) (bQ s1.m r)) q:=s8 (by grind [gY,ng])
  grind [gY,ah]
 have Q:∀Y:Nm->Fp,tot Y ((r,(⟨true,d.map (T.ren (.out j) r)⟩:Root))::aM (mz r) (bQ s1.m r))=tot Y ((r,⟨true,d.map (T.ren (.out j) r)⟩)::md):=λY=>by grind [eY,bg]
 have V:Mem w' E γ ((r,⟨true,d.map (T.ren (.out j) r)⟩)::aM (mz r) (bQ s1.m r)) (upd F1 r (v (.out j))):=by
  refine⟨M.agree,λx hx=>?_,?_,λb=>by rw[Q];exact M.le1 b,λb hb=>M.lt b (by simp_all),λb hb=>M.nofz b (by simp_all)⟩
  .rcases akX.1 hx with rfl|hx
   .grind [dZ,vQ]
   simp only[aM,ak8]at hx;obtain⟨x0,R,rfl⟩:=hx;dsimp only;have Z:x0.1≠r:=λe=>rv (n:=r) h1.mem.keys (by grind)
   rw[mO Z];refine sH D k.hold rfl (λc hc=>s c ?_) (h1.mem.roots x0 (AN R))
   grind [bD,bg]
  have:=M.keys
  grind [oL]
 refine⟨_,j4 h1 V (by grind) (λi=>?_) (λ_=>rfl)⟩;rw[oE];exact tM D k.hold (h1.t i)
end
theorem abW{α β:Type}{r:Except Value α×β}{K K':α->β->Prop}{a:Value->β->Prop}(h:∀x y,K x y->K' x y)(hr:exP r K a):exP r K' a:=by grind [exP]
variable{an:An}{fn:Func}{ps rs:List U}{sh:List Sh}{u:U}
theorem yL{e:En}(he:e.ok)(hm:e.P.follows .mixedOrders=true){f:Nat}(hf:e.P.funcs[f]? = some fn) (X:(fn.name == "runtime.NumGoroutine")=false) (hb:fn.body.isSome=true)    
  (ae:Nat.ble (ps.length+1) fn.ntmps=true) (hc:ii fn.ntmps (fn.body.getD .skip)=true):Cont e.P f (Bc e fn an sh u ps rs):=by
 have am:fn.body=some (fn.body.getD .skip):=by cases h:fn.body<;>grind
 refine⟨wP hf X hb,λpk s ops k k' hk l=>?_,λg pk s a w H γ F1 ops k hX ax l=>?_⟩
 .unfold Bc at l|-;split at l
  .omega
  dsimp only at l|-;split at l
  .split at l
   .split at l
    .split at l
     .split at l
      .obtain⟨KK,KP,b1,b2,b3⟩:=l;refine⟨KK,KP,b1,λz x' hz=>hk _ _ ?_ (b2 z x' hz),b3⟩;exact((eC _ _).trans (dI _ _ _ _ _)).trans ⟨alN _,gO (akR _),((mQ _).trans (dQ (akR _))).trans (km _ _ _ (akR _))⟩
      omega
     omega
    omega
   omega
  omega
 unfold Bc at l;cases ops with
 |nil=>grind
 |cons o os=>
  dsimp only at l;have D:aI o=true/\os.all aI=true:=by grind
  obtain⟨H1,F2,h1⟩:=iI (os.map (evA s)) s H F1 hX;generalize cR s (os.map (evA s))=s1 at l h1;split at l
  .rename_i r aA;obtain⟨H2,R,F3,h2⟩:=d9 (g:=g) r (iO u) sh 0 (V7 h1);generalize br s1 r (iO u) sh 0=s2 at l h2;split at l
   .rename_i n ab;split at l
    .rename_i cells az Y U;have ai:n=r:=by grind
     subst ai;split at l
     .rename_i ts V;split at l
      .rename_i x y hx hy;have aw:=fZ h2
       obtain⟨c1,c2,c3⟩:=kQ hy;obtain⟨k1,_⟩:=yz V (om hx);have q:ah s2.toS.m n=some ⟨true,cells.map Tt.toT⟩:=by
        have:=bi U
        exact this
       have Q:os.length=ps.length:=by grind [gQ]
       obtain⟨b,ag,hγr,ad⟩:=OC (j:=0) h2 D (by rw[ak D.1,ab];rfl) q (by rw[Y];rfl) (sM V).1 (by grind [uQ]) (nt:=fn.ntmps) (by rw[Q];exact akZ ae);have G:=C7 ad (.out 0)
       have e0:(⟨1,(0,0,.one (.c (.pl ⟨.out 0,0,[]⟩)))::BW 1 ps y,[(.out 0,0,⟨true,bf sh (flat u x),none⟩)]⟩:St).toS=⟨cO 0 (.one (.c (.pl ⟨.out 0,0,[]⟩))::os.map λx=>(ev s2.toS x).map T.canon),[(Nm.out 0,(⟨true,(cells.map Tt.toT).map (T.ren n (.out 0))⟩:Root))].map λx=>(x.1,if x.1=.out 0 then mE x.2 else x.2)⟩:=by
        have M:(os.map λx=>(ev s2.toS x).map T.canon)=j6 ps y:=by
         have e:(os.map λx=>(ev s2.toS x).map T.canon)=(os.map (ev s2.toS)).map (AV.map T.canon):=by rw[al3];rfl
         grind [uQ]
        rw[M];refine bF.S_ext ?_ ?_
        .simp only[St.toS,List.map_cons,cO,pU];rfl
        rw[(sM V).2]
        grind [Rt.toR,holed,mE]
       rw[<- e0]at G;obtain⟨KK,KP,h,au,aj⟩:=l;have L:∀{s':S}{a':Act}{w':World}{H':FH}{γ':Gam}{F':Nm->Fp}{d I:List Tt}{p:El u},RX ⟨fn.ntmps,w,H2,F3 n,λi=>if i=0 then some b else none,none,[]⟩ s' a' w' H' γ' F' ->
         ah s'.m (.out 0)=some ⟨true,d.map Tt.toT⟩->gZ sh d=some I->lI u I=some p ->
         ∃F4,RX g (⟨s2.nx+1,lb (jm n) s2.nx s2.t,(n,s2.nx,⟨true,bf sh (flat u p),none⟩)::cc (jm n) s2.nx (e8 s2.m n)⟩:St).toS a w' H' R F4:=by
        intro s' a' w' H' γ' F' d I p N Z q2 q3;obtain⟨k3,_⟩:=yz q2 (om q3);have hl:(d.map Tt.toT).length=(cells.map Tt.toT).length:=by
         have l2:∀(sh:List Sh)(a b:List C),a.length=b.length->(bf sh a).length=(bf sh b).length:=by
          intro sh;induction sh with
          |nil=>intro a b _;rfl
          |cons s r ih=>
           intro a b aC;have ao:∀(c:C)(cs:List C),(bf (s::r) (c::cs)).length=(bf r cs).length+1:=by intro c cs;cases s<;>cases c<;>rfl
           cases a with
           |nil=>grind
           |cons c cs=>cases b<;>grind
         grind [xt,akV]
        obtain⟨F4,hX'⟩:=Up (j:=0) h2 q (by rw[Y];rfl) hγr N Z hl (sM q2).1;refine⟨F4,?_⟩;have aD:=C7 hX' n
        have al:((n,(⟨true,(d.map Tt.toT).map (T.ren (.out 0) n)⟩:Root))::aM (mz n) (bQ s2.toS.m n)).map (λx=>(x.1,if x.1=n then mE x.2 else x.2))=(n,⟨true,(bf sh (flat u p)).map Tt.toT⟩)::aM (mz n) (bQ s2.toS.m n):=by
         simp only[List.map_cons,if_true]
         congr 1
         .grind [D3,mE]
         refine(ak4 λz hz=>?_).trans (List.map_id _);have aB:z.1≠n:=by
          intro e;have ac:z.1∈(aM (mz n) (bQ s2.toS.m n)).map (·.1):=am5 (f:=(·.1)) hz
          have N:(aM (mz n) (bQ s2.toS.m n)).map (·.1)=(bQ s2.toS.m n).map (·.1):=by simp only[aM,al3];rfl
          rw[N,e]at ac;exact rv h2.mem.keys ac
         grind
        have ay:(⟨s2.nx+1,lb (jm n) s2.nx s2.t,(n,s2.nx,⟨true,bf sh (flat u p),none⟩)::cc (jm n) s2.nx (e8 s2.m n)⟩:St).toS=⟨nu (mz n) s2.toS.t,(n,⟨true,(bf sh (flat u p)).map Tt.toT⟩)::aM (mz n) (bQ s2.toS.m n)⟩:=by
         refine bF.S_ext (nr _ _ _) ?_;simp only[St.toS,List.map_cons]
         congr 1
         have:=eI (jm n) s2.nx (e8 s2.m n)
         rw[m8 _ _ aw]at this;exact this
        grind
       refine calls_of_wp hf am (Code.wp_mono (λex a' w' hl=>?_) (sy (e:=⟨e.P,e.E,e.cs,e.sh,Q3 sh u KP⟩) he hm (g:=⟨fn.ntmps,w,H2,F3 n,λi=>if i=0 then some b else none,none,[]⟩) _ an _ _ hc h _ w ⟨H2,ag,_,G⟩));obtain⟨s',hq,hR⟩:=hl;have fin:∀t:St,s'=t.toS->vi e.P fn.results.toList sh u rs KK t ->
         a'.defers=[]/\∃v,(results fn a'.tmps).run e.P w'=.ok v w'/\pP g a pk k (.returned v) w':=by
        rintro t rfl J
        unfold vi at J;dsimp only at J;have A:=d9 (.out 0) (iO u) sh 0 (sG fn.results.toList hR)
        generalize br (kX t fn.results.toList) (.out 0) (iO u) sh 0=s3 at J A;have aa:=sR (us:=rs) (k:=λvs=>match cG rs vs,bK s3.m (.out 0)with
         |some af,some ⟨true,cells,none⟩=>match gZ sh cells with
          |some ts=>match lI u ts with
           |some av=>KK (af,av)
           |none=>False
          |none=>False
         |_,_=>False) (by
          intro vs B;split at B
          all_goals grind) J
        have aq:=mn (us:=rs) (K:=λr=>∃cells ts p,bK s3.m (.out 0)=some ⟨true,cells,none⟩/\gZ sh cells=some ts/\lI u ts=some p/\KK (r,p)) (afF A) (by
          intro vs B;split at B
          .rename_i x1 d h1 h2;split at B
           .rename_i ts h3;split at B
            all_goals grind
           grind
          grind) J
        obtain⟨Hs,ar,Fs,W⟩:=A;obtain⟨y0,v,H4,F4,M,N,e3,e4,r0,e5,d,I,p,q1,q2,q3,q4⟩:=Y3 W rfl (Q1 aa (K:=λv=>∃r,v=(dp rs r).toV/\∃cells ts p,bK s3.m (.out 0)=some ⟨true,cells,none⟩/\gZ sh cells=some ts/\lI u ts=some p/\KK (r,p)) (λr hr=>⟨r,rfl,hr⟩) aq);rw[aa]at N e3;obtain⟨F5,O⟩:=L N (bi q1) q2 q3;refine⟨N.df.1,y0,M,.inl ⟨y0,_,dp rs r0,H4,R,F5,rfl,au _ _ q4,?_,O⟩⟩;rw[<- e5];exact iG fp (wZ (λ_ _ _ h=>h) e4 e3)
       cases ex with
       |normal=>obtain⟨t,M,J⟩:=hq;exact fin t M J
       |ret=>obtain⟨t,M,J⟩:=hq;exact fin t M J
       |exit i=>obtain⟨t,M,J⟩:=hq;grind
       |panic c=>
        obtain⟨v,t,rfl,rfl,hv⟩:=hq;unfold Q3 at hv;dsimp only at hv;have A:=d9 (.out 0) (iO u) sh 0 hR
        have ap:a'.defers=[]:=by obtain⟨_,_,_,hX'⟩:=hR;exact hX'.df.1
        generalize br t (.out 0) (iO u) sh 0=s3 at hv A;split at hv
        .rename_i d q1;split at hv
         .rename_i I q2;split at hv
          .rename_i p q3;obtain⟨Hs,ar,Fs,W⟩:=A;obtain⟨F5,O⟩:=L W (bi q1) q2 q3;exact⟨ap,.inr ⟨v,_,rfl,aj _ _ hv,Hs,R,F5,O⟩⟩
          grind
         grind
        grind
       |_=>exact hq.elim
      grind
     grind
    grind
   grind
  grind
variable{e:En}{f:Nat}
theorem Rm(o:e.ok)(hm:e.P.follows .mixedOrders=true)(hf:e.P.funcs[f]? = some fn) (c:(fn.name == "runtime.NumGoroutine")=false) (hb:fn.body.isSome=true) {an:An} {sh:List Sh} {u:U} {ps rs:List U} {pre:El u->Fl ps->Prop} {Fn:El u->Fl ps->Except Value (Fl rs)×El u}
  (i:Nat.ble (ps.length+1) fn.ntmps=true) (hc:ii fn.ntmps (fn.body.getD .skip)=true) (j:∀x y,pre x y->∀(KK:Fl rs×El u->Prop)(m:Value->El u->Prop),exP (Fn x y) (λz x'=>KK (z,x')) m->yk e fn an sh u ps rs x y KK m):Cont e.P f (QY sh u ps rs pre Fn):=by
 have h:=yL o hm hf c hb (an:=an) (sh:=sh) (u:=u) (ps:=ps) (rs:=rs) i hc
 refine⟨h.run,λpk s ops k k' hk b=>?_,λg pk s a w H γ F ops k n d b=>h.call g pk s a w H γ F ops k n d ?_⟩
 .unfold QY at b|-;split at b
  .omega
  dsimp only at b|-
  (repeat' split at b)<;>first|exact b.elim|skip
  refine⟨b.1,abW (λz x' l=>hk _ _ ?_ l) b.2⟩;exact((eC _ _).trans (dI _ _ _ _ _)).trans ⟨alN _,gO (akR _),((mQ _).trans (dQ (akR _))).trans (km _ _ _ (akR _))⟩
 unfold QY at b;unfold Bc;split at b
 .omega
 dsimp only at b|-
 (repeat' split at b)<;>first|exact b.elim|skip
 rename_i x y _ _;refine⟨λz=>Fn x y=(.ok z.1,z.2),λv x'=>Fn x y=(.error v,x'),j _ _ b.1 _ _ ?_,λz x' l=>?_,λv x' hv=>?_⟩
 .generalize Fn x y=r;obtain⟨r1,r2⟩:=r;cases r1<;>rfl
 .have h2:=b.2;rw[show Fn x y=(.ok z,x')from l]at h2;exact h2
 have h2:=b.2;rw[hv]at h2;exact h2
theorem Gv{e:En}(j:e.ok)(hm:e.P.follows .mixedOrders=true){g:G}(k:g.nt=fn.ntmps)(hc:ii fn.ntmps (fn.body.getD .skip)=true){x:Fl ps}{KK:Fl rs->Prop}{K:AV->Prop}
  (f:∀r,KK r->K (dp rs r).toV) (h:uh e fn an ps rs x KK):AW e.P g (fn.body.getD .skip) (ahW e.P fn.results.toList K) ⟨cO 0 (j6 ps x),[]⟩:=by
 have h1:=sy (e:=⟨e.P,e.E,e.cs,e.sh,λ_ _=>False⟩) j hm (g:=g) _ an (EW ps x) _ (by grind) h
 have e0:(EW ps x).toS=⟨cO 0 (j6 ps x),[]⟩:=bF.S_ext (pU 0 ps x) rfl
 rw[e0]at h1;refine yF h1 (λex s' a w h' d=>?_);cases ex with
 |normal=>obtain⟨t,rfl,b⟩:=h';exact Ge f b d
 |ret=>obtain⟨t,rfl,b⟩:=h';exact Ge f b d
 |exit i=>exact h'.elim (λt b=>b.2.elim)
 |panic c=>obtain⟨_,_,_,_,hf⟩:=h';grind
 |_=>exact h'.elim
theorem ajB(a:scU u=true)(x:El u):∀{H H':FH}{y:Value},FDx H (ao u x).toD y->FDx H' (ao u x).toD y:=by
 intro H H' y h;cases u with
 |i k=>obtain⟨rfl,h2⟩:=fJ h;exact⟨0,rfl,h2⟩
 |b8=>obtain⟨rfl,h2⟩:=fJ h;exact⟨0,rfl,h2⟩
 |bo=>obtain rfl:=jh h;exact⟨0,rfl⟩
 |s=>obtain⟨rfl,h2⟩:=ia h;exact⟨0,rfl,h2⟩
 |_=>cases a
theorem adR(a:scU u=true)(x:El u):Ct u x=.c (.d (ao u x)):=by cases u<;>first|rfl|cases a
theorem ajA{w w':World}{H H':FH}{γ γ':Gam}{m m':Mm}:∀{rs:List U}{y:Fl rs}{z:Value},rs.all scU=true->AR w H γ m (dp rs y).toV z->AR w' H' γ' m' (dp rs y).toV z:=by
 have one:∀{u:U}{x:El u}{z:Value},scU u=true->AR1 w H γ m (Ct u x).toV z->AR1 w' H' γ' m' (Ct u x).toV z:=by intro u x z a h;rw[adR a]at h|-;exact⟨h.1,ajB a x h.2⟩
 have all:∀(rs:List U)(y:Fl rs)(zs:List Value),rs.all scU=true->ARs w H γ m ((dp.resL rs y).map A1.toV) zs->ARs w' H' γ' m' ((dp.resL rs y).map A1.toV) zs:=by
  intro rs;induction rs with
  |nil=>intro y zs _ h;cases zs with
   |nil=>trivial
   |cons _ _=>exact h.elim
  |cons u r ih=>
   intro y zs hs h;simp only[ak2,akP]at hs;cases zs with
   |nil=>exact h.elim
   |cons z zs=>exact⟨one hs.1 h.1,ih _ zs hs.2 h.2⟩
 intro rs y z hs h
 match rs,y with
 |[],_=>obtain⟨l,h1,h2⟩:=h;exact⟨l,h1,all [] () _ rfl h2⟩
 |[u],y=>
  simp only[ak2,anA,amN]at hs;have e:(dp [u] y).toV=.one (Ct u y).toV:=by show(BH u y).toV=_;rw[vA];rfl
  rw[e]at h|-;exact one hs h
 |u::v::r,y=>obtain⟨l,h1,h2⟩:=h;exact⟨l,h1,all (u::v::r) y _ hs h2⟩
section
variable {P:Program} {g:G} {a:Act} {w:World} {H:FH} {γ:Gam} {F:Nm->Fp}
theorem Lu{s:St}{p:Pl}{l:List (El u)}{r:Rt}(hr:bK s.m p.root=some r)(o:r.hole=none)(h:sliceAt s.m p=some ⟨sh,u,l⟩)(hp:okP s.toS.m p):aU s.toS.m p=some (.ow sh (l.map (ap u))):=by
 unfold sliceAt at h;split at h
 .rename_i k u' l' b;cases h;have e:r.toR=⟨r.blk,r.cells.map Tt.toT⟩:=by unfold Rt.toR;rw[o];rfl
  have g:ah s.toS.m p.root=some ⟨r.blk,r.cells.map Tt.toT⟩:=by rw[<- e];exact bi hr
  unfold atT at b;rw[hr]at b;dsimp only at b;unfold aU;rw[g];dsimp only;cases a:p.path with
  |nil=>
   rw[a]at b;dsimp only at b|-;split at b
   .simp only[akO]at b;have:(r.cells.drop p.off)[0]? = some (.ow sh u l):=by grind [amD]
    rw[amW,anK]at this;rw[akT,this];rfl
   grind
  |cons st q=>
   rw[a]at b;dsimp only at b|-;split at b
   .rename_i sub n l2 _ hc;unfold okP at hp;rw[a]at hp;obtain⟨v,i,l',j,f,t⟩:=hp;rw[g]at j;obtain rfl:=Option.some.inj j;dsimp only at f;have d:(r.cells.map Tt.toT)[p.off]? = some (.ow sub (l2.map (ap n))):=by rw[akT,hc];rfl
    rw[d]at f;have c:=Option.some.inj f
    simp only[T.ow.injEq]at c;obtain⟨rfl,rfl⟩:=c;rw[d];dsimp only;rw[Ap t b]
   grind
 grind
def ny(w:World)(H:FH)(t:Fp):FH:=λb o=>if t b≠0 then(w.cell? ⟨b,o,none⟩).map HV.c else H b o
theorem uG{s:S}(h:RX g s a w H γ F):∀b o y,H b o=some y->ny w H (tot F s.m) b o=some y:=by
 intro b o y hy;unfold ny;split
 .rename_i hb;rw[h.mem.nofz b hb o]at hy;cases hy
 omega
theorem Kv{s:S}(h:RX g s a w H γ F):∀b o y,ny w H (tot F s.m) b o=some y->RdV w b o y:=by
 intro b o y hy;unfold ny at hy;split at hy
 .obtain⟨z,c,rfl⟩:=ak5.1 hy;exact c
 exact h.mem.agree b o y hy
theorem NX(s:St)(v:At):lent s v=v\/∃p r sh u l,v=.one (.c (.rf p))/\lent s v=sct (.li u l)/\bK s.m p.root=some r/\r.hole=none/\sliceAt s.m p=some ⟨sh,u,l⟩:=by
 unfold lent
 grind
theorem acW{s:St}(h:RX g s.toS a w H γ F){v:At}{z:Value}(hv:AR w H γ s.toS.m v.toV z)(q:(lent s v).toV.isFz=true):AR w (ny w H (tot F s.toS.m)) γ [] (lent s v).toV z:=by
 rcases NX s v with e|⟨p,r,sh,u,l,rfl,e,hr,j,hs⟩
 .grind [wZ,uG]
 rw[e];have i:=Lu hr j hs (qh hv.2.1)
 obtain⟨f,y,c,⟨k,d⟩,n,_⟩:=zd h.mem (fA hv.2.1) i;rw[hv.2.2]at c;obtain rfl:=Option.some.inj c;refine⟨λ_=>rfl,VS (uG h) k _ _ f _ d (λb hb o x hx=>?_)⟩
 grind [ny]
theorem Yb{s:St}(h:RX g s.toS a w H γ F){ops:List Operand}(c:ops.all aI=true){x:Fl ps}(hx:cG ps (ops.map λx=>lent s (evA s x))=some x){nt:Nat}(d:ops.length<=nt) :
  RX ⟨nt,w,ny w H (tot F s.toS.m),λ_=>0,λ_=>none,none,[]⟩ ⟨cO 0 (j6 ps x),[]⟩ ⟨(ops.map a.eval).toArray++Array.replicate (nt - (ops.map a.eval).toArray.size) undef,[]⟩ w (ny w H (tot F s.toS.m)) γ F:=by
 obtain⟨l,n,f⟩:=kQ hx;refine⟨⟨Kv h,λx hx=>by grind,by simp,λb=>alL _,λb hb=>absurd rfl hb,λb hb=>absurd rfl hb⟩,⟨akR _,rfl,rfl,rfl,λ_ _ _=>rfl,λ_ _ _ h=>h,λb o h2 h3=>absurd h3 h2,λb hb=>absurd rfl hb,oO⟩,?_,⟨rfl,λj b e=>by simp at e,za (uG h) (ji h)⟩,λi=>?_⟩
 .grind
 show AR w _ γ [] (aW (cO 0 (j6 ps x)) i) (Array.getD _ i undef)
 rw[<- f,gU];simp only[alL,if_true,Nat.sub_zero,akT];cases hi:ops[i]? with
 |none=>simp only[Option.map_none,Option.getD_none];trivial
 |some y=>
  have hop:=ak0.1 c y (alU hi)
  have hy:=aL h hop
  rw[ak hop]at hy;simp only[Option.map_some,alK];have k:(lent s (evA s y)).toV.isFz=true:=by grind
  have hget:((ops.map a.eval).toArray++Array.replicate (nt - (ops.map a.eval).toArray.size) undef).getD i undef=a.eval y:=by rw[al7,amA (by grind)];simp[hi]
  rw[hget];exact iG fp (acW h hy k)
theorem RE{s1:S}(h1:RX g s1 a w H γ F){w':World}{j:FH}{tt:Fp}(d:Fr w (ny w H (tot F s1.m)) (λ_=>0) w' j tt)(q:∀b o y,j b o=some y->RdV w' b o y) :
  RX g s1 a w' (λb o=>if tot F s1.m b≠0 then none else j b o) γ F:=by
 have hold:∀b,b<w.heap.size->w'.heap[b]? = w.heap[b]? := λb hb=>d.block b hb rfl
 have e:∀b,tot F s1.m b≠0->w'.heap[b]? = w.heap[b]? := λb hb=>hold b (h1.mem.lt b hb)
 have n:=fj (w':=w') h1.mem e
 have f:∀b o y,H b o=some y->(if tot F s1.m b≠0 then none else j b o)=some y:=by
  intro b o y hy;split
  .rename_i hb;rw[h1.mem.nofz b hb o]at hy;cases hy
  exact d.hold b o y (uG h1 b o y hy)
 have hnew:∀b o,(if tot F s1.m b≠0 then none else j b o)≠none->H b o=none->w.heap.size<=b:=by
  intro b o h2 h3;split at h2
  .grind
  rename_i hb;have h4:ny w H (tot F s1.m) b o=none:=by grind [ny]
  rcases d.hnew b o h2 h4 with h'|h'
  all_goals omega
 have k:Mem w' (λb o=>if tot F s1.m b≠0 then none else j b o) γ s1.m F:=by
  refine⟨λb o y hy=>?_,λx hx=>aZ n f rfl (λb hb=>e b (by grind [bD])) (h1.mem.roots x hx),h1.mem.keys,h1.mem.le1,λb hb=>by have:=h1.mem.lt b hb;grind,λb hb o=>?_⟩
  all_goals grind
 have p:Fr w H (tot F s1.m) w' (λb o=>if tot F s1.m b≠0 then none else j b o) (tot F s1.m):=
  ⟨d.size,d.os,d.tape,d.output,λb hb _=>hold b hb,f,λb o h2 h3=>.inr (hnew b o h2 h3),λb hb=>.inl hb,d.nz.1,λb o x l c h2 h3=>by grind [Fr.nz,ny]⟩
 exact j4 h1 k p (λi=>dw n f (h1.t i)) (λ_=>rfl)
theorem yH(u:e.ok)(hm:e.P.follows .mixedOrders=true)(hf:e.P.funcs[f]? = some fn) (c:(fn.name == "runtime.NumGoroutine")=false) (hb:fn.body.isSome=true)   {Φ:Fl ps->(Fl rs->Prop)->Prop}
  (i:Nat.ble ps.length fn.ntmps=true) (hc:ii fn.ntmps (fn.body.getD .skip)=true) (n:∀x KK,Φ x KK->uh e fn an ps rs x KK):Cont e.P f (AC ps rs Φ):=by
 have l:fn.body=some (fn.body.getD .skip):=by cases h:fn.body<;>grind
 refine⟨wP hf c hb,λpk s ops k k' hk b=>?_,λg pk s a w H γ F ops k p d b=>?_⟩
 .grind [AC,Ext.refl]
 unfold AC at b;split at b
 rotate_left
 .grind
 rename_i x hx hs;obtain⟨KK,h1,hk⟩:=b;have o:ops.length=ps.length:=by
  obtain⟨_,_,D⟩:=kQ hx
  grind [gQ]
 have q:=Gv (g:=⟨fn.ntmps,w,ny w H (tot F s.toS.m),λ_=>0,λ_=>none,none,[]⟩) u hm rfl hc (K:=λr=>∃y,KK y/\r=(dp rs y).toV) (λr hr=>⟨r,hr,rfl⟩) (n x KK h1)
 refine calls_of_wp hf l (Code.wp_mono (λex a' w' hl=>?_) (q _ w ⟨_,γ,F,Yb p d hx (nt:=fn.ntmps) (by rw[o];exact akZ i)⟩));obtain⟨s',hq,H',γ',F',hX'⟩:=hl;have fin:wO e.P s' fn.results.toList (λr=>∃y,KK y/\r=(dp rs y).toV)->a'.defers=[]/\∃v,(results fn a'.tmps).run e.P w'=.ok v w'/\pP g a pk k (.returned v) w':=by
  intro hq;obtain⟨z,v,s2,I,E,t,j,A,C,y,B,G⟩:=F9 hX' rfl hq;refine⟨j.df.1,z,t,.inl ⟨z,s,dp rs y,_,γ,F,rfl,hk y B,?_,RE p j.fr j.mem.agree⟩⟩;have:=iG fp A
  grind [ajA]
 cases ex with
 |normal=>exact fin hq
 |ret=>exact fin hq
 |_=>exact hq.elim
theorem Rl(m:e.ok)(hm:e.P.follows .mixedOrders=true)(hf:e.P.funcs[f]? = some fn) (b:(fn.name == "runtime.NumGoroutine")=false) (hb:fn.body.isSome=true)  {rs:List U} {pre:Fl ps->Prop} {Fn:Fl ps->Fl rs}
  (d:Nat.ble ps.length fn.ntmps=true) (hc:ii fn.ntmps (fn.body.getD .skip)=true) (i:∀x,pre x->∀KK:Fl rs->Prop,KK (Fn x)->uh e fn an ps rs x KK):Cont e.P f (Ya ps rs pre Fn):=by
 have h:=yH m hm hf b hb (rs:=rs) (Φ:=λx KK=>pre x/\KK=λy=>y=Fn x) d hc (λx KK⟨h1,h2⟩=>i x h1 KK (by rw[h2]))
 refine⟨h.run,λpk s ops k k' hk j=>?_,λg pk s a w H γ F ops k l c j=>h.call g pk s a w H γ F ops k l c ?_⟩
 all_goals grind [Ya,Ext.refl,AC]
end
abbrev afM(ps rs:List U)(pre:Fl ps->Prop)(post:Fl ps->Fl rs->Prop):CKt:=phT ps rs λx K _=>pre x/\∀y,post x y->K y
structure NmR (σ:Nm->Nm):Prop where
 inv:∀n,σ (σ n)=n
 tyd:∀n,(σ n).tyd=n.tyd
theorem NmR.inj{σ:Nm->Nm}(h:NmR σ){n n':Nm}(e:σ n=σ n'):n=n':=by rw[<- h.inv n,<- h.inv n',e]
def Pl.rn(σ:Nm->Nm)(p:Pl):Pl:=⟨σ p.root,p.off,p.path⟩
def T.rn(σ:Nm->Nm):T->T
 |.pl p=>.pl (p.rn σ)
 |.rf p=>.rf (p.rn σ)
 |t=>t
def AV1.rn(σ:Nm->Nm):AV1->AV1
 |.c t=>.c (t.rn σ)
 |.agg ts=>.agg (ts.map (T.rn σ))
def AV.rn(σ:Nm->Nm):AV->AV
 |.one x=>.one (x.rn σ)
 |.tup xs=>.tup (xs.map (AV1.rn σ))
 |.any=>.any
def Root.rn(σ:Nm->Nm)(r:Root):Root:=⟨r.blk,r.cells.map (T.rn σ)⟩
def rnM(σ:Nm->Nm)(m:Mm):Mm:=m.map λx=>(σ x.1,x.2.rn σ)
def S.rn(σ:Nm->Nm)(s:S):S:=⟨s.t.map λx=>(x.1,x.2.rn σ),rnM σ s.m⟩
def Tt.rn(σ:Nm->Nm):Tt->Tt
 |.pl p=>.pl (p.rn σ)
 |.rf p=>.rf (p.rn σ)
 |t=>t
def A1.rn(σ:Nm->Nm):A1->A1
 |.c t=>.c (t.rn σ)
 |.agg ts=>.agg (ts.map (Tt.rn σ))
def At.rn(σ:Nm->Nm):At->At
 |.one x=>.one (x.rn σ)
 |.tup xs=>.tup (xs.map (A1.rn σ))
 |.any=>.any
def Rt.rn(σ:Nm->Nm)(r:Rt):Rt:=⟨r.blk,r.cells.map (Tt.rn σ),r.hole⟩
def St.rn(σ:Nm->Nm)(s:St):St:=⟨s.nx,s.t.map λx=>(x.1,x.2.1,x.2.2.rn σ),s.m.map λx=>(σ x.1,x.2.1,x.2.2.rn σ)⟩
variable{y:Value}
section
variable {σ:Nm->Nm}
theorem Tt.rn_toT:∀t:Tt,(t.rn σ).toT=t.toT.rn σ
 |.d _=>rfl
 |.nil=>rfl
 |.ow _ _ _=>rfl
 |.mp _ _ _=>rfl
 |.it _ _ _ _=>rfl
 |.mo _ _ _ _=>rfl
 |.el _ _=>rfl
 |.ga _ _ _=>rfl
 |.pl _=>rfl
 |.rf _=>rfl
 |.any=>rfl
theorem Wd(ts:List Tt):(ts.map (Tt.rn σ)).map Tt.toT=(ts.map Tt.toT).map (T.rn σ):=by grind [ak4,Tt.rn_toT]
theorem A1.rn_toV:∀x:A1,(x.rn σ).toV=x.toV.rn σ
 |.c t=>congrArg AV1.c t.rn_toT
 |.agg ts=>congrArg AV1.agg (Wd ts)
theorem At.rn_toV:∀x:At,(x.rn σ).toV=x.toV.rn σ
 |.one x=>congrArg AV.one x.rn_toV
 |.tup xs=>congrArg AV.tup (by grind [ak4,A1.rn_toV])
 |.any=>rfl
theorem XG(ts:List T)(h:Option (Nat×Step×List Step)):holed (ts.map (T.rn σ)) h=(holed ts h).map (T.rn σ):=by
 cases h with
 |none=>rfl
 |some x=>
  obtain⟨off,st,q⟩:=x;simp only[holed,akT];cases ts[off]? with
  |none=>rfl
  |some t=>cases t<;>grind [T.rn,alM]
theorem Rt.rn_toR(r:Rt):(r.rn σ).toR=r.toR.rn σ:=by grind [Rt.toR,Rt.rn,Root.rn,Wd,XG]
theorem St.rn_toS(s:St):(s.rn σ).toS=s.toS.rn σ:=by simp_all[St.toS,St.rn,S.rn,rnM,At.rn_toV,Rt.rn_toR]
theorem ab5(t:List (Nat×AV))(i:Nat):aW (t.map λx=>(x.1,x.2.rn σ)) i=(aW t i).rn σ:=by
 induction t with
 |nil=>rfl
 |cons x r ih=>grind [aW]
theorem abL{cells:List T}{o:Nat}{sub:List Sh}{l:List (List D)}:(cells.map (T.rn σ))[o]? = some (.ow sub l) ↔ cells[o]? = some (.ow sub l):=by
 rw[akT];cases cells[o]? with
 |none=>simp
 |some t=>cases t<;>simp[T.rn]
variable (hσ:NmR σ)
include hσ
theorem Qy(m:Mm)(n:Nm):ah (rnM σ m) (σ n)=(ah m n).map (Root.rn σ):=by
 induction m with
 |nil=>rfl
 |cons x r ih=>
  obtain⟨k,v⟩:=x;simp only[rnM,List.map_cons,ah];by_cases hk:k=n
  .grind
  rw[if_neg hk,if_neg (λe=>hk (hσ.inj e))];exact ih
theorem ac5{m:Mm}{p:Pl}(h:bU m p):bU (rnM σ m) (p.rn σ):=by grind [bU,Pl.rn,Qy,Root.rn,abL]
theorem ac6{m:Mm}{p:Pl}(h:gY m p):gY (rnM σ m) (p.rn σ):=by grind [gY,Pl.rn,Qy,Root.rn,T.rn]
variable {w:World} {H:FH} {γ:Gam} {m:Mm} {F:Nm->Fp}
abbrev rnG(σ:Nm->Nm)(γ:Gam):Gam:=λn=>γ (σ n)
theorem ahO(p:Pl):plA w (rnG σ γ) (p.rn σ)=plA w γ p:=by simp_all[plA,Pl.rn,rnG,NmR.inv]
theorem ahP(p:Pl):plV w (rnG σ γ) (p.rn σ)=plV w γ p:=by simp_all[plV,Pl.rn,rnG,NmR.inv]
theorem Wc{t:T}{f:Fp}(h:TR w H γ m t f y):TR w H (rnG σ γ) (rnM σ m) (t.rn σ) f y:=by
 cases t with
 |pl p=>obtain⟨h1,h2,a,h3,h4⟩:=h;exact⟨h1,ac5 hσ h2,a,(ahO hσ p).trans h3,h4⟩
 |rf p=>obtain⟨h1,h2,h3⟩:=h;exact⟨h1,ac6 hσ h2,(ahP hσ p).trans h3⟩
 |_=>exact h
theorem aeW{ts:List T}{f:Fp}{vs:List Value}(h:Ts (TR w H γ m) ts f vs):Ts (TR w H (rnG σ γ) (rnM σ m)) (ts.map (T.rn σ)) f vs:=by
 unfold Ts at h|-;rw[akV];have key:∀(a:List Unit)(xs:List T)(f:Fp)(vs:List Value),Cs (λ_ t=>TR w H γ m t) a xs f vs->Cs (λ_ t=>TR w H (rnG σ γ) (rnM σ m) t) a (xs.map (T.rn σ)) f vs:=by
  intro a xs;induction xs generalizing a with
  |nil=>intro f vs h;cases a<;>exact h
  |cons x xs ih=>
   intro f vs h;cases a with
   |nil=>exact h.elim
   |cons u a=>obtain⟨v,r,f1,b,hv,hf,k1,k2⟩:=h;exact⟨v,r,f1,b,hv,hf,Wc hσ k1,ih a b r k2⟩
 grind
theorem V9{n:Nm}{r:Root}{f:Fp}(h:bv w H γ m n r f):bv w H (rnG σ γ) (rnM σ m) (σ n) (r.rn σ) f:=by
 unfold bv at h|-;by_cases hb:r.blk=true
 .rw[if_pos hb]at h;rw[if_pos (show(r.rn σ).blk=true from hb)];obtain⟨b,cs,ty,fz,g,h1,h2,h3,h4,h5,h6⟩:=h;exact⟨b,cs,ty,fz,g,by rw[rnG,hσ.inv];exact h1,h2,⟨h3.1,λt a=>h3.2 t (by grind [NmR.tyd])⟩,by grind [Root.rn],aeW hσ h5,h6⟩
 rw[if_neg hb]at h;rw[if_neg (show ¬ (r.rn σ).blk=true from hb)];obtain⟨v,t,h1,h2,h3⟩:=h
 simp_all[rnG,NmR.inv,Root.rn,Wc]
theorem Gj(m:Mm):tot (λn=>F (σ n)) (rnM σ m)=tot F m:=by
 funext b
 induction m with
 |nil=>rfl
 |cons x r ih=>simp_all[rnM,tot,NmR.inv]
theorem afY(h:Mem w H γ m F):Mem w H (rnG σ γ) (rnM σ m) (λn=>F (σ n)):=by
 refine⟨h.agree,λx hx=>?_,?_,λb=>by rw[Gj hσ];exact h.le1 b,λb hb=>h.lt b (by simp_all[Gj]),λb hb=>h.nofz b (by simp_all[Gj])⟩
 .simp only[rnM,ak8]at hx;obtain⟨y,hy,rfl⟩:=hx
  simp_all[NmR.inv,V9,Mem.roots]
 have:(rnM σ m).map (·.1)=(m.map (·.1)).map σ:=by simp_all[rnM]
 rw[this,List.nodup_iff_pairwise_ne,List.pairwise_map];exact(List.nodup_iff_pairwise_ne.1 h.keys).imp (λa e=>a (hσ.inj e))
theorem U4{x:AV1}(h:AR1 w H γ m x y):AR1 w H (rnG σ γ) (rnM σ m) (x.rn σ) y:=by
 cases x with
 |c t=>exact Wc hσ h
 |agg ts=>obtain⟨cs,h1,h2,h3⟩:=h;exact⟨cs,h1,by grind,aeW hσ h3⟩
theorem U9:∀{xs:List AV1}{a:List Value},ARs w H γ m xs a->ARs w H (rnG σ γ) (rnM σ m) (xs.map (AV1.rn σ)) a
 |[],[],_=>trivial
 |_::_,_::_,h=>⟨U4 hσ h.1,U9 h.2⟩
 |[],_::_,h=>h.elim
 |_::_,[],h=>h.elim
theorem aeJ{x:AV}(h:AR w H γ m x y):AR w H (rnG σ γ) (rnM σ m) (x.rn σ) y:=by
 cases x with
 |one x=>exact U4 hσ h
 |tup xs=>obtain⟨l,h1,h2⟩:=h;exact⟨l,h1,U9 hσ h2⟩
 |any=>trivial
theorem V1{g:G}{s:St}{a a':Act}{ds:List Deferred}{out:Nat->Option Nat}(h:RX g s.toS a w H γ F)(h1:a'.tmps=a.tmps)(h2:a'.defers=ds)(c:∀j b,out j=some b->γ (σ (.out j))=.blk b) :
  RX ⟨g.nt,g.w0,g.H0,g.own0,out,g.ex,ds⟩ (s.rn σ).toS a' w H (rnG σ γ) (λn=>F (σ n)):=by
 rw[St.rn_toS];refine⟨afY hσ h.mem,?_,by grind [RX.nt],⟨h2,λj b hb=>c j b hb,h.df.2.2⟩,λi=>?_⟩
 .show Fr g.w0 g.H0 g.own0 w H (tot (λn=>F (σ n)) (rnM σ s.toS.m))
  rw[Gj hσ];exact h.fr
 show AR w H (rnG σ γ) (rnM σ s.toS.m) (aW (s.toS.t.map λx=>(x.1,x.2.rn σ)) i) _
 rw[ab5];have e:G.tv ⟨g.nt,g.w0,g.H0,g.own0,out,g.ex,ds⟩ a' i=g.tv a i:=by grind [G.tv]
 rw[e];exact aeJ hσ (h.t i)
end
def xY(i:Nat):Nat:=i % 1000000 / 1000
def LB(k i:Nat):Nat:=match Nat.beq (xY i) 0 with
 |true=>i+k*1000
 |false=>match Nat.beq (xY i) k with
  |true=>i-k*1000
  |false=>i
def Gh(k:Nat):Nm->Nm
 |.loc i=>.loc (LB k i)
 |.gh i=>.gh (LB k i)
 |.out i=>.out i
theorem BF{k:Nat}(hk:1<=k/\k < 1000)(i:Nat):LB k (LB k i)=i/\LB k i / 1000000=i / 1000000:=by
 unfold LB;cases h0:Nat.beq (xY i) 0 with
 |true=>
  have h:=akU h0
  unfold xY at h;dsimp only;have h1:xY (i+k*1000)=k:=by grind [xY]
  grind [akU,Nat.beq_refl]
 |false=>
  dsimp only;cases a:Nat.beq (xY i) k with
  |true=>
   have h:=akU a
   unfold xY at h;dsimp only;have h1:xY (i-k*1000)=0:=by grind [xY]
   grind [Nat.beq_refl]
  |false=>grind
theorem Q7{k:Nat}(hk:1<=k/\k < 1000):NmR (Gh k):=by
 refine⟨λn=>?_,λn=>?_⟩
 .cases n with
  |loc i=>exact congrArg Nm.loc (BF hk i).1
  |gh i=>exact congrArg Nm.gh (BF hk i).1
  |out i=>rfl
 cases n with
 |loc i=>
  show(if LB k i < 1000000 then none else some (LB k i / 1000000))=(if i < 1000000 then none else some (i / 1000000))
  grind [BF]
 |gh i=>rfl
 |out i=>rfl
def ai5(k:Nat)(n:Nm):Bool:=match n with
 |.loc i=>Nat.beq (xY i) k
 |.gh i=>Nat.beq (xY i) k
 |.out _=>false
def ae3:Nat->Nat->List (Nm×Nat×Rt)->Nat
 |0,k,_=>k
 |n+1,k,m=>match m.any (λx=>ai5 k x.1)with
  |true=>ae3 n (k+1) m
  |false=>k
def apK(s:St):Option Nat:=match ae3 900 1 s.m with
 |k=>match Nat.ble 1 k&&Nat.blt k 1000 with
  |true=>some k
  |false=>none
def apT(C:CKt):CKt:=λpk s ops k=>match apK s with
 |some j=>C (λv s'=>pk v (s'.rn (Gh j))) (s.rn (Gh j)) ops (λs' v=>k (s'.rn (Gh j)) (v.rn (Gh j)))
 |none=>False
def apB(C:CKb):CKb:=λs ops k=>match apK s with
 |some j=>C (s.rn (Gh j)) ops (λs' v=>k (s'.rn (Gh j)) (v.rn (Gh j)))
 |none=>false
theorem Pl.rn_rn{σ:Nm->Nm}(hσ:NmR σ)(p:Pl):(p.rn σ).rn σ=p:=by simp[Pl.rn,hσ.inv]
theorem Tt.rn_rn{σ:Nm->Nm}(hσ:NmR σ)(t:Tt):(t.rn σ).rn σ=t:=by cases t<;>simp[Tt.rn,Pl.rn_rn hσ]
theorem A1.rn_rn{σ:Nm->Nm}(hσ:NmR σ)(x:A1):(x.rn σ).rn σ=x:=by
 cases x with
 |c t=>simp[A1.rn,Tt.rn_rn hσ]
 |agg ts=>simp[A1.rn,Function.comp_def,Tt.rn_rn hσ]
theorem At.rn_rn{σ:Nm->Nm}(hσ:NmR σ)(x:At):(x.rn σ).rn σ=x:=by
 cases x with
 |one t=>simp[At.rn,A1.rn_rn hσ]
 |tup ts=>simp[At.rn,Function.comp_def,A1.rn_rn hσ]
 |any=>rfl
theorem Rt.rn_rn{σ:Nm->Nm}(hσ:NmR σ)(r:Rt):(r.rn σ).rn σ=r:=by simp_all[Rt.rn,Function.comp_def,Tt.rn_rn]
theorem Kz{σ:Nm->Nm}(t:List (Nat×Nat×At))(k:Nat):cg (t.map λx=>(x.1,x.2.1,x.2.2.rn σ)) k=(cg t k).map λx=>(x.1,x.2.rn σ):=by induction t<;>grind [cg]
theorem Kx{σ:Nm->Nm}(hσ:NmR σ)(m:List (Nm×Nat×Rt))(n:Nm):cZ (m.map λx=>(σ x.1,x.2.1,x.2.2.rn σ)) (σ n)=(cZ m n).map λx=>(x.1,x.2.rn σ):=by
 induction m with
 |nil=>rfl
 |cons x r ih=>
  obtain⟨i,j,v⟩:=x;simp only[List.map_cons,cZ];by_cases h:i=n
  .grind
  rw[if_neg (λe=>h (hσ.inj e)),if_neg h];exact ih
theorem Ext.rn{σ:Nm->Nm}(hσ:NmR σ){s s':St}(h:Ext (s.rn σ) s'):Ext s (s'.rn σ):=by
 refine⟨h.nx,λk j v hk hj=>?_,λn j r hn hj=>?_⟩
 .rw[show(s'.rn σ).t=s'.t.map λx=>(x.1,x.2.1,x.2.2.rn σ)from rfl,Kz]at hk;cases h1:cg s'.t k with
  |none=>grind
  |some x=>
   rw[h1]at hk;obtain⟨j',v'⟩:=x;simp only[Option.map_some,akO,Prod.mk.injEq]at hk;obtain⟨rfl,rfl⟩:=hk;have h2:=h.t k j' v' h1 hj
   rw[show(s.rn σ).t=s.t.map λx=>(x.1,x.2.1,x.2.2.rn σ)from rfl,Kz]at h2;cases h3:cg s.t k<;>grind [At.rn_rn]
 rw[<- hσ.inv n,show(s'.rn σ).m=s'.m.map λx=>(σ x.1,x.2.1,x.2.2.rn σ)from rfl,Kx hσ]at hn;cases h1:cZ s'.m (σ n)with
 |none=>grind
 |some x=>
  rw[h1]at hn;obtain⟨j',v'⟩:=x;simp only[Option.map_some,akO,Prod.mk.injEq]at hn;obtain⟨rfl,rfl⟩:=hn;have h2:=h.m (σ n) j' v' h1 hj
  rw[show(s.rn σ).m=s.m.map λx=>(σ x.1,x.2.1,x.2.2.rn σ)from rfl,Kx hσ]at h2;cases h3:cZ s.m n<;>grind [Rt.rn_rn]
theorem Wm{s:St}(h:apK s=some j):1<=j/\j < 1000:=by
 unfold apK at h;dsimp only at h;split at h
 all_goals simp_all
theorem Pj{P:Program}{C:CKt}(h:Cont P f C):Cont P f (apT C):=by
 refine⟨h.run,λpk s ops k k' hk hc=>?_,λg pk s a w H γ F ops k d c hc=>?_⟩
 .unfold apT at hc|-;split at hc
  .rename_i j hj;have hσ:=Q7 (Wm hj)
   exact h.ext _ _ _ _ _ (λs' v n=>hk _ _ (n.rn hσ)) hc
  omega
 unfold apT at hc;split at hc
 .rename_i j hj;have hσ:=Q7 (Wm hj)
  have l:=V1 hσ (out:=g.out) (ds:=g.dfs) d rfl d.df.1 (λi b hb=>d.df.2.1 i b hb)
  refine(h.call _ _ _ a w H _ _ ops _ l c hc).mono ?_;rintro e w' (⟨r,s',av,H',γ',F',rfl,k1,k2,k3⟩|⟨v,s',rfl,k1,H',γ',F',k2⟩)
  .refine .inl ⟨r,_,_,H',_,_,rfl,k1,?_,V1 hσ (out:=g.out) (ds:=g.dfs) k3 rfl k3.df.1 (λi b hb=>k3.df.2.1 i b hb)⟩;rw[At.rn_toV];show AR w' H' _ (s'.rn (Gh j)).toS.m _ _
   rw[St.rn_toS];exact aeJ hσ k2
  exact .inr ⟨v,_,rfl,k1,H',_,_,V1 hσ (out:=g.out) (ds:=g.dfs) k2 rfl k2.df.1 (λi b hb=>k2.df.2.1 i b hb)⟩
 grind
end Go.Am
end

section
namespace Go.Am
open Go Go.Proofs
def lky:U->Bool
 |.i _=>true
 |.bo=>true
 |.s=>true
 |_=>false
theorem Yc{u:U}(h:lky u=true):leaf u=true:=by cases u<;>first|rfl|cases h
theorem acX{u:U}(h:lky u=true)(x:El u):(ao u x).toD.isKey=true:=by cases u<;>first|rfl|cases h
def ac0(n:Nm):CKt:=λ_ s ops k=>match ops with
 |[x]=>
  let s0:=fW s (evA s x)
  let s1:=s0.fresh n
  match evA s1 x with
  |.one (.c (.d (.mp ku vu z)))=>match lky ku&&leaf vu with
   |true=>z.isSome=true/\k (s1.root n ⟨false,[.mp ku vu (z.getD [])],none⟩) (.one (.c (.rf ⟨n,0,[]⟩)))
   |false=>False
  |_=>False
 |_=>False
section
variable {P:Program}
theorem Vg{f:Nat}{fn:Func}{n:Nm}(hno:n.isOut=false)(hf:P.funcs[f]? = some fn) (d:(fn.name == "runtime.NumGoroutine")=false) (hb:fn.body.isSome=true)
  (c:∀(b:Nat)(es:Array MapEntry)(ck:Nat)(w:World),w.heap[b]? = some (.map es ck)->Calls P f #[.map (some b)] w λe w'=>e=.returned (.map (some w.heap.size))/\w'=w.alloc (.map es ck)):Cont P f (ac0 n):=by
 refine⟨λargs w=>mq hf d hb args w,λpk s ops k k' hk hc=>?_,λg pk s a w H γ F1 ops k B q hc=>?_⟩
 .unfold ac0 at hc|-;split at hc
  .dsimp only at hc|-;split at hc
   .split at hc
    .exact⟨hc.1,hk _ _ ((iH _ _).trans ((bR _ _).trans (dj _ _ _))) hc.2⟩
    omega
   omega
  omega
 unfold ac0 at hc;split at hc
 .rename_i o;dsimp only at hc;have r:aI o=true:=by grind
  obtain⟨H1,u,h1⟩:=gP B (evA s o);generalize fW s (evA s o)=s0 at hc h1;have h2:=cY h1 n
  have hn:=b9 h1 n
  have G:(s0.fresh n).toS=s0.toS.fresh n:=bx (fZ h1)
  rw[<- G]at h2 hn;generalize s0.fresh n=s1 at hc h2 hn;have hv:=aL h2 r
  rw[ak r]at hv;split at hc
  .rename_i ku vu z A;rw[A]at hv;split at hc
   .rename_i j;rw[akP]at j;obtain⟨J,hc⟩:=hc;obtain⟨l,rfl⟩:∃l,z=some l:=by cases z<;>grind
    have hd:FDx H1 (.mp (some (l.map λx=>((ap ku x.1).headD .any,(ap vu x.2).headD .any)))) (a.eval o):=hv.2
    have el:(l.map λx=>((ap ku x.1).headD .any,(ap vu x.2).headD .any))=l.map λx=>((ao ku x.1).toD,(ao vu x.2).toD):=ak4 λx _=>by grind [pT,Yc]
    rw[el]at hd;obtain⟨b,es,ck,K,D,E,i⟩:=Vn h2.mem.agree (λe A=>by grind [acX]) hd
    rw[al3]at i;have i:MpO w H1 (l.map (wg ku vu)) es.toList (λ_=>0):=i
    rw[show(([o].map a.eval).toArray:Array Value)=#[.map (some b)]by grind];refine Calls.mono (c b es ck w D) ?_;rintro e w' ⟨rfl,rfl⟩
    have hold:∀k,k<w.heap.size->(w.alloc (.map es ck)).heap[k]? = w.heap[k]? := λk hk=>cW hk
    have h3:=pB h2 (w':=w.alloc (.map es ck)) (by simp) rfl rfl rfl (λb hb=>.inl (hold b hb))
    have I:tot u s1.toS.m w.heap.size=0:=by
     rcases alO (tot u s1.toS.m w.heap.size)with h'|h'
     .exact h'
     have:=h2.mem.lt w.heap.size kQ1;omega
    obtain⟨γ',F',h4,p⟩:=dR h3 hno hn (v:=.map (some w.heap.size)) (t:=.mp (l.map (wg ku vu))) (f:=λb=>if b=w.heap.size then 1 else 0) ⟨w.heap.size,es,ck,λ_=>0,rfl,bw,E,kn (λ_ _ _ h=>h) (λb hb=>absurd rfl hb) i,λ_=>(amB _).symm⟩ (λb=>by
      by_cases e:b=w.heap.size
      .grind
      .rw[if_neg e];have:=h2.mem.le1 b;omega) (λb hb=>by
      have e:b=w.heap.size:=by grind
      subst e;refine⟨by simp,λo=>?_⟩;cases hc:H1 w.heap.size o with
      |none=>rfl
      |some y=>have:=(h2.mem.agree _ _ _ hc).lt;omega) (λb hb=>by
      right
      have e:b=w.heap.size:=by grind
      have:=h2.fr.size
      omega)
    have C:(s1.root n ⟨false,[.mp ku vu l],none⟩).toS=⟨s1.toS.t,(n,⟨false,[.mp (l.map (wg ku vu))]⟩)::s1.toS.m⟩:=rfl
    rw[<- C]at h4;refine .inl ⟨_,_,_,H1,γ',F',rfl,hc,?_,h4⟩;exact vI (l:=l.map (wg ku vu)) (by show ah ((n,(⟨false,[.mp (l.map (wg ku vu))]⟩:Root))::s1.toS.m) n=_;simp[ah]) p
   grind
  grind
 grind
end
end Go.Am
end

section
namespace Go.Am
open Go Go.RowKit Go.Maps Go.Sort Go.Shelf Go.Proofs
theorem zH:Cont prog 166 (ac0 (.gh 800000)):=Vg rfl func166 kQ0 kQ0 (λb es ck w hb=>AnyW.maps_Clone Tryz.clone106 b es ck w hb)
set_option maxHeartbeats 1000000 in
theorem Oa{H:Type}(b j:Nat)(i:DataW H)(R:Value->Option (DataW H×List MemPlace))(w:World)(f:w.ownsMap prog 9 R b j i)(d:Maps.size i<=maxLen)(a:Maps.size i*16<=140737488355328) :
  Calls prog 206 #[.map (some b)] w λe w'=>∃(v:Value)(c:List a8),e=.returned v/\c.Perm (strKeys i) /\
   w'.ownsRow w.heap.size 9 1 v c.length ((c.mergeSort (λx y=>decide (x<=y))).map encStr)/\(v=.slice none 0 0 ↔ c=[])/\Below w.heap.size w w':=by
 refine(callsIn_wide (n:=6)).1 ?_;have m:Fence.wide.fn 234:=trivial
 have l:Fence.wide.fn 233:=trivial
 refine callsIn_of_wp func206 rfl trivial ?_ rfl;simp only[Tryz.ntmps206,List.size_toArray,akY,ak7,Nat.reduceAdd,Nat.reduceSub,Array.replicate_succ,Array.replicate_zero,List.push_toArray,List.append_toArray,alV,amU]
 gi_wp2_with (first
  |(gi_at_call 234;refine(Tryz.maps_Keys_210 _ _).mono ?_;rintro e w' ⟨rfl,rfl⟩)
  |(gi_at_call 233;refine(Tryz.slices_Sorted_keys_209_210 b j i R w f d a).mono ?_;rintro e w' ⟨v,c,rfl,k,g,h,hb⟩))
 go_ret
 exact⟨v,c,rfl,k,ownsRow_base_a g (by simp),h,((Below.refl _ w).alloc (akR _) _).trans (hb.mono (by simp))⟩
def Wl:Value->Option (DataW Unit×List MemPlace):=λ_=>some (.lit (.bool true),[])
theorem adC{b ck:Nat}{es:Array MapEntry}{w:World}(hb:w.heap[b]? = some (.map es ck))(d:MapKept.Stamped es ck)(g:es.size<=1000000)(hk:∀e∈es.toList,∃l:a8,e.key=.string ⟨l.toArray⟩/\l.length<=BIG) :
  ∃f:DataW Unit,w.ownsMap prog 9 Wl b es.size f/\(∀v,v∈strKeys f ↔ ∃e∈es.toList,e.key=.string ⟨v.toArray⟩)/\Maps.size f=es.size:=by
 have c:∀e∈es.toList,∀l:a8,e.key=.string ⟨l.toArray⟩->l.length<=BIG->WideElems.rd prog 9 Wl e=some (.string l,.lit (.bool true)):=λe a l h1 h2=>by unfold WideElems.rd;rw[h1,WideMaps.keyOf_string_mk underlying9 (by show l.toArray.size<=_;unfold BIG at h2;unfold maxLen;simp;omega)];simp[Wl]
 have hp:=WideShapes.sorted_perm (es.toList.map (WideElems.rg prog 9 Wl))
 refine⟨_,⟨es,ck,hb,⟨by unfold maxLen;omega,d,λe a=>?_⟩,akR _,rfl⟩,λv=>?_,?_⟩
 .obtain⟨l,h1,h2⟩:=hk e a;exact⟨_,c e a l h1 h2⟩
 .show v∈List.map _ _ ↔ _
  rw[(hp.map _).mem_iff];simp only[ak8];constructor
  .rintro⟨_,⟨e,a,rfl⟩,rfl⟩
   obtain⟨l,h1,h2⟩:=hk e a;refine⟨e,a,?_⟩;unfold WideElems.rg;rw[c e a l h1 h2,h1];rfl
  rintro⟨e,a,h1⟩
  obtain⟨l,h3,h2⟩:=hk e a;refine⟨_,⟨e,a,rfl⟩,?_⟩;unfold WideElems.rg;rw[c e a l h3 h2];rw[h3]at h1;have:l=v:=by simpa using h1
  rw[<- this];rfl
 have e:∀l:List (Lit×DataW Unit),Maps.size (DataW.map l)=l.length:=λ_=>rfl
 rw[e,hp.length_eq,akV,Array.length_toList]
def LX:CKt:=afM [.mp .s .bo] [.sl .s] (λx=>lj x) (λx y=>iW x y)
theorem MH:Cont prog 206 LX:=w6 (mq (fn:=f206) kQ0 kQ0 kQ0) (λx args w H γ G hl ha W a=>by
 obtain⟨hs,hn⟩:=G;obtain⟨L,rfl⟩:∃L:List (a8×Bool),x=some L:=by cases x with|none=>cases hs|some L=>exact⟨L,rfl⟩
 have hn:L.length<=1000000:=hn
 obtain⟨u,rfl⟩:∃u,args=[u]:=List.length_eq_one_iff.1 hl
 obtain⟨u',h0,h1⟩:=ha 0 _ rfl;obtain rfl:u=u':=by simpa using h0
 have p:FDx H (.mp (some (L.map λx=>(.str x.1,.bool x.2)))) u:=h1.2
 obtain⟨m,p⟩:=p;cases m with
 |zero=>exact p.elim
 |succ m=>
  obtain⟨b,es,ck,rfl,k1,k2,k3⟩:=p;obtain⟨k4,k5⟩:=a b 0 _ k1;rw[akV]at k2;have f:∀(i:Nat)(e:MapEntry),es.toList[i]? = some e->∃z,L[i]? = some z/\e.key=.string ⟨z.1.toArray⟩/\z.1.length<=BIG:=λi e t=>by
   have hi:i<L.length:=by rw[<- k2];exact(alR.1 t).1
   have k:=akQ hi
   have:=(k3 i (.str L[i].1,.bool L[i].2) e (by rw[akT,k];rfl) t).1
   have this:e.key=.string ⟨L[i].1.toArray⟩/\L[i].1.length<=BIG:=by cases m<;>exact this
   exact⟨_,k,this⟩
  obtain⟨K,J,r,d⟩:=adC k4 k5 (by rw[<- Array.length_toList,k2];exact hn) (λe t=>by obtain⟨i,hi⟩:=amY.1 t;obtain⟨z,_,h⟩:=f i e hi;exact⟨z.1,h⟩)
  have R:es.size<=1000000:=by rw[<- Array.length_toList,k2];exact hn
  have n:∀v,v∈strKeys K ↔ v∈L.map (·.1):=λv=>by
   rw[r];constructor
   .rintro⟨e,t,h⟩
    obtain⟨i,hi⟩:=amY.1 t;obtain⟨z,k,h2,_⟩:=f i e hi;rw[h2]at h;have:z.1=v:=by simpa using h
    exact ak8.2 ⟨z,amY.2 ⟨i,k⟩,this⟩
   intro h;obtain⟨z,k,rfl⟩:=ak8.1 h;obtain⟨i,hi⟩:=amY.1 k;have E:i<es.toList.length:=by rw[k2];exact(alR.1 hi).1
   obtain⟨X,F,h2,_⟩:=f i _ (akQ E);rw[hi]at F;obtain rfl:=Option.some.inj F;exact⟨_,amK E,h2⟩
  have D:∀v∈L.map (·.1),v.length<=BIG:=λv hv=>by
   obtain⟨e,t,h⟩:=(r v).1 ((n v).2 hv);obtain⟨i,hi⟩:=amY.1 t;obtain⟨z,_,h2,h3⟩:=f i e hi;rw[h2]at h;have:z.1=v:=by simpa using h
   rw[<- this];exact h3
  refine(Oa b es.size K Wl w J (by rw[d];unfold maxLen;omega) (by rw[d];omega)).mono ?_;rintro e w' ⟨v,N,rfl,S,g,T,hb⟩
  have I:=S.length_eq
  have C:=List.mergeSort_perm N λx y=>decide (x<=y)
  have B:=C.length_eq
  generalize N.mergeSort (λx y=>decide (x<=y))=Q at g C B;have O:∀v,v∈Q ↔ v∈L.map (·.1):=λv=>(C.mem_iff.trans S.mem_iff).trans (n v)
  have V:Q.length<=1000000:=by
   rw[B,I];have:(strKeys K).length=Maps.size K:=by unfold strKeys Maps.size;split<;>simp
   rw[this,d];exact R
  obtain⟨_,g⟩:=g;rcases g with⟨rfl,k⟩|⟨gb,cap,cur,rfl,r0,r1,r2,r3,r4,r5⟩
  .obtain rfl:Q=[]:=al5 kQ1;refine⟨_,H,[],rfl,O,hb,λ_ _ _ h=>h,λb o h1 h2=>absurd h2 h1,λb o x l c h1 h2=>by(rw[h2]at h1;cases h1),λb o y h=>(a b o y h).frame (hb.block b (a b o y h).lt),λ_=>rfl,1,?_⟩;show FD _ 1 (.li []) _
   rw[mR];exact⟨none,0,rfl,akR _,by simp,.inl rfl⟩
  have U:∀o,H gb o=none:=λo=>by
   cases hc:H gb o with
   |none=>rfl
   |some y=>have:=(a _ _ _ hc).lt;omega
  rw[Nat.mul_one]at r4 r5;have A:∀o(M:o<Q.length),cur[o]? = some (encStr Q[o]):=λo M=>by
   have h9:(cur.toList.take N.length)[o]? = some (encStr Q[o]):=by rw[r5,akT,akQ M];rfl
   rw[amO kQ1]at h9;rw[<- Array.getElem?_toList];exact h9
  refine⟨_,λb o=>if b=gb then(Q.map encStr)[o]?.map HV.c else H b o,Q,rfl,O,hb,λb o y h=>?_,λb o h1 h2=>?_,λb o x l c h1 h2=>?_,λb o y h=>?_,λ_=>rfl,1,?_⟩
  .have:=(a b o y h).lt
   dsimp only;rw[if_neg kQ1];exact h
  .dsimp only at h1;split at h1
   .omega
   exact absurd h2 h1
  .dsimp only at h1;split at h1
   .obtain⟨z,k,e⟩:=ak5.1 h1;obtain rfl:=HV.c.inj e;have h1:=alU k
    obtain⟨q,_,e⟩:=ak8.1 h1;unfold encStr at e;cases e
   rw[h2]at h1;cases h1
  .dsimp only at h;split at h
   .rename_i P;subst P;obtain⟨z,k,rfl⟩:=ak5.1 h;rw[akT]at k;obtain⟨q,hq,rfl⟩:=ak5.1 k;have M:=(alR.1 hq).1
    have hc:=A o M
    rw[(alR.1 hq).2]at hc;show World.cell? _ _=some _
    unfold World.cell?;rw[r1];exact hc
   exact(a b o y h).frame (hb.block b (a b o y h).lt)
  show FD _ 1 (.li (Q.map (ap .s))) _
  rw[mR];unfold BIG;refine⟨_,_,by rw[akV,B],by rw[akV];omega,by rw[akV];omega,.inr ⟨gb,0,1,rfl,λi hi=>?_⟩⟩;have hi:i<Q.length:=by simpa using hi
  have e:(Q.map (ap .s)).getD i []=[.str Q[i]]:=by rw[List.getD,akT,akQ hi];rfl
  rw[e];refine⟨rfl,λj hj=>?_⟩;have hj:j=0:=by omega
  subst hj;refine⟨encStr Q[i],?_,?_⟩
  .dsimp only;rw[if_pos rfl];simp[hi]
  exact⟨rfl,D _ ((O _).1 (amK hi))⟩)
end Go.Am
end

section
namespace Go.Am
variable{p:Prop}
theorem dO[d:Decidable p]{b:Bool}(h:dand p b=true):p/\b=true:=by
 unfold dand at h;split at h
 all_goals grind
variable{P:Program}{gd:Option (Nat×Bool)}{i n:Nat}{key x:At}{m:List (Nm×Nat×Rt)}{op:BinOp}{t:TypeId}
section
variable {kb:At->Bool} {k:At->Prop} (hk:∀v,kb v=true->k v)
include hk
theorem YF{c y:At}(h:YE c x y kb=true):xD c x y k:=by unfold YE at h;grind [xD]
omit hk in
theorem ac2{κ:IntKind}{a b:Int}{kb:C->Bool}{k:C->Prop}(hk:∀v,kb v=true->k v)(h:ahJ op κ a b kb=true):Ob op κ a b k:=by unfold ahJ at h;grind [Ob,dO]
omit hk in
theorem Wr{x y:C}{kb:C->Bool}{k:C->Prop}(hk:∀v,kb v=true->k v)(h:Wq op x y kb=true):BT op x y k:=by unfold Wq at h;grind [BT,dO,ac2]
theorem aaD{y:At}(h:agA P op t x y kb=true):IK P op t x y k:=by unfold agA at h;grind [IK,Wr]
theorem ah2{op:UnOp}(h:unB op x kb=true):unT op x k:=by unfold unB at h;grind [unT]
theorem Jg(h:zY x i kb=true):jt x i k:=by unfold zY at h;grind [jt]
omit hk in
theorem ab7{q:Prop}(h:q):gift gd n q:=by
 unfold gift
 grind
omit hk in
theorem acS{kb:Nat->Bool}{k:Nat->Prop}(hk:∀v,kb v=true->k v)(h:ahE gd m x kb=true):Ku gd m x k:=by unfold ahE at h;grind [Ku,ab7]
theorem UQ{i:At}(h:O0 x i kb=true):qE x i k:=by unfold O0 at h;grind [qE,dO]
omit hk in
theorem Se{x:Option At}{d:Nat}{kb:Nat->Bool}{k:Nat->Prop}(hk:∀v,kb v=true->k v)(h:pJ x d kb=true):fX x d k:=by unfold pJ at h;grind [fX,dO]
theorem UF{lo hi:Option At}(h:OR P t x lo hi kb=true):qC P t x lo hi k:=by unfold OR at h;grind [qC,Se,dO]
theorem BY(h:sQ P m t x i kb=true):fu P m t x i k:=by grind [sQ,fu]
theorem B2{i:At}(h:sT P m t x i kb=true):eG P m t x i k:=by
 unfold sT at h;unfold eG
 (repeat' split at h)<;>first|(cases h;done)|grind [dO]
theorem Kw(h:QH P m t x kb=true):lc P m t x k:=by unfold QH at h;grind [lc,dO]
theorem S5(h:MZ P t x i kb=true):pV P t x i k:=by
 unfold MZ at h;unfold pV
 grind
theorem FF(h:wA x kb=true):gW x k:=by unfold wA at h;grind [gW]
theorem Si{ps:List (Nat×At)}(h:MC P t ps kb=true):pL P t ps k:=by grind [MC,pL]
theorem Xd{b a:TypeId}(h:Xc P b a x kb=true):xp P b a x k:=by
 unfold Xc at h;unfold xp
 grind
theorem N3{ok:Bool}(h:Fy P m t x key ok kb=true):mf P m t x key ok k:=by
 unfold Fy at h;unfold mf
 (repeat' split at h)<;>first|grind|grind
end
variable{E:Ut}{d:Tmp}{ps:Array (Nat×Operand)}{sub:List Sh}{u:TypeId}{y:Operand}
section
variable {s:St} {kb:St->Bool} {k:St->Prop} (hk:∀s',kb s'=true->k s')
include hk
theorem RR(h:Mp P s t d kb=true):pH P s t d k:=by grind [Mp,pH]
theorem aaI{x:Operand}(h:agC s x d kb=true):IP s x d k:=by grind [agC,IP]
theorem zB(h:pK P E s t n ps d kb=true):eh P E s t n ps d k:=by grind [pK,eh]
theorem vX(h:mB P E sub s t n ps d kb=true):dz P E sub s t n ps d k:=by grind [mB,dz]
theorem vZ(h:mC P E sub s t n ps d kb=true):dA P E sub s t n ps d k:=by
 unfold mC at h;unfold dA
 (repeat' split at h)<;>first|grind|grind
omit hk in
theorem uP{q:Bool}(hq:q=true->p):∀(path:List Step)(sub:List Sh)(u:U)(l:List (El u)),DR sub u l path q=true->qi sub u l path p
 |[],_,_,_,h=>by cases h
 |[_],_,_,_,h=>⟨(dO h).1,hq (dO h).2⟩
 |st::a::r,sub,u,l,h=>by
  unfold DR at h;unfold qi;split at h
  .exact⟨(dO h).1,uP hq (a::r) _ _ _ (dO h).2⟩
  grind
omit hk in
theorem zV{q:Bool}(hq:q=true->p):(a b:List Step)->yp a b q=true->ou a b p
 |[],[],h=>hq h
 |a::r,b::t,h=>by
  unfold yp at h;unfold ou;split at h
  .exact⟨(dO h).1,zV hq r t (dO h).2⟩
  grind
 |[],_::_,h=>by cases h
 |_::_,[],h=>by cases h
theorem FX{p:Pl}{t:Tt}(h:adI s p t kb=true):Cp s p t k:=by
 unfold adI at h;unfold Cp
 (repeat' split at h)<;>first|(cases h;done)|exact hk _ h|exact uP (hk _) _ _ _ _ h|grind [uP,zV]
theorem OE{p:Pl}{ts:List Tt}(h:FY s p ts kb=true):ml s p ts k:=by grind [FY,ml,uP]
omit hk in
theorem oT{kb:St->Bool}{k:St->Prop}(hk:∀s',kb s'=true->k s'):∀(ts:List Tt)(s:St)(p:Pl),vo s p ts kb=true->iB s p ts k
 |[],_,_,h=>hk _ h
 |t::ts,s,p,h=>by
  cases t with
  |rf q=>
   simp only[vo]at h;simp only[iB]
   (repeat' split at h)<;>first|(cases h;done)|exact FX (λs' h'=>oT hk ts _ _ h') h
  |any=>cases h
  |d c=>cases c<;>first|(cases h;done)|exact FX (λs' h'=>oT hk ts _ _ h') h
  |_=>exact FX (λs' h'=>oT hk ts _ _ h') h
theorem UN{v:At}(h:OX P s t x v kb=true):qD P s t x v k:=by
 unfold OX at h;unfold qD
 grind [OE,oT]
theorem Ms{x:Operand}(h:EF P E s t u x y d kb=true):lP P E s t u x y d k:=by
 unfold EF at h;unfold lP;dsimp only at h|-
 (repeat' split at h)<;>first|(cases h;done)|grind [dO]
theorem EG{x:Operand}(h:vT P E s t u x y d kb=true):jl P E s t u x y d k:=by
 unfold vT at h;unfold jl
 (repeat' split at h)<;>first|(cases h;done)|grind [dO]
theorem KF{own:Bool}(h:uN P E own s t d kb=true):gi P E own s t d k:=by grind [uN,gi]
theorem N0(h:Fx P s t x key kb=true):me P s t x key k:=by
 unfold Fx at h;unfold me
 (repeat' split at h)<;>first|grind|grind
theorem N7{v:At}(h:FA P s t x key v kb=true):mg P s t x key v k:=by
 unfold FA at h;unfold mg
 (repeat' split at h)<;>first|grind|grind
theorem Cj{b:EnB}{pk:PKt}{n c:At}{f:Bool}(h:sZ b s t n c f d kb=true):fy ⟨b.e.P,b.e.E,b.e.cs,b.e.sh,pk⟩ s t n c f d k:=by
 unfold sZ at h;unfold fy
 grind [dO]
end
def xW(Cb:CKb)(C:CKt):Prop:=∀(pk:PKt)(s:St)(ops:List Operand)(kb:St->At->Bool)(k:St->At->Prop),(∀s' v,kb s' v=true->k s' v)->Cb s ops kb=true->C pk s ops k
def GA:CBt->CTt->Prop
 |[],[]=>True
 |x::r,y::q=>(x.1=y.1/\xW x.2 y.2)/\GA r q
 |_,_=>False
theorem GA.get:∀{cb:CBt}{cs:CTt},GA cb cs->∀{f:Nat}{Cb:CKb},CBt.get cb f=some Cb->∃C,cs.get f=some C/\xW Cb C
 |[],[],_,f,Cb,h=>by cases h
 |(f0,c)::r,(f1,C)::q,⟨⟨e,h1⟩,h2⟩,f,Cb,h=>by
  dsimp only at e h1;subst e;simp only[CBt.get]at h;simp only[CTt.get];split at h
  .simp only[akO]at h;subst h;exact⟨C,rfl,h1⟩
  exact GA.get h2 h
 |[],_::_,h,_,_,_=>h.elim
 |_::_,[],h,_,_,_=>h.elim
abbrev EnB.w(b:EnB)(pk:PKt):En:=⟨b.e.P,b.e.E,b.e.cs,b.e.sh,pk⟩
variable{o:Oper}
section
variable {b:EnB} (hc:GA b.cs b.e.cs) {pk:PKt}
theorem afN{s:St}{kb:At->Bool}{k:At->Prop}(hk:∀v,kb v=true->k v)(h:qB b o s kb=true):qT (b.w pk) o s k:=by
 unfold qB at h;unfold qT;dsimp only[EnB.w];split at h
 .grind
 .grind
 .exact YF hk h
 .exact aaD hk h
 .exact ah2 hk h
 .exact Kw hk h
 .exact S5 hk h
 .exact BY hk h
 all_goals grind [B2,UQ,Jg,Xd,UF,FF,Si,acS]
include hc
theorem ai6{s:St}{kb:St->Bool}{k:St->Prop}(hk:∀s',kb s'=true->k s')(h:lB b o s kb=true):lT (b.w pk) o s k:=by
 unfold lB at h;unfold lT;have c:∀t,adW (b.w pk) t=adW b.e t:=λ_=>rfl
 simp only[c];dsimp only[EnB.w];split at h
 .grind [UN]
 .grind [RR]
 .grind [aaI]
 .grind [zB,vZ,vX]
 .split at h
  .grind [Ms,EG]
  .grind [N0]
  .split at h
   .rename_i C a hf;obtain⟨d,h1,h2⟩:=hc.get a;rw[h1,hf];exact h2 _ _ _ _ _ (λ_ _=>hk _) h
   grind
  .split at h
   .split at h
    .rename_i C a hf;obtain⟨d,h1,h2⟩:=hc.get a;rw[h1,hf];exact h2 _ _ _ _ _ (λ_ _=>hk _) h
    grind
   all_goals grind
  grind
 all_goals grind [KF,N3,N7,Cj]
theorem QN{s:St}{kb:St->Bool}{k:St->Prop}(hk:∀s',kb s'=true->k s')(h:ac7 b o s kb=true):A0 (b.w pk) o s k:=by grind [ac7,A0,afN,ai6]
theorem ahN{s:St}{kb:St->Bool}{k:St->Prop}(hk:∀s',kb s'=true->k s')(h:opB b o s kb=true):opT (b.w pk) o s k:=by grind [opB,opT,Yw,QN]
theorem QP{all:List Oper}{kb:St->Bool}{k:St->Prop}(hk:∀s',kb s'=true->k s'):∀(l:List Oper)(s:St),Cn b all l s kb=true->nG (b.w pk) all l s k
 |[],s,h=>hk s h
 |o::r,s,h=>by
  unfold Cn at h;unfold nG;have ih:∀s,Cn b all r s kb=true->nG (b.w pk) all r s k:=λs h=>QP hk r s h
  split at h
  all_goals grind [ahN]
omit hc in
theorem ae4{ops:List Oper}{s:St}{a b:St->Bool}{f no:St->Prop}(hf:∀s',a s'=true->f s')(hn:∀s',b s'=true->no s')(h:gB ops o s a b=true):gT ops o s f no:=by grind [gB,gT]
omit hc in
theorem Qd{a:Nat->Bool}{f:Nat->Prop}(hf:∀i,a i=true->f i):∀l:List Nat,Z6 a l=true->RQ f l
 |[],_=>trivial
 |[i],h=>hf i h
 |i::j::r,h=>by
  unfold Z6 at h;split at h
  .rename_i hi;exact⟨hf i hi,Qd hf (j::r) h⟩
  grind
theorem Ja{ops:Array Oper}{kb:St->Bool}{k:St->Prop}(hk:∀s',kb s'=true->k s'):∀(n:Nat)(listed:Array Bool)(s:St),sa b ops n listed s kb=true->gS (b.w pk) ops n listed s k
 |0,listed,s,h=>by grind [sa,gS]
 |n+1,listed,s,h=>by
  unfold sa at h;unfold gS;have ih:∀l s,sa b ops n l s kb=true->gS (b.w pk) ops n l s k:=λl s h=>Ja hk n l s h
  split at h
  .grind
  split at h
  .split at h
   all_goals grind [afN,ae4]
  grind [Qd,ae4,QN]
def lH(n:Nat):Code->An
 |.seq a b=>.s (lH n a) (lH n b)
 |.cond _ a b=>.c (lH n a) (lH n b)
 |.block _ a=>.b (lH n a)
 |.loop a=>.un n (lH n a)
 |_=>.l
structure KtOk (Kb:KtB) (K:Kt):Prop where
 n:∀s,Kb.n s=true->K.n s
 x:∀i s,Kb.x i s=true->K.x i s
 r:∀s,Kb.r s=true->K.r s
omit hc in
theorem R0(n:Nat)(c:Code)(s:St):(lH n c).pick s=lH n c:=by cases c<;>rfl
theorem lG(n:Nat):∀(c:Code)(s:St){Kb:KtB}{K:Kt},KtOk Kb K->wpB n b c s Kb=true->wpT (b.w pk) (lH n c) c s K
 |.skip,s,Kb,K,a,h=>a.n s h
 |.region i ops f,s,Kb,K,a,h=>by
  cases f with
  |false=>exact QP hc a.n _ s h
  |true=>exact Ja hc a.n _ _ s h
 |.seq x y,s,Kb,K,a,h=>by
  show wpT (b.w pk) (lH n x) x s ⟨λs'=>wpT (b.w pk) ((lH n y).pick s') y s' K,K.x,K.r⟩
  refine lG n x s (Kb:=⟨λs'=>wpB n b y s' Kb,Kb.x,Kb.r⟩) ⟨λs' h'=>?_,a.x,a.r⟩ h;show wpT (b.w pk) ((lH n y).pick s') y s' K
  rw[R0];exact lG n y s' a h'
 |.cond o x y,s,Kb,K,a,h=>by
  cases o with
  |tmp t=>
   unfold wpB at h;show(match gtA s.t t with|.one (.c (.d (.bo c)))=>if c then wpT (b.w pk) (lH n x) x s K else wpT (b.w pk) (lH n y) y s K|_=>False)
   split at h
   .rename_i c e;rw[e];cases c with
    |true=>exact lG n x s a h
    |false=>exact lG n y s a h
   grind
  |_=>grind [wpB]
 |.block id x,s,Kb,K,a,h=>by
  refine lG n x s (Kb:=⟨Kb.n,λi s'=>match Nat.beq i id with|true=>Kb.n s'|false=>Kb.x i s',Kb.r⟩) ⟨a.n,λi s' h'=>?_,a.r⟩ h
  grind [KtOk.n,KtOk.x]
 |.loop x,s,Kb,K,a,h=>by
  show uL (λR s'=>wpT (b.w pk) (lH n x) x s' ⟨R,K.x,K.r⟩) n s
  have key:∀m s,NZ (λR s'=>wpB n b x s' ⟨R,Kb.x,Kb.r⟩) m s=true->uL (λR s'=>wpT (b.w pk) (lH n x) x s' ⟨R,K.x,K.r⟩) m s:=by
   intro m;induction m with
   |zero=>intro s h;cases h
   |succ m ih=>intro s h;exact lG n x s (Kb:=⟨_,Kb.x,Kb.r⟩) ⟨λs' h'=>ih s' h',a.x,a.r⟩ h
  exact key n s h
 |.exit i,s,Kb,K,a,h=>a.x i s h
 |.ret,s,Kb,K,a,h=>a.r s h
 |.rangeFunc ..,_,_,_,_,h=>by grind [wpB]
 |.scope ..,_,_,_,_,h=>by grind [wpB]
 |.label ..,_,_,_,_,h=>by grind [wpB]
 |.goto ..,_,_,_,_,h=>by grind [wpB]
 |.refuse ..,_,_,_,_,h=>by grind [wpB]
end
end Go.Am
end

section
namespace Go.Am
open Go Go.Proofs
variable{P:Program}{s:St}
theorem OJ{kb:At->Bool}{k:At->Prop}(hk:∀v,kb v=true->k v)(r:ResultVar)(h:F8 P s kb r=true):mm P s k r:=by
 unfold F8 at h;unfold mm
 (repeat' split at h)<;>first|(cases h;done)|exact hk _ h|exact Kw hk h
theorem qv:∀(rs:List ResultVar){kb:List At->Bool}{k:List At->Prop},(∀v,kb v=true->k v)->vh P s rs kb=true->dC P s rs k
 |[],_,_,hk,h=>hk _ h
 |r::rs,kb,k,hk,h=>OJ (k:=λv=>dC P s rs λvs=>k (v::vs)) (λv h'=>qv rs (kb:=λvs=>kb (v::vs)) (λvs h2=>hk _ h2) h') r h
theorem Gc{rs:List ResultVar}{us:List U}{KKb:Fl us->Bool}{KK:Fl us->Prop}(hk:∀x,KKb x=true->KK x)(h:Lg P rs us KKb s=true):pq P rs us KK s:=by grind [Lg,pq,qv]
variable{res:List ResultVar}
theorem Y4{sh:List Sh}{u:U}{rs:List U}{KKb:Fl rs×El u->Bool}{KK:Fl rs×El u->Prop}(hk:∀x,KKb x=true->KK x)(h:Bn P res sh u rs KKb s=true):vi P res sh u rs KK s:=by
 unfold Bn at h;unfold vi
 grind [qv]
theorem JI{kb:St->At->Bool}{k:St->At->Prop}(hk:∀s v,kb s v=true->k s v)(s:St)(h:QD P res kb s=true):rV P res k s:=by grind [QD,rV]
abbrev anF(n:Nat)(fn:Func):An:=lH n (fn.body.getD .skip)
section
variable {n:Nat} {b:EnB} (hc:GA b.cs b.e.cs) {fn:Func} {ps rs:List U}
include hc
theorem zz{x:Fl ps}{KKb:Fl rs->Bool}{KK:Fl rs->Prop}(hk:∀y,KKb y=true->KK y)(h:IN n b fn ps rs x KKb=true):uh b.e fn (anF n fn) ps rs x KK:=lG (pk:=λ_ _=>False) hc n _ _ (K:=⟨pq b.e.P fn.results.toList rs KK,λ_ _=>False,pq b.e.P fn.results.toList rs KK⟩) ⟨λs h=>Gc hk h,λ_ _ h=>(by cases h),λs h=>Gc hk h⟩ h
theorem YT:xW (YS n b fn ps rs) (QZ b.e fn (anF n fn) ps rs):=by
 intro pk s ops kb k hk h;unfold YS at h;unfold QZ phT;dsimp only at h|-;split at h
 .rename_i x hx;exact⟨λy=>k _ (dp rs y),zz hc (λy=>hk _ _) h,λy hy=>hy⟩
 grind
theorem X9:xW (X8 n b fn ps rs) (AC ps rs λx KK=>uh b.e fn (anF n fn) ps rs x KK):=by
 intro pk s ops kb k hk h;unfold X8 at h;unfold AC;split at h
 .exact⟨λy=>k _ (dp rs y),zz hc (λy=>hk _ _) h,λy hy=>hy⟩
 grind
theorem ab9:xW (ag9 n b fn) (M9 b.e fn (anF n fn)):=by
 intro pk s ops kb k hk h;unfold ag9 at h;unfold M9;split at h
 .exact lG hc n _ _ (K:=⟨rV b.e.P fn.results.toList k,λ_ _=>False,rV b.e.P fn.results.toList k⟩) ⟨λs h=>JI hk s h,λ_ _ h=>(by cases h),λs h=>JI hk s h⟩ h
 grind
theorem adH{sh:List Sh}{u:U}:xW (ahS n b fn sh u ps rs) (Bc b.e fn (anF n fn) sh u ps rs):=by
 intro pk s ops kb k hk h;have key:∀(a:El u->St)(x:El u)(y:Fl ps),wpB n b (fn.body.getD .skip) ⟨1,(0,0,.one (.c (.pl ⟨.out 0,0,[]⟩)))::BW 1 ps y,[(.out 0,0,⟨true,bf sh (flat u x),none⟩)]⟩
   ⟨Bn b.e.P fn.results.toList sh u rs (λz=>kb (a z.2) (dp rs z.1)),λ_ _=>false,Bn b.e.P fn.results.toList sh u rs (λz=>kb (a z.2) (dp rs z.1))⟩=true ->
   ∃(KK:Fl rs×El u->Prop)(f:Value->El u->Prop),yk b.e fn (anF n fn) sh u ps rs x y KK f/\(∀z x',KK (z,x')->k (a x') (dp rs z))/\∀v x',f v x'->pk v (a x'):=by
  intro a x y h;have d:∀s,Bn b.e.P fn.results.toList sh u rs (λz=>kb (a z.2) (dp rs z.1)) s=true->vi b.e.P fn.results.toList sh u rs (λz=>k (a z.2) (dp rs z.1)) s:=λs h=>Y4 (λz=>hk (a z.2) (dp rs z.1)) h
  refine⟨λz=>k (a z.2) (dp rs z.1),λ_ _=>False,?_,λz x' g=>g,λ_ _ h=>h.elim⟩;exact lG (pk:=Q3 sh u λ_ _=>False) hc n _ _ (K:=⟨vi b.e.P fn.results.toList sh u rs (λz=>k (a z.2) (dp rs z.1)),λ_ _=>False,vi b.e.P fn.results.toList sh u rs (λz=>k (a z.2) (dp rs z.1))⟩) ⟨d,λ_ _ h=>(by cases h),d⟩ h
 unfold ahS at h;unfold Bc;dsimp only at h|-
 (repeat' split at h)<;>first|simp_all|simp_all
end
theorem aiO{Cb:CKb}{C:CKt}(h:xW Cb C):xW (apB Cb) (apT C):=by
 intro pk s ops kb k hk hb;unfold apB at hb;unfold apT;split at hb
 .exact h _ _ _ _ _ (λs' v h'=>hk _ _ h') hb
 grind
theorem Aa{ps rs:List U}{a:Fl ps->Bool}{pre:Fl ps->Prop}{f:Fl ps->Fl rs}(hp:∀x,a x=true->pre x):xW (fnB ps rs a f) (lk ps rs pre f):=by
 intro pk s ops kb k hk h
 grind [fnB,phT]
theorem Xo{ps rs:List U}{f:Fl ps->Fl rs}:xW (fnB ps rs (λ_=>true) f) (tc ps rs f):=by
 intro pk s ops kb k hk h
 grind [fnB,phT]
theorem ah0{a:List (a8×Nat)}{df:Nat}:xW (swB a df) (swT a df):=by
 intro pk s ops kb k hk h;unfold swB at h;unfold swT;dsimp only at h|-;split at h
 .rename_i x hx;have key:∀(a:List (a8×Nat)){K:Nat->Bool}{K':Nat->Prop},(∀i,K i=true->K' i)->ad4 x K df a=true->swP x K' df a:=by
   intro a K K' b;induction a with
   |nil=>exact b _
   |cons y r ih=>grind [ad4,swP]
  grind
 grind
theorem LZ{e:En}(c:e.ok)(hm:e.P.follows .mixedOrders=true){f:Nat}{fn:Func}(hf:e.P.funcs[f]? = some fn) (a:(fn.name == "runtime.NumGoroutine")=false) (hb:fn.body.isSome=true) {an:An} {ps rs:List U}
  (b:Nat.ble ps.length fn.ntmps=true) (hc:ii fn.ntmps (fn.body.getD .skip)=true):Cont e.P f (QZ e fn an ps rs):=
 yI c hm hf a hb (λ_ _ _ _ h⟨KK,h1,h2⟩=>⟨KK,h1,λy hy=>h y (h2 y hy)⟩) b hc λx K d⟨KK,h1,h2⟩=>⟨KK,λ_=>False,h2,λ_ h=>h.elim,h1⟩
structure Cl (f:Nat) where
 B:CKb
 I:CKt
 ck:xW B I
 cont:Cont prog f I
abbrev ClS:=List ((f:Nat)×Cl f)
def clB:ClS->CBt
 |[]=>[]
 |x::r=>(x.1,x.2.B)::clB r
def clI:ClS->CTt
 |[]=>[]
 |x::r=>(x.1,x.2.I)::clI r
theorem xn:∀l:ClS,GA (clB l) (clI l)
 |[]=>trivial
 |x::r=>⟨⟨rfl,x.2.ck⟩,xn r⟩
noncomputable abbrev clE(E:Ut)(sh:List (TypeId×List Sh))(l:ClS):EnB:=⟨⟨prog,E,clI l,sh,noP⟩,clB l⟩
theorem abQ{f:Nat}{C:CKt}(h:Cont P f C):f<P.funcs.size:=by
 rcases al8 f P.funcs.size with h1|h1
 .exact h1
 have h2:=h.run #[] default
 simp_all[callFunc]
theorem abN:Nat.ble (prog).funcs.size 1000000=true:=kQ0
theorem Di(E:Ut)(sh:List (TypeId×List Sh))(l:ClS):(clE E sh l).e.ok:=by
 intro x hx;have:∀l:ClS,x∈clI l->Cont prog x.1 x.2:=by
  intro l;induction l with
  |nil=>intro h;cases h
  |cons y r ih=>
   intro h;rcases akX.1 h with rfl|h
   .exact y.2.cont
   grind
 have hc:=this l hx
 have h1:=abQ hc
 have h2:=akZ abN
 grind
def Oe(n:Nat)(fn:Func):Bool:=fn.name != "runtime.NumGoroutine" && (fn.body.isSome&&(Nat.ble n fn.ntmps&&(ii fn.ntmps (fn.body.getD .skip)&&Nat.ble fn.ntmps 100000)))
theorem dX{n:Nat}{fn:Func}(h:Oe n fn=true):(fn.name == "runtime.NumGoroutine")=false/\fn.body.isSome=true/\Nat.ble n fn.ntmps=true/\ii fn.ntmps (fn.body.getD .skip)=true/\Nat.ble fn.ntmps 100000=true:=by
 grind [Oe]
theorem wz:prog.follows .mixedOrders=true:=by rfl
section
variable (E:Ut) (sh:List (TypeId×List Sh)) (l:ClS) (n:Nat) {f:Nat} (fn:Func) (ps rs:List U)
noncomputable def clP(hf:prog.funcs[f]? = some fn:=by kernel_rfl)(h:Oe ps.length fn=true:=by kernel_rfl):Cl f:=⟨YS n (clE E sh l) fn ps rs,QZ (clE E sh l).e fn (anF n fn) ps rs,YT (xn l),LZ (Di E sh l) wz hf (dX h).1 (dX h).2.1 (dX h).2.2.1 (dX h).2.2.2.1⟩
noncomputable def clL(hf:prog.funcs[f]? = some fn:=by kernel_rfl)(h:Oe ps.length fn=true:=by kernel_rfl):Cl f:=⟨X8 n (clE E sh l) fn ps rs,AC ps rs λx KK=>uh (clE E sh l).e fn (anF n fn) ps rs x KK,X9 (xn l),yH (Di E sh l) wz hf (dX h).1 (dX h).2.1 (dX h).2.2.1 (dX h).2.2.2.1 (λ_ _ h=>h)⟩
noncomputable def clN(hf:prog.funcs[f]? = some fn:=by kernel_rfl)(h:Oe 0 fn=true:=by kernel_rfl):Cl f:=⟨apB (ag9 n (clE E sh l) fn),apT (M9 (clE E sh l).e fn (anF n fn)),aiO (ab9 (xn l)),Pj (Gz (Di E sh l) wz hf (dX h).1 (dX h).2.1 (dX h).2.2.2.1 (dX h).2.2.2.2)⟩
noncomputable def clM(shr:List Sh)(u:U)(hf:prog.funcs[f]? = some fn:=by kernel_rfl)(h:Oe (ps.length+1) fn=true:=by kernel_rfl):Cl f:=⟨ahS n (clE E sh l) fn shr u ps rs,Bc (clE E sh l).e fn (anF n fn) shr u ps rs,adH (xn l),yL (Di E sh l) wz hf (dX h).1 (dX h).2.1 (dX h).2.2.1 (dX h).2.2.2.1⟩
noncomputable def clF{pre:Fl ps->Prop}(F:Fl ps->Fl rs)(a:Fl ps->Bool)(hp:∀x,a x=true->pre x)(h:Cont prog f (lk ps rs pre F)):Cl f:=⟨fnB ps rs a F,_,Aa hp,h⟩
theorem Vf[DecidableEq (Fl rs)](y:Fl rs)(hf:prog.funcs[f]? = some fn)(h:Oe 0 fn=true)(hb:IN n (clE E sh l) fn [] rs () (λz=>decide (z=y))=true):Cont prog f (tc [] rs (λ_=>y)):=yI (e:=(clE E sh l).e) (Di E sh l) wz hf (dX h).1 (dX h).2.1 (an:=anF n fn) (λ_ _ _ _ h h'=>h _ h') (dX h).2.2.1 (dX h).2.2.2.1 λx K c a=>⟨K,λ_=>False,λ_ h=>h,λ_ h=>h.elim,zz (xn l) (KKb:=λz=>decide (z=y)) (λz b=>by grind) hb⟩
end
end Go.Am
end

section
namespace Go.Am
section
variable {w:World} {H:FH} {γ:Gam} {F:Nm->Fp}
end
end Go.Am
end

section
namespace Go.Am
open Go Go.RowKit Go.Proofs
end Go.Am
end
