/-
  Part 16: AmLibC · AmE15 · AmE13 · AmE16 · AmE18r · AmRen · AmE19 · AmKeys · AmNiceS · AmNice40 · AmNiceX · AmNice45 · AmNiceXY · AmG3 · AmG2 · AmG41.
-/
import Derived.Test.YthhkhcolidkemaaGreatDoorCt15
import Derived.Test.YthhkhcolidkemaaGreatDoorChecked
set_option linter.unusedSimpArgs false
set_option linter.unusedVariables false
set_option linter.unusedSectionVars false
set_option linter.unnecessarySimpa false
open Lt
open Go.Proofs.Tryz
open Go.IntKind (i64)
section
namespace Go.Am
open Go Go.RowKit Go.Proofs
theorem zz(w:World):Below w.heap.size w w:=Below.refl _ w
theorem Jz(c:UInt8):∀l:List UInt8,-1<=Lib.indexByte l c/\Lib.indexByte l c<=(l.length:Int)
 |[]=>by simp[Lib.indexByte]
 |b::l=>by
  have:=Jz c l
  grind [Lib.indexByte]
theorem yO{w:World}{H:FH}{γ:Gam}{m:Mm}{l:List UInt8}(h:l.length<=BIG):AR1 w H γ m (.c (.d (.str l))) (.string ⟨l.toArray⟩):=⟨λ_=>rfl,0,rfl,h⟩
theorem Vh{w:World}{H:FH}{γ:Gam}{k:IntKind}{n:Int}{y:Value}(h:AR w H γ [] (.one (.c (.d (.int k n)))) y):y=.int k n:=by obtain⟨_,m,h⟩:=h;cases m<;>exact h.1
def Vn:CKt:=Bd [.s,.b8] [.i .i64] (λx=>iO x.1 x.2)
theorem WW:Cont prog 265 Vn:=Ew (lb (iU (fn:=f265) kQ0 (by rfl) (by rfl)) (λx args w H γ _ hl f i a=>by
 obtain⟨s,c⟩:=x;obtain⟨u,v,rfl,h1,h2⟩:=Qg (x:=.one (.c (.d (.str s)))) (y:=.one (.c (.d (.int .u8 (UInt8.toNat c:Int))))) hl f;obtain⟨rfl,hs⟩:=lX h1;have hs:List.length (α:=UInt8) s<=BIG:=hs
 obtain rfl:=Vh h2;refine(Tryz.strings_IndexByte ⟨s.toArray⟩ (c.toNat:Int) w).mono ?_;rintro e w' ⟨rfl,hw⟩
 rw[hw];refine⟨_,H,rfl,zz w,λ_ _ _ h=>h,λb o h1 h2=>absurd h2 h1,λb o x l c h1 h2=>by grind,a,?_⟩;have g:((c.toNat:Int).toNat).toUInt8=c:=by simp
 have hi:=Jz c s
 rw[ra,g];unfold BIG at hs;show AR w H γ [] (.one (.c (.d (.int .i64 (Lib.indexByte s c))))) (.int .i64 (Lib.indexByte s c))
 refine⟨λ_=>rfl,0,rfl,?_⟩;simp only[Lit.wf,akI,decide_eq_true_eq,show i64.min=-9223372036854775808 from rfl,show i64.max=9223372036854775807 from rfl];omega))
def aaD:CKt:=Bd [.s,.s] [.s,.bo] (λx=>np x.1 x.2)
theorem abJ:Cont prog 264 aaD:=Ew (lb (iU (fn:=f264) kQ0 (by rfl) (by rfl)) (λx args w H γ _ hl f g a=>by
 obtain⟨s,p⟩:=x;obtain⟨u,v,rfl,h1,h2⟩:=Qg (x:=.one (.c (.d (.str s)))) (y:=.one (.c (.d (.str p)))) hl f;obtain⟨rfl,hs⟩:=lX h1;have hs:List.length (α:=UInt8) s<=BIG:=hs
 obtain⟨rfl,hp⟩:=lX h2;refine(Tryz.strings_CutPrefix ⟨s.toArray⟩ ⟨p.toArray⟩ w).mono ?_;rintro e w' ⟨rfl,hw⟩
 rw[hw];refine⟨_,H,rfl,zz w,λ_ _ _ h=>h,λb o h1 h2=>absurd h2 h1,λb o x l c h1 h2=>by grind,a,_,rfl,?_⟩;rw[ra,ra];have hl:(Lib.trimPrefix s p).length<=BIG:=by grind [Lib.trimPrefix]
 show ARs w H γ [] [.c (.d (.str (Lib.trimPrefix s p))),.c (.d (.bool (Lib.hasPrefix s p)))] [_,_]
 exact⟨(yO hl:AR1 w H γ [] _ _),⟨λ_=>rfl,0,rfl⟩,trivial⟩))
def afT:CKt:=Bc [.s,.s] [.s,.s,.bo] (λx=>Zi x.1 x.2) (λx=>XW x.1 x.2)
theorem agK:Cont prog 76 afT:=lb (iU (fn:=f76) kQ0 (by rfl) (by rfl)) (λx args w H γ a hl g i f=>by
 obtain⟨s,p⟩:=x;obtain⟨u,v,rfl,h1,h2⟩:=Qg (x:=.one (.c (.d (.str s)))) (y:=.one (.c (.d (.str p)))) hl g;obtain⟨rfl,hs⟩:=lX h1;have hs:List.length (α:=UInt8) s<=BIG:=hs
 obtain⟨rfl,hp⟩:=lX h2;have a:s.length < 4294967281:=a
 obtain⟨m,hm⟩:=Dr i f (k:=1) (by rfl);refine(Tryz.strings_Cut ⟨s.toArray⟩ ⟨p.toArray⟩ m w (by grind [uB]) hm).mono ?_;rintro e w' ⟨rfl,n,rfl⟩
 refine⟨_,H,rfl,Iv _ _ _,λ_ _ _ h=>h,λb o h1 h2=>absurd h2 h1,λb o x l c h1 h2=>by grind,f,_,rfl,?_⟩;rw[ra,ra];have hl:(Lib.cut s p).1.length<=BIG/\(Lib.cut s p).2.1.length<=BIG:=by grind [Lib.cut]
 show ARs _ H γ [] [.c (.d (.str (Lib.cut s p).1)),.c (.d (.str (Lib.cut s p).2.1)),.c (.d (.bool (Lib.cut s p).2.2))] [_,_,_]
 exact⟨(yO hl.1:AR1 (w.drewN n) H γ [] _ _),(yO hl.2:AR1 (w.drewN n) H γ [] _ _),⟨λ_=>rfl,0,rfl⟩,trivial⟩)
theorem xR(p:ByteArray):∀(k:Nat)(s:ByteArray),∀x∈Lib.splitB p 0 k s,x.size<=s.size
 |0,s,x,hx=>by grind [Lib.splitB_zero]
 |k+1,s,x,hx=>by
  unfold Lib.splitB at hx;split at hx
  .grind
  rcases akU.1 hx with rfl|hx
  .grind [ByteArray.size_extract]
  have:=xR p k _ x hx
  grind [ByteArray.size_extract]
def Vo:CKt:=Bc [.s,.s] [.sl .s] (λx=>KY x.1 x.2) (λx=>fg x.1 x.2)
theorem WX:Cont prog 75 Vo:=lb (iU (fn:=f75) kQ0 (by rfl) (by rfl)) (λx args w H γ f hl B C a=>by
 obtain⟨s,p⟩:=x;obtain⟨u,v,rfl,h1,h2⟩:=Qg (x:=.one (.c (.d (.str s)))) (y:=.one (.c (.d (.str p)))) hl B;obtain⟨rfl,hs⟩:=lX h1;have hs:List.length (α:=UInt8) s<=BIG:=hs
 obtain⟨rfl,hp⟩:=lX h2;obtain⟨f,A⟩:s.length < 4294967281/\1<=p.length:=f;obtain⟨m,hm⟩:=Dr C a (k:=1) (by rfl);have r:=uB s
 refine(Tryz.strings_Split ⟨s.toArray⟩ ⟨p.toArray⟩ m w kQ1 hm (by grind [uB])).mono ?_;rintro e w' ⟨rfl,rfl⟩
 have g:=Lib.splitB_all ⟨p.toArray⟩ (by grind [uB]) 0 _ ⟨s.toArray⟩ rfl
 have q:=Lib.countB_le ⟨p.toArray⟩ (by grind [uB]) _ ⟨s.toArray⟩ (akK _)
 have n:=xR ⟨p.toArray⟩ (Lib.countB ⟨s.toArray⟩ ⟨p.toArray⟩) ⟨s.toArray⟩
 have t:fg s p=(Lib.splitB ⟨p.toArray⟩ 0 (Lib.countB ⟨s.toArray⟩ ⟨p.toArray⟩) ⟨s.toArray⟩).map (·.data.toList):=rfl
 generalize Lib.splitB ⟨p.toArray⟩ 0 (Lib.countB ⟨s.toArray⟩ ⟨p.toArray⟩) ⟨s.toArray⟩=L at g n t|-;rw[<- g];rw[r]at q n;refine⟨_,λb o=>if b=w.heap.size then((L.map Value.string).toArray[o]?).map HV.c else H b o,rfl,(Below.refl _ w).alloc (akK _) _,λb o y h=>?_,λb o h1 h2=>?_,λb o x l c h1 h2=>?_,λb o y h=>?_,λ_=>rfl,1,?_⟩
 .have:=(a b o y h).lt
  grind
 .grind
 .grind
 .dsimp only at h;split at h
  .rename_i hb;subst hb;obtain⟨z,hz,rfl⟩:=ak0.1 h;show World.cell? _ _=some z
   grind [World.cell?_alloc_new]
  exact(a b o y h).frame (dl (a b o y h).lt)
 show FD _ 1 (.li ((fg s p).map (aw .s))) _
 rw[t,pC];unfold BIG at hs|-;refine⟨_,_,by rw[akT,akT],by simp,by grind,.inr ⟨w.heap.size,0,1,rfl,λi hi=>?_⟩⟩;have hi:i<L.length:=by grind
 have e:((L.map (·.data.toList)).map (aw .s)).getD i []=[.str L[i].data.toList]:=by rw[List.getD,akN,akN,akL hi];rfl
 rw[e];refine⟨rfl,λj hj=>?_⟩;have hj:j=0:=by omega
 subst hj;refine⟨.string L[i],?_,?_⟩
 .grind
 refine⟨by simp,?_⟩
 grind [amF,Lib.size_eq])
end Go.Am
end

section
namespace Go.Am
variable{j:Nat}
section
variable {g:G} {s1:S} {a:Act} {w:World} {H1:FH} {γ:Gam} {F1:Nm->Fp}
theorem OA(h1:RX g s1 a w H1 γ F1){o:Operand}{os:List Operand}{r:Nm}{cells:List T}(k:aH o=true/\os.all aH=true)(C:ev s1 o=.one (.c (.pl ⟨r,0,[]⟩)))(d:ah s1.m r=some ⟨true,cells⟩)
  (A:(Nm.out j).tyd=r.tyd) (s:cells.all (T.self r)=true) (hfz:(os.map (ev s1)).all AV.isFz=true) {nt:Nat} (L:os.length+1<=nt) :
  ∃b f,γ r=.blk b/\RX ⟨nt,w,H1,F1 r,λi=>if i=j then some b else none,none,[]⟩ ⟨eH 0 (.one (.c (.pl ⟨.out j,0,[]⟩))::os.map λx=>(ev s1 x).map T.canon),[(.out j,⟨true,cells.map (T.ren r (.out j))⟩)]⟩
   ⟨((o::os).map a.eval).toArray++Array.replicate (nt - ((o::os).map a.eval).toArray.size) undef,[]⟩ w H1 f (λ_=>F1 r):=by
 have p:=aJ h1 k.1
 rw[C]at p;obtain⟨_,l,ad,J,y⟩:=p;have N:=h1.mem.roots _ (al d)
 obtain⟨b,hγr⟩:∃b,γ r=.blk b:=by grind [cz]
 have u:ad=⟨b,0,none⟩:=by grind [plA]
 subst u;have H:0<cells.length:=by rw[ay]at l;obtain⟨r0,E,q2⟩:=l;rw[d]at E;obtain rfl:=Option.some.inj E;exact q2
 let f:Gam:=λn=>if n=.out j then .blk b else γ n
 let z:Mm:=[(.out j,⟨true,cells.map (T.ren r (.out j))⟩)]
 have t:f (.out j)=.blk b:=by grind
 have K:cz w H1 f z (.out j) ⟨true,cells.map (T.ren r (.out j))⟩ (F1 r):=wb N A s hγr d t ⟨cells.map (T.ren r (.out j)),by simp[z,ah],by simp⟩
 have D:∀c,F1 r c<=tot F1 s1.m c:=λc=>bV (F:=F1) (al d) c
 let I:Nm->Fp:=λ_=>F1 r
 have M:∀c,tot I z c=F1 r c:=λc=>(am0 (F1 r c))
 have B:Mem w H1 f z I:=by
  refine⟨h1.mem.agree,λx hx=>?_,by simp[z],λc=>by exact alV (D c) (h1.mem.le1 c),λc hc=>by exact h1.mem.lt c (by grind),λc hc=>by exact h1.mem.nofz c (by grind)⟩
  grind
 refine⟨b,f,hγr,?_⟩;refine⟨B,⟨akK _,rfl,rfl,rfl,λ_ _ _=>rfl,λ_ _ _ h=>h,λb o h2 h3=>absurd h3 h2,λc hc=>.inl (by grind),o8⟩,?_,⟨rfl,λi b' e=>?_,jI h1⟩,λi=>?_⟩
 .grind
 .grind
 have q:∀x,(o::os)[i]? = some x->(((o::os).map a.eval).toArray++Array.replicate (nt - ((o::os).map a.eval).toArray.size) undef).getD i undef=a.eval x:=by
  intro x hx;rw[alU,alR (by grind)]
  grind
 cases i with
 |zero=>
  rw[G.tv_none rfl,q o rfl,y];refine⟨λ_=>rfl,?_,⟨b,0,none⟩,?_,rfl⟩
  .rw[ay];refine⟨⟨true,cells.map (T.ren r (.out j))⟩,by simp[ah],?_⟩;show 0 < (cells.map (T.ren r (.out j))).length
   grind
  grind [plA]
 |succ i=>
  have v:bB (eH 0 (.one (.c (.pl ⟨.out j,0,[]⟩))::os.map λx=>(ev s1 x).map T.canon)) (i+1)=((os.map λx=>(ev s1 x).map T.canon)[i]?).getD .any:=by grind [iw]
  rw[v,akN];cases hi:os[i]? with
  |none=>trivial
  |some x=>
   have hx:=aJ h1 (akZ.1 k.2 x (alL hi))
   have hz:=akZ.1 hfz (ev s1 x) (List.mem_map_of_mem (alL hi))
   rw[G.tv_none rfl,q x (by grind)];exact iF fw (xl (λ_ _ _ h=>h) hz hx)
theorem Ux(h1:RX g s1 a w H1 γ F1){r:Nm}{cells:List T}(A:ah s1.m r=some ⟨true,cells⟩)(O:(Nm.out j).tyd=r.tyd){b:Nat}(hγr:γ r=.blk b){nt:Nat}{s2:S}{a':Act}{w':World}{D:FH}{γ':Gam}{v:Nm->Fp}
  (G:RX ⟨nt,w,H1,F1 r,λi=>if i=j then some b else none,none,[]⟩ s2 a' w' D γ' v) {d:List T} (z:ah s2.m (.out j)=some ⟨true,d⟩) (ak:d.length=cells.length) (hs2:d.all (T.self (.out j))=true) :
  ∃F3,RX g ⟨nH (m0 r) s1.t,(r,⟨true,d.map (T.ren (.out j) r)⟩)::aP (m0 r) (ci s1.m r)⟩ a w' D γ F3:=by
 have ai:∀c,F1 r c<=tot F1 s1.m c:=λc=>bV (F:=F1) (al A) c
 have k:=G.fr
 dsimp only at k;have hd:=um h1 r
 have M:(s1.drop r).m=aP (bJ r) (ci s1.m r):=rfl
 have l:=hd.mem
 rw[M]at l;generalize hmd0:aP (bJ r) (ci s1.m r)=md at l;have B:∀c,tot F1 md c+F1 r c=tot F1 s1.m c:=λc=>by grind [bC,mz]
 have s:∀c,tot F1 md c≠0->w'.heap[c]? = w.heap[c]? := λc hc=>k.block c (h1.mem.lt c (by grind)) (by have:=B c;have:=h1.mem.le1 c;omega)
 have J:∀c,c<w.heap.size->F1 r c=0->H1 c=D c:=by
  intro c hc h0
  funext o
  cases hh:H1 c o with
  |some y=>rw[k.hold c o y hh]
  |none=>
   cases ae:D c o with
   |none=>rfl
   |some y=>
    rcases k.hnew c o (by grind) hh with h'|h'
    all_goals omega
 have Q:=fK (w':=w') l s
 have aa:Mem w' D γ md F1:=by refine⟨G.mem.agree,λx hx=>bm Q k.hold rfl (λc hc=>s c (by grind [bV])) (l.roots x hx),l.keys,l.le1,λc hc=>by grind [Mem.lt],λc hc o=>?_⟩;rw[<- J c (l.lt c hc) (by have:=B c;have:=h1.mem.le1 c;omega)];exact l.nofz c hc o
 have H:=G.mem.roots _ (al z)
 have L:γ' (.out j)=.blk b:=G.df.2.1 j b (by simp)
 have u:ah md r=none:=by rw[<- hmd0];exact Jr h1.mem.keys
 have N:upd γ r (.blk b)=γ:=by grind [eQ,mR]
 have Z:cz w' D (upd γ r (.blk b)) ((r,⟨true,d.map (T.ren (.out j) r)⟩)::md) r ⟨true,d.map (T.ren (.out j) r)⟩ (v (.out j)):=wb H O.symm hs2 L z eQ ⟨d.map (T.ren (.out j) r),by grind [ah],by simp⟩
 have aj:∀c,v (.out j) c<=tot v s2.m c:=λc=>bV (F:=v) (al z) c
 have W:∀c,v (.out j) c≠0->F1 r c≠0\/w.heap.size<=c:=λc hc=>k.tt c (by grind)
 have R:∀c,v (.out j) c≠0->tot F1 md c=0:=λc hc=>by
  rcases W c hc with h'|h'
  .have:=B c;have:=h1.mem.le1 c;omega
  grind [Mem.lt]
 obtain⟨K,ab⟩:=yl aa (n:=r) (rc:=.blk b) (r:=⟨true,d.map (T.ren (.out j) r)⟩) (f:=v (.out j)) u Z (λc=>by
   by_cases hc:v (.out j) c=0
   .grind [Mem.le1]
   have:=G.mem.le1 c;grind)
  (λc hc=>⟨G.mem.lt c (by grind),G.mem.nofz c (by grind)⟩)
 rw[N]at K;have ag:Fr w H1 (tot F1 s1.m) w' D (tot (upd F1 r (v (.out j))) ((r,⟨true,d.map (T.ren (.out j) r)⟩)::md)):=by
  refine⟨k.size,k.os,k.tape,k.output,λc hc h0=>k.block c hc (by grind),k.hold,λc o h2 h3=>?_,λc hc=>?_,k.nz⟩
  all_goals grind
 have I:KeepsB (m0 r) w γ s1.m w' γ ((r,⟨true,d.map (T.ren (.out j) r)⟩)::md):=by
  have ad:=mX (w:=w') (γ:=γ) (rc:=.blk b) (r:=⟨true,d.map (T.ren (.out j) r)⟩) u
  have ac:KeepsB (bJ r) w γ s1.m w γ md:=by grind [fb]
  constructor
  .intro q p hq;by_cases E:q.root=r
   .obtain⟨qr,qo,qp⟩:=q;subst E;simp only[m0,decide_true,alH,Bool.false_or,Bool.not_eq_false',List.isEmpty_iff]at p;subst p;refine⟨?_,by rfl⟩;rw[ay]at hq|-;obtain⟨r0,q1,q2⟩:=hq;rw[A]at q1;obtain rfl:=Option.some.inj q1;refine⟨⟨true,d.map (T.ren (.out j) qr)⟩,by grind [ah],?_⟩;have af:qo<cells.length:=q2
    show qo < (d.map (T.ren (.out j) qr)).length
    grind
   grind [KeepsB.pl,bJ,Keeps.pl,Keeps.pl]
  grind [m0,KeepsB.rf,bJ,Keeps.rf,Keeps.rf]
 have P:ah ((r,(⟨true,d.map (T.ren (.out j) r)⟩:Root))::aP (m0 r) (ci s1.m r)) r=some ⟨true,d.map (T.ren (.out j) r)⟩:=by grind [ah]
 have C:KeepsB (m0 r) w γ s1.m w' γ ((r,⟨true,d.map (T.ren (.out j) r)⟩)::aP (m0 r) (ci s1.m r)):=by
  constructor
  .intro q p hq;refine⟨?_,(I.pl q p hq).2⟩;by_cases E:q.root=r
   .have h:=(I.pl q p hq).1
    grind [ay,ah]
   have h2:cq (aP (m0 r) (ci s1.m r)) q:=tE (by grind [ay,nu])
   grind [ay,ah]
  intro q p hq;have E:q.root≠r:=by grind [m0]
  refine⟨?_,(I.rf q p hq).2⟩;have h2:iB (aP (m0 r) (ci s1.m r)) q:=tF (by grind [iB,nu])
  grind [iB,ah]
 have X:∀Fu:Nm->Fp,tot Fu ((r,(⟨true,d.map (T.ren (.out j) r)⟩:Root))::aP (m0 r) (ci s1.m r))=tot Fu ((r,⟨true,d.map (T.ren (.out j) r)⟩)::md):=λFu=>by grind [fD,bC]
 have U:Mem w' D γ ((r,⟨true,d.map (T.ren (.out j) r)⟩)::aP (m0 r) (ci s1.m r)) (upd F1 r (v (.out j))):=by
  refine⟨K.agree,λx hx=>?_,?_,λb=>by rw[X];exact K.le1 b,λb hb=>K.lt b (by simp_all),λb hb=>K.nofz b (by simp_all)⟩
  .rcases akU.1 hx with rfl|hx
   .grind [eQ,wb]
   simp only[aP,ak5]at hx;obtain⟨x0,V,rfl⟩:=hx;have Y:x0.1≠r:=λe=>rP (n:=r) h1.mem.keys (by grind)
   rw[mR Y];refine sV C k.hold rfl (λc hc=>s c ?_) (h1.mem.roots x0 (AP V))
   grind [bV,bC]
  have:=K.keys
  grind [oZ]
 refine⟨_,kl h1 U (by grind) (λi=>?_) (λ_=>rfl)⟩;rw[oQ];exact ua C k.hold (h1.t i)
end
theorem acC{α β:Type}{r:Except Value α×β}{K K':α->β->Prop}{KP:Value->β->Prop}(h:∀x y,K x y->K' x y)(hr:exP r K KP):exP r K' KP:=by grind [exP]
variable{an:An}{fn:Func}{ps rs:List U}{sh:List Sh}{u:U}
theorem LV{e:En}(he:e.ok)(hm:e.P.follows .mixedOrders=true){f:Nat}(hf:e.P.funcs[f]? = some fn) (X:(fn.name == "runtime.NumGoroutine")=false) (hb:fn.body.isSome=true)    
  (ad:Nat.ble (ps.length+1) fn.ntmps=true) (hc:jZ fn.ntmps (fn.body.getD .skip)=true):Cont e.P f (QX e fn an sh u ps rs):=by
 have af:fn.body=some (fn.body.getD .skip):=by cases h:fn.body<;>grind
 refine⟨Bq hf X hb,λpk s ops k k' hk d=>?_,λg pk s a w H γ F1 ops k hX ay d=>?_⟩
 .unfold QX at d|-;split at d
  .omega
  dsimp only at d|-;split at d
  .split at d
   .split at d
    .split at d
     .split at d
      .obtain⟨KK,KP,b1,b2,b3⟩:=d;refine⟨KK,KP,b1,λz x' hz=>hk _ _ ?_ (b2 z x' hz),b3⟩;exact((fa _ _).trans (dU _ _ _ _ _)).trans ⟨alD _,ik (akK _),((mV _).trans (eD (akK _))).trans (kI _ _ _ (akK _))⟩
      omega
     omega
    omega
   omega
  omega
 unfold QX at d;cases ops with
 |nil=>grind
 |cons o os=>
  dsimp only at d;have D:aH o=true/\os.all aH=true:=by grind
  obtain⟨H1,F2,h1⟩:=je (os.map (evA s)) s H F1 hX;generalize eJ s (os.map (evA s))=s1 at d h1;split at d
  .rename_i r aB;obtain⟨H2,R,F3,h2⟩:=eT (g:=g) r (mD u) sh 0 (Ww h1);generalize cu s1 r (mD u) sh 0=s2 at d h2;split at d
   .rename_i n ab;split at d
    .rename_i cells aA Z U;have au:n=r:=by grind
     subst au;split at d
     .rename_i ts V;split at d
      .rename_i x y hx hy;have aq:=gB h2
       obtain⟨c1,c2,c3⟩:=jL hy;obtain⟨k1,_⟩:=yH V (oF hx);have p:ah s2.toS.m n=some ⟨true,cells.map Tt.toT⟩:=by
        have:=bz U
        exact this
       have Q:os.length=ps.length:=by grind [ip]
       obtain⟨b,ap,hγr,aa⟩:=OA (j:=0) h2 D (by rw[aj D.1,ab];rfl) p (by rw[Z];rfl) (s5 V).1 (by grind [vf]) (nt:=fn.ntmps) (by rw[Q];exact akR ad);have I:=C3 aa (.out 0)
       have e0:(⟨1,(0,0,.one (.c (.pl ⟨.out 0,0,[]⟩)))::IZ 1 ps y,[(.out 0,0,⟨true,bX sh (flat u x),none⟩)]⟩:St).toS=⟨eH 0 (.one (.c (.pl ⟨.out 0,0,[]⟩))::os.map λx=>(ev s2.toS x).map T.canon),[(Nm.out 0,(⟨true,(cells.map Tt.toT).map (T.ren n (.out 0))⟩:Root))].map λx=>(x.1,if x.1=.out 0 then mC x.2 else x.2)⟩:=by
        have M:(os.map λx=>(ev s2.toS x).map T.canon)=lg ps y:=by
         have e:(os.map λx=>(ev s2.toS x).map T.canon)=(os.map (ev s2.toS)).map (AV.map T.canon):=by rw[alW];rfl
         grind [vf]
        rw[M];refine bT.S_ext ?_ ?_
        .simp only[akM,p7];rfl
        rw[(s5 V).2]
        grind [Rt.toR,holed,mC]
       rw[<- e0]at I;obtain⟨KK,KP,h,ag,av⟩:=d;have L:∀{s':S}{a':Act}{w':World}{H':FH}{γ':Gam}{F':Nm->Fp}{l B:List Tt}{q:El u},RX ⟨fn.ntmps,w,H2,F3 n,λi=>if i=0 then some b else none,none,[]⟩ s' a' w' H' γ' F' ->
         ah s'.m (.out 0)=some ⟨true,l.map Tt.toT⟩->i7 sh l=some B->oE u B=some q ->
         ∃F4,RX g (⟨s2.nx+1,nF (m7 n) s2.nx s2.t,(n,s2.nx,⟨true,bX sh (flat u q),none⟩)::cO (m7 n) s2.nx (fN s2.m n)⟩:St).toS a w' H' R F4:=by
        intro s' a' w' H' γ' F' l B q N ac q2 q3;obtain⟨k3,_⟩:=yH q2 (oF q3);have hl:(l.map Tt.toT).length=(cells.map Tt.toT).length:=by
         have l2:∀(sh:List Sh)(a b:List C),a.length=b.length->(bX sh a).length=(bX sh b).length:=by
          intro sh;induction sh with
          |nil=>intro a b _;rfl
          |cons s r ih=>
           intro a b az;have ao:∀(c:C)(cs:List C),(bX (s::r) (c::cs)).length=(bX r cs).length+1:=by intro c cs;cases s<;>cases c<;>rfl
           cases a with
           |nil=>grind
           |cons c cs=>cases b<;>grind
         grind [xB,akT]
        obtain⟨F4,hX'⟩:=Ux (j:=0) h2 p (by rw[Z];rfl) hγr N ac hl (s5 q2).1;have aC:=C3 hX' n
        have ai:((n,(⟨true,(l.map Tt.toT).map (T.ren (.out 0) n)⟩:Root))::aP (m0 n) (ci s2.toS.m n)).map (λx=>(x.1,if x.1=n then mC x.2 else x.2))=(n,⟨true,(bX sh (flat u q)).map Tt.toT⟩)::aP (m0 n) (ci s2.toS.m n):=by
         simp only[akM]
         congr 1
         .grind [D6,mC]
         refine(ak2 λz hz=>?_).trans (List.map_id _);have aD:z.1≠n:=by
          intro e;have Y:=List.mem_map_of_mem (f:=(·.1)) hz
          have N:(aP (m0 n) (ci s2.toS.m n)).map (·.1)=(ci s2.toS.m n).map (·.1):=by simp only[aP,alW];rfl
          rw[N,e]at Y;exact rP h2.mem.keys Y
         grind
        have ax:(⟨s2.nx+1,nF (m7 n) s2.nx s2.t,(n,s2.nx,⟨true,bX sh (flat u q),none⟩)::cO (m7 n) s2.nx (fN s2.m n)⟩:St).toS=⟨nH (m0 n) s2.toS.t,(n,⟨true,(bX sh (flat u q)).map Tt.toT⟩)::aP (m0 n) (ci s2.toS.m n)⟩:=by
         refine bT.S_ext (nG _ _ _) ?_;simp only[akM]
         congr 1
         have:=fh (m7 n) s2.nx (fN s2.m n)
         rw[nh _ _ aq]at this;exact this
        grind
       refine calls_of_wp hf af (Code.wp_mono (λex a' w' hl=>?_) (om (e:=⟨e.P,e.E,e.cs,e.sh,ZE sh u KP⟩) he hm (g:=⟨fn.ntmps,w,H2,F3 n,λi=>if i=0 then some b else none,none,[]⟩) _ an _ _ hc h _ w ⟨H2,ap,_,I⟩));obtain⟨s',hq,hR⟩:=hl;have fin:∀t:St,s'=t.toS->Q4 e.P fn.results.toList sh u rs KK t ->
         a'.defers=[]/\∃v,(results fn a'.tmps).run e.P w'=.ok v w'/\ng g a pk k (.returned v) w':=by
        rintro t rfl J
        unfold Q4 at J;dsimp only at J;have A:=eT (.out 0) (mD u) sh 0 (sU fn.results.toList hR)
        generalize cu (qd t fn.results.toList) (.out 0) (mD u) sh 0=s3 at J A;have ae:=tb (us:=rs) (k:=λvs=>match dw rs vs,cm s3.m (.out 0)with
         |some aw,some ⟨true,cells,none⟩=>match i7 sh cells with
          |some ts=>match oE u ts with
           |some ak=>KK (aw,ak)
           |none=>False
          |none=>False
         |_,_=>False) (by
          intro vs G;split at G
          all_goals grind) J
        have am:=mu (us:=rs) (K:=λr=>∃cells ts q,cm s3.m (.out 0)=some ⟨true,cells,none⟩/\i7 sh cells=some ts/\oE u ts=some q/\KK (r,q)) (afI A) (by
          intro vs G;split at G
          .split at G
           .split at G
            all_goals grind
           grind
          grind) J
        obtain⟨Hs,ar,Fs,W⟩:=A;obtain⟨y0,v,H4,F4,M,N,e3,e4,r0,e5,l,B,q,q1,q2,q3,q4⟩:=ZC W rfl (Q0 ae (K:=λv=>∃r,v=(ic rs r).toV/\∃cells ts q,cm s3.m (.out 0)=some ⟨true,cells,none⟩/\i7 sh cells=some ts/\oE u ts=some q/\KK (r,q)) (λr hr=>⟨r,rfl,hr⟩) am);rw[ae]at N e3;obtain⟨F5,O⟩:=L N (bz q1) q2 q3;refine⟨N.df.1,y0,M,.inl ⟨y0,_,ic rs r0,H4,R,F5,rfl,ag _ _ q4,?_,O⟩⟩;rw[<- e5];exact iF fw (xl (λ_ _ _ h=>h) e4 e3)
       cases ex with
       |normal=>obtain⟨t,M,J⟩:=hq;exact fin t M J
       |ret=>obtain⟨t,M,J⟩:=hq;exact fin t M J
       |exit i=>obtain⟨t,M,J⟩:=hq;grind
       |panic c=>
        obtain⟨v,t,rfl,rfl,hv⟩:=hq;unfold ZE at hv;dsimp only at hv;have A:=eT (.out 0) (mD u) sh 0 hR
        have al:a'.defers=[]:=by obtain⟨_,_,_,hX'⟩:=hR;exact hX'.df.1
        split at hv
        .rename_i l q1;split at hv
         .rename_i B q2;split at hv
          .rename_i q q3;obtain⟨Hs,ar,Fs,W⟩:=A;obtain⟨F5,O⟩:=L W (bz q1) q2 q3;exact⟨al,.inr ⟨v,_,rfl,av _ _ hv,Hs,R,F5,O⟩⟩
          grind
         grind
        grind
       |_=>exact hq.elim
      grind
     grind
    grind
   grind
  grind
variable{e:En}{f:Nat}
theorem Ct(l:e.ok)(hm:e.P.follows .mixedOrders=true)(hf:e.P.funcs[f]? = some fn) (c:(fn.name == "runtime.NumGoroutine")=false) (hb:fn.body.isSome=true) {an:An} {sh:List Sh} {u:U} {ps rs:List U} {pre:El u->Fl ps->Prop} {Fn:El u->Fl ps->Except Value (Fl rs)×El u}
  (d:Nat.ble (ps.length+1) fn.ntmps=true) (hc:jZ fn.ntmps (fn.body.getD .skip)=true) (j:∀x y,pre x y->∀(KK:Fl rs×El u->Prop)(KP:Value->El u->Prop),exP (Fn x y) (λz x'=>KK (z,x')) KP->yr e fn an sh u ps rs x y KK KP):Cont e.P f (KZ sh u ps rs pre Fn):=by
 have h:=LV l hm hf c hb (an:=an) (sh:=sh) (u:=u) (ps:=ps) (rs:=rs) d hc
 refine⟨h.run,λpk s ops k k' hk b=>?_,λg pk s a w H γ F ops k m i b=>h.call g pk s a w H γ F ops k m i ?_⟩
 .unfold KZ at b|-;split at b
  .omega
  dsimp only at b|-
  (repeat' split at b)<;>first|exact b.elim|skip
  refine⟨b.1,acC (λz x' hz=>hk _ _ ?_ hz) b.2⟩;exact((fa _ _).trans (dU _ _ _ _ _)).trans ⟨alD _,ik (akK _),((mV _).trans (eD (akK _))).trans (kI _ _ _ (akK _))⟩
 unfold KZ at b;unfold QX;split at b
 .omega
 dsimp only at b|-
 (repeat' split at b)<;>first|exact b.elim|skip
 rename_i x y _ _;refine⟨λz=>Fn x y=(.ok z.1,z.2),λv x'=>Fn x y=(.error v,x'),j _ _ b.1 _ _ ?_,λz x' hz=>?_,λv x' hv=>?_⟩
 .generalize Fn x y=r;obtain⟨r1,r2⟩:=r;cases r1<;>rfl
 .have h2:=b.2;rw[show Fn x y=(.ok z,x')from hz]at h2;exact h2
 have h2:=b.2;rw[hv]at h2;exact h2
theorem Gs{e:En}(j:e.ok)(hm:e.P.follows .mixedOrders=true){g:G}(k:g.nt=fn.ntmps)(hc:jZ fn.ntmps (fn.body.getD .skip)=true){x:Fl ps}{KK:Fl rs->Prop}{K:AV->Prop}
  (f:∀r,KK r->K (ic rs r).toV) (h:Iz e fn an ps rs x KK):AW e.P g (fn.body.getD .skip) (ah4 e.P fn.results.toList K) ⟨eH 0 (lg ps x),[]⟩:=by
 have h1:=om (e:=⟨e.P,e.E,e.cs,e.sh,λ_ _=>False⟩) j hm (g:=g) _ an (MP ps x) _ (by grind) h
 have e0:(MP ps x).toS=⟨eH 0 (lg ps x),[]⟩:=bT.S_ext (p7 0 ps x) rfl
 rw[e0]at h1;refine yQ h1 (λex s' a w h' d=>?_);cases ex with
 |normal=>obtain⟨t,rfl,b⟩:=h';exact FY f b d
 |ret=>obtain⟨t,rfl,b⟩:=h';exact FY f b d
 |exit i=>exact h'.elim (λt b=>b.2.elim)
 |panic c=>obtain⟨_,_,_,_,hf⟩:=h';grind
 |_=>exact h'.elim
theorem ajS(a:scU u=true)(x:El u):∀{H H':FH}{y:Value},FDx H (au u x).toD y->FDx H' (au u x).toD y:=by
 intro H H' y h;cases u with
 |i k=>obtain⟨rfl,h2⟩:=fX h;exact⟨0,rfl,h2⟩
 |b8=>obtain⟨rfl,h2⟩:=fX h;exact⟨0,rfl,h2⟩
 |bo=>obtain rfl:=jH h;exact⟨0,rfl⟩
 |s=>obtain⟨rfl,h2⟩:=iH h;exact⟨0,rfl,h2⟩
 |_=>cases a
theorem aeA(a:scU u=true)(x:El u):Cp u x=.c (.d (au u x)):=by cases u<;>first|rfl|cases a
theorem ajR{w w':World}{H H':FH}{γ γ':Gam}{m m':Mm}:∀{rs:List U}{y:Fl rs}{z:Value},rs.all scU=true->AR w H γ m (ic rs y).toV z->AR w' H' γ' m' (ic rs y).toV z:=by
 have one:∀{u:U}{x:El u}{z:Value},scU u=true->AR1 w H γ m (Cp u x).toV z->AR1 w' H' γ' m' (Cp u x).toV z:=by intro u x z a h;rw[aeA a]at h|-;exact⟨h.1,ajS a x h.2⟩
 have all:∀(rs:List U)(y:Fl rs)(zs:List Value),rs.all scU=true->ARs w H γ m ((ic.resL rs y).map A1.toV) zs->ARs w' H' γ' m' ((ic.resL rs y).map A1.toV) zs:=by
  intro rs;induction rs with
  |nil=>intro y zs _ h;cases zs with
   |nil=>trivial
   |cons _ _=>exact h.elim
  |cons u r ih=>
   intro y zs hs h;simp only[akW,akI]at hs;cases zs with
   |nil=>exact h.elim
   |cons z zs=>exact⟨one hs.1 h.1,ih _ zs hs.2 h.2⟩
 intro rs y z hs h
 match rs,y with
 |[],_=>obtain⟨l,h1,h2⟩:=h;exact⟨l,h1,all [] () _ rfl h2⟩
 |[u],y=>
  simp only[akW,amV,amO]at hs;have e:(ic [u] y).toV=.one (Cp u y).toV:=by show(BK u y).toV=_;rw[vP];rfl
  rw[e]at h|-;exact one hs h
 |u::v::r,y=>obtain⟨l,h1,h2⟩:=h;exact⟨l,h1,all (u::v::r) y _ hs h2⟩
section
variable {P:Program} {g:G} {a:Act} {w:World} {H:FH} {γ:Gam} {F:Nm->Fp}
theorem Ll{s:St}{p:Pl}{l:List (El u)}{r:Rt}(hr:cm s.m p.root=some r)(t:r.hole=none)(h:sliceAt s.m p=some ⟨sh,u,l⟩)(hp:okP s.toS.m p):bi s.toS.m p=some (.ow sh (l.map (aw u))):=by
 unfold sliceAt at h;split at h
 .rename_i o u' l' b;cases h;have e:r.toR=⟨r.blk,r.cells.map Tt.toT⟩:=by unfold Rt.toR;rw[t];rfl
  have j:ah s.toS.m p.root=some ⟨r.blk,r.cells.map Tt.toT⟩:=by rw[<- e];exact bz hr
  unfold atT at b;rw[hr]at b;unfold bi;rw[j];cases a:p.path with
  |nil=>
   rw[a]at b;dsimp only at b|-;split at b
   .have:(r.cells.drop p.off)[0]? = some (.ow sh u l):=by grind [al0]
    rw[amH,am0]at this;rw[akN,this];rfl
   grind
  |cons st q=>
   rw[a]at b;dsimp only at b|-;split at b
   .rename_i sub n l2 _ hc;unfold okP at hp;rw[a]at hp;obtain⟨v,g,l',f,i,k⟩:=hp;rw[j]at f;obtain rfl:=Option.some.inj f;have c:(r.cells.map Tt.toT)[p.off]? = some (.ow sub (l2.map (aw n))):=by rw[akN,hc];rfl
    rw[c]at i;have d:=Option.some.inj i
    obtain⟨rfl,rfl⟩:=d;rw[c];dsimp only;rw[As k b]
   grind
 grind
def nI(w:World)(H:FH)(t:Fp):FH:=λb o=>if t b≠0 then(w.cell? ⟨b,o,none⟩).map HV.c else H b o
theorem uW{s:S}(h:RX g s a w H γ F):∀b o y,H b o=some y->nI w H (tot F s.m) b o=some y:=by
 intro b o y hy;unfold nI;split
 .rename_i hb;rw[h.mem.nofz b hb o]at hy;cases hy
 omega
theorem Kn{s:S}(h:RX g s a w H γ F):∀b o y,nI w H (tot F s.m) b o=some y->RdV w b o y:=by
 intro b o y hy;unfold nI at hy;split at hy
 .obtain⟨z,hz,rfl⟩:=ak0.1 hy;exact hz
 exact h.mem.agree b o y hy
theorem NY(s:St)(v:At):lent s v=v\/∃p r sh u l,v=.one (.c (.rf p))/\lent s v=sct (.li u l)/\cm s.m p.root=some r/\r.hole=none/\sliceAt s.m p=some ⟨sh,u,l⟩:=by
 unfold lent
 grind
theorem adC{s:St}(h:RX g s.toS a w H γ F){v:At}{z:Value}(hv:AR w H γ s.toS.m v.toV z)(hz:(lent s v).toV.isFz=true):AR w (nI w H (tot F s.toS.m)) γ [] (lent s v).toV z:=by
 rcases NY s v with e|⟨p,r,sh,u,l,rfl,e,hr,i,hs⟩
 .grind [xl,uW]
 rw[e];have j:=Ll hr i hs (qq hv.2.1)
 obtain⟨f,y,c,⟨k,d⟩,n,_⟩:=zi h.mem (fP hv.2.1) j;rw[hv.2.2]at c;obtain rfl:=Option.some.inj c;refine⟨λ_=>rfl,Wi (uW h) k _ _ f _ d (λb hb o x hx=>?_)⟩
 grind [nI]
theorem YM{s:St}(h:RX g s.toS a w H γ F){ops:List Operand}(d:ops.all aH=true){x:Fl ps}(hx:dw ps (ops.map λx=>lent s (evA s x))=some x){nt:Nat}(f:ops.length<=nt) :
  RX ⟨nt,w,nI w H (tot F s.toS.m),λ_=>0,λ_=>none,none,[]⟩ ⟨eH 0 (lg ps x),[]⟩ ⟨(ops.map a.eval).toArray++Array.replicate (nt - (ops.map a.eval).toArray.size) undef,[]⟩ w (nI w H (tot F s.toS.m)) γ F:=by
 obtain⟨l,k,c3⟩:=jL hx;refine⟨⟨Kn h,λx hx=>by grind,by simp,λb=>alJ _,λb hb=>absurd rfl hb,λb hb=>absurd rfl hb⟩,⟨akK _,rfl,rfl,rfl,λ_ _ _=>rfl,λ_ _ _ h=>h,λb o h2 h3=>absurd h3 h2,λb hb=>absurd rfl hb,o8⟩,?_,⟨rfl,λj b e=>by simp at e,ze (uW h) (jI h)⟩,λi=>?_⟩
 .grind
 show AR w _ γ [] (bB (eH 0 (lg ps x)) i) (Array.getD _ i undef)
 rw[<- c3,iw];simp only[akN];cases hi:ops[i]? with
 |none=>trivial
 |some y=>
  have hop:=akZ.1 d y (alL hi)
  have hy:=aJ h hop
  rw[aj hop]at hy;have hz:(lent s (evA s y)).toV.isFz=true:=by grind
  have c:((ops.map a.eval).toArray++Array.replicate (nt - (ops.map a.eval).toArray.size) undef).getD i undef=a.eval y:=by rw[alU,alR (by grind)];simp[hi]
  rw[c];exact iF fw (adC h hy hz)
theorem RP{s1:S}(h1:RX g s1 a w H γ F){w':World}{f:FH}{tt:Fp}(d:Fr w (nI w H (tot F s1.m)) (λ_=>0) w' f tt)(q:∀b o y,f b o=some y->RdV w' b o y) :
  RX g s1 a w' (λb o=>if tot F s1.m b≠0 then none else f b o) γ F:=by
 have hold:∀b,b<w.heap.size->w'.heap[b]? = w.heap[b]? := λb hb=>d.block b hb rfl
 have e:∀b,tot F s1.m b≠0->w'.heap[b]? = w.heap[b]? := λb hb=>hold b (h1.mem.lt b hb)
 have n:=fK (w':=w') h1.mem e
 have j:∀b o y,H b o=some y->(if tot F s1.m b≠0 then none else f b o)=some y:=by
  intro b o y hy;split
  .rename_i hb;rw[h1.mem.nofz b hb o]at hy;cases hy
  exact d.hold b o y (uW h1 b o y hy)
 have hnew:∀b o,(if tot F s1.m b≠0 then none else f b o)≠none->H b o=none->w.heap.size<=b:=by
  intro b o h2 h3;split at h2
  .grind
  have h4:nI w H (tot F s1.m) b o=none:=by grind [nI]
  rcases d.hnew b o h2 h4 with h'|h'
  all_goals omega
 have k:Mem w' (λb o=>if tot F s1.m b≠0 then none else f b o) γ s1.m F:=by
  refine⟨λb o y hy=>?_,λx hx=>bm n j rfl (λb hb=>e b (by grind [bV])) (h1.mem.roots x hx),h1.mem.keys,h1.mem.le1,λb hb=>by have:=h1.mem.lt b hb;grind,λb hb o=>?_⟩
  all_goals grind
 have p:Fr w H (tot F s1.m) w' (λb o=>if tot F s1.m b≠0 then none else f b o) (tot F s1.m):=
  ⟨d.size,d.os,d.tape,d.output,λb hb _=>hold b hb,j,λb o h2 h3=>.inr (hnew b o h2 h3),λb hb=>.inl hb,d.nz.1,λb o x l c h2 h3=>by grind [Fr.nz,nI]⟩
 exact kl h1 k p (λi=>dK n j (h1.t i)) (λ_=>rfl)
theorem LU(B:e.ok)(hm:e.P.follows .mixedOrders=true)(hf:e.P.funcs[f]? = some fn) (c:(fn.name == "runtime.NumGoroutine")=false) (hb:fn.body.isSome=true)   {Φ:Fl ps->(Fl rs->Prop)->Prop}
  (d:Nat.ble ps.length fn.ntmps=true) (hc:jZ fn.ntmps (fn.body.getD .skip)=true) (o:∀x KK,Φ x KK->Iz e fn an ps rs x KK):Cont e.P f (QH ps rs Φ):=by
 have j:fn.body=some (fn.body.getD .skip):=by cases h:fn.body<;>grind
 refine⟨Bq hf c hb,λpk s ops k k' hk b=>?_,λg pk s a w H γ F ops k p i b=>?_⟩
 .grind [QH,Ext.refl]
 unfold QH at b;split at b
 rotate_left
 .grind
 rename_i x hx hs;obtain⟨KK,h1,hk⟩:=b;have l:ops.length=ps.length:=by
  obtain⟨_,_,c3⟩:=jL hx
  grind [ip]
 have q:=Gs (g:=⟨fn.ntmps,w,nI w H (tot F s.toS.m),λ_=>0,λ_=>none,none,[]⟩) B hm rfl hc (K:=λr=>∃y,KK y/\r=(ic rs y).toV) (λr hr=>⟨r,hr,rfl⟩) (o x KK h1)
 refine calls_of_wp hf j (Code.wp_mono (λex a' w' hl=>?_) (q _ w ⟨_,γ,F,YM p i hx (nt:=fn.ntmps) (by rw[l];exact akR d)⟩));obtain⟨s',hq,H',γ',F',hX'⟩:=hl;have fin:Bn e.P s' fn.results.toList (λr=>∃y,KK y/\r=(ic rs y).toV)->a'.defers=[]/\∃v,(results fn a'.tmps).run e.P w'=.ok v w'/\ng g a pk k (.returned v) w':=by
  intro hq;obtain⟨z,v,s2,C,D,u,n,A,G,y,t,E⟩:=FV hX' rfl hq;refine⟨n.df.1,z,u,.inl ⟨z,s,ic rs y,_,γ,F,rfl,hk y t,?_,RP p n.fr n.mem.agree⟩⟩;have:=iF fw A
  grind [ajR]
 cases ex with
 |normal=>exact fin hq
 |ret=>exact fin hq
 |_=>exact hq.elim
theorem Rp(l:e.ok)(hm:e.P.follows .mixedOrders=true)(hf:e.P.funcs[f]? = some fn) (b:(fn.name == "runtime.NumGoroutine")=false) (hb:fn.body.isSome=true)  {rs:List U} {pre:Fl ps->Prop} {Fn:Fl ps->Fl rs}
  (c:Nat.ble ps.length fn.ntmps=true) (hc:jZ fn.ntmps (fn.body.getD .skip)=true) (j:∀x,pre x->∀KK:Fl rs->Prop,KK (Fn x)->Iz e fn an ps rs x KK):Cont e.P f (YL ps rs pre Fn):=by
 have h:=LU l hm hf b hb (rs:=rs) (Φ:=λx KK=>pre x/\KK=λy=>y=Fn x) c hc (λx KK⟨h1,h2⟩=>j x h1 KK (by rw[h2]))
 refine⟨h.run,λpk s ops k k' hk i=>?_,λg pk s a w H γ F ops k m d i=>h.call g pk s a w H γ F ops k m d ?_⟩
 all_goals grind [YL,Ext.refl,QH]
end
abbrev afL(ps rs:List U)(pre:Fl ps->Prop)(post:Fl ps->Fl rs->Prop):CKt:=phT ps rs λx K _=>pre x/\∀y,post x y->K y
structure NmR (σ:Nm->Nm):Prop where
 inv:∀n,σ (σ n)=n
 tyd:∀n,(σ n).tyd=n.tyd
theorem NmR.inj{σ:Nm->Nm}(h:NmR σ){n n':Nm}(e:σ n=σ n'):n=n':=by rw[<- h.inv n,<- h.inv n',e]
def Pl.rn(σ:Nm->Nm)(p:Pl):Pl:=⟨σ p.root,p.off,p.path⟩
def T.rn(σ:Nm->Nm):T->T
 |.pl p=>.pl (p.rn σ)
 |.rf p=>.rf (p.rn σ)
 |t=>t
def AV1.rn(σ:Nm->Nm):AV1->AV1
 |.c t=>.c (t.rn σ)
 |.agg ts=>.agg (ts.map (T.rn σ))
def AV.rn(σ:Nm->Nm):AV->AV
 |.one x=>.one (x.rn σ)
 |.tup xs=>.tup (xs.map (AV1.rn σ))
 |.any=>.any
def Root.rn(σ:Nm->Nm)(r:Root):Root:=⟨r.blk,r.cells.map (T.rn σ)⟩
def rnM(σ:Nm->Nm)(m:Mm):Mm:=m.map λx=>(σ x.1,x.2.rn σ)
def S.rn(σ:Nm->Nm)(s:S):S:=⟨s.t.map λx=>(x.1,x.2.rn σ),rnM σ s.m⟩
def Tt.rn(σ:Nm->Nm):Tt->Tt
 |.pl p=>.pl (p.rn σ)
 |.rf p=>.rf (p.rn σ)
 |t=>t
def A1.rn(σ:Nm->Nm):A1->A1
 |.c t=>.c (t.rn σ)
 |.agg ts=>.agg (ts.map (Tt.rn σ))
def At.rn(σ:Nm->Nm):At->At
 |.one x=>.one (x.rn σ)
 |.tup xs=>.tup (xs.map (A1.rn σ))
 |.any=>.any
def Rt.rn(σ:Nm->Nm)(r:Rt):Rt:=⟨r.blk,r.cells.map (Tt.rn σ),r.hole⟩
def St.rn(σ:Nm->Nm)(s:St):St:=⟨s.nx,s.t.map λx=>(x.1,x.2.1,x.2.2.rn σ),s.m.map λx=>(σ x.1,x.2.1,x.2.2.rn σ)⟩
variable{y:Value}
section
variable {σ:Nm->Nm}
theorem Tt.rn_toT:∀t:Tt,(t.rn σ).toT=t.toT.rn σ
 |.d _=>rfl
 |.nil=>rfl
 |.ow _ _ _=>rfl
 |.mp _ _ _=>rfl
 |.it _ _ _ _=>rfl
 |.mo _ _ _ _=>rfl
 |.el _ _=>rfl
 |.ga _ _ _=>rfl
 |.pl _=>rfl
 |.rf _=>rfl
 |.any=>rfl
theorem WB(ts:List Tt):(ts.map (Tt.rn σ)).map Tt.toT=(ts.map Tt.toT).map (T.rn σ):=by grind [ak2,Tt.rn_toT]
theorem A1.rn_toV:∀x:A1,(x.rn σ).toV=x.toV.rn σ
 |.c t=>congrArg AV1.c t.rn_toT
 |.agg ts=>congrArg AV1.agg (WB ts)
theorem At.rn_toV:∀x:At,(x.rn σ).toV=x.toV.rn σ
 |.one x=>congrArg AV.one x.rn_toV
 |.tup xs=>congrArg AV.tup (by grind [ak2,A1.rn_toV])
 |.any=>rfl
theorem Yc(ts:List T)(h:Option (Nat×Step×List Step)):holed (ts.map (T.rn σ)) h=(holed ts h).map (T.rn σ):=by
 cases h with
 |none=>rfl
 |some x=>
  obtain⟨off,st,q⟩:=x;simp only[holed,akN];cases ts[off]? with
  |none=>rfl
  |some t=>cases t<;>grind [T.rn,alB]
theorem Rt.rn_toR(r:Rt):(r.rn σ).toR=r.toR.rn σ:=by grind [Rt.toR,Rt.rn,Root.rn,WB,Yc]
theorem St.rn_toS(s:St):(s.rn σ).toS=s.toS.rn σ:=by simp_all[St.toS,St.rn,S.rn,rnM,At.rn_toV,Rt.rn_toR]
theorem acO(t:List (Nat×AV))(i:Nat):bB (t.map λx=>(x.1,x.2.rn σ)) i=(bB t i).rn σ:=by
 induction t with
 |nil=>rfl
 |cons x r ih=>grind [bB]
theorem ab3{cells:List T}{o:Nat}{sub:List Sh}{l:List (List D)}:(cells.map (T.rn σ))[o]? = some (.ow sub l) ↔ cells[o]? = some (.ow sub l):=by
 rw[akN];cases cells[o]? with
 |none=>simp
 |some t=>cases t<;>simp[T.rn]
variable (hσ:NmR σ)
include hσ
theorem Qz(m:Mm)(n:Nm):ah (rnM σ m) (σ n)=(ah m n).map (Root.rn σ):=by
 induction m with
 |nil=>rfl
 |cons x r ih=>
  obtain⟨k,v⟩:=x;simp only[rnM,akM,ah];by_cases hk:k=n
  .grind
  rw[if_neg hk,if_neg (λe=>hk (hσ.inj e))];exact ih
theorem adM{m:Mm}{p:Pl}(h:cq m p):cq (rnM σ m) (p.rn σ):=by grind [cq,Pl.rn,Qz,Root.rn,ab3]
theorem adN{m:Mm}{p:Pl}(h:iB m p):iB (rnM σ m) (p.rn σ):=by grind [iB,Pl.rn,Qz,Root.rn,T.rn]
variable {w:World} {H:FH} {γ:Gam} {m:Mm} {F:Nm->Fp}
abbrev rnG(σ:Nm->Nm)(γ:Gam):Gam:=λn=>γ (σ n)
theorem ahW(p:Pl):plA w (rnG σ γ) (p.rn σ)=plA w γ p:=by simp_all[plA,Pl.rn,rnG,NmR.inv]
theorem ahX(p:Pl):plV w (rnG σ γ) (p.rn σ)=plV w γ p:=by simp_all[plV,Pl.rn,rnG,NmR.inv]
theorem WA{t:T}{f:Fp}(h:TR w H γ m t f y):TR w H (rnG σ γ) (rnM σ m) (t.rn σ) f y:=by
 cases t with
 |pl p=>obtain⟨h1,h2,a,h3,h4⟩:=h;exact⟨h1,adM hσ h2,a,(ahW hσ p).trans h3,h4⟩
 |rf p=>obtain⟨h1,h2,h3⟩:=h;exact⟨h1,adN hσ h2,(ahX hσ p).trans h3⟩
 |_=>exact h
theorem ae3{ts:List T}{f:Fp}{vs:List Value}(h:Ts (TR w H γ m) ts f vs):Ts (TR w H (rnG σ γ) (rnM σ m)) (ts.map (T.rn σ)) f vs:=by
 unfold Ts at h|-;have key:∀(a:List Unit)(xs:List T)(f:Fp)(vs:List Value),Cs (λ_ t=>TR w H γ m t) a xs f vs->Cs (λ_ t=>TR w H (rnG σ γ) (rnM σ m) t) a (xs.map (T.rn σ)) f vs:=by
  intro a xs;induction xs generalizing a with
  |nil=>intro f vs h;cases a<;>exact h
  |cons x xs ih=>
   intro f vs h;cases a with
   |nil=>exact h.elim
   |cons u a=>obtain⟨v,r,f1,b,hv,hf,k1,k2⟩:=h;exact⟨v,r,f1,b,hv,hf,WA hσ k1,ih a b r k2⟩
 grind
theorem Wx{n:Nm}{r:Root}{f:Fp}(h:cz w H γ m n r f):cz w H (rnG σ γ) (rnM σ m) (σ n) (r.rn σ) f:=by
 unfold cz at h|-;by_cases hb:r.blk=true
 .rw[if_pos hb]at h;rw[if_pos (show(r.rn σ).blk=true from hb)];obtain⟨b,cs,ty,fz,g,h1,h2,h3,h4,h5,h6⟩:=h;exact⟨b,cs,ty,fz,g,by rw[rnG,hσ.inv];exact h1,h2,⟨h3.1,λt a=>h3.2 t (by grind [NmR.tyd])⟩,by grind [Root.rn],ae3 hσ h5,h6⟩
 rw[if_neg hb]at h;obtain⟨v,t,h1,h2,h3⟩:=h
 simp_all[rnG,NmR.inv,Root.rn,WA]
theorem Ga(m:Mm):tot (λn=>F (σ n)) (rnM σ m)=tot F m:=by
 induction m with
 |nil=>rfl
 |cons x r ih=>simp_all[rnM,tot,NmR.inv]
theorem afY(h:Mem w H γ m F):Mem w H (rnG σ γ) (rnM σ m) (λn=>F (σ n)):=by
 refine⟨h.agree,λx hx=>?_,?_,λb=>by rw[Ga hσ];exact h.le1 b,λb hb=>h.lt b (by simp_all[Ga]),λb hb=>h.nofz b (by simp_all[Ga])⟩
 .simp only[rnM,ak5]at hx;obtain⟨y,hy,rfl⟩:=hx
  simp_all[NmR.inv,Wx,Mem.roots]
 have:(rnM σ m).map (·.1)=(m.map (·.1)).map σ:=by simp_all[rnM]
 rw[this,List.nodup_iff_pairwise_ne,List.pairwise_map];exact(List.nodup_iff_pairwise_ne.1 h.keys).imp (λa e=>a (hσ.inj e))
theorem Vf{x:AV1}(h:AR1 w H γ m x y):AR1 w H (rnG σ γ) (rnM σ m) (x.rn σ) y:=by
 cases x with
 |c t=>exact WA hσ h
 |agg ts=>obtain⟨cs,h1,h2,h3⟩:=h;exact⟨cs,h1,by grind,ae3 hσ h3⟩
theorem Vk:∀{xs:List AV1}{ys:List Value},ARs w H γ m xs ys->ARs w H (rnG σ γ) (rnM σ m) (xs.map (AV1.rn σ)) ys
 |[],[],_=>trivial
 |_::_,_::_,h=>⟨Vf hσ h.1,Vk h.2⟩
 |[],_::_,h=>h.elim
 |_::_,[],h=>h.elim
theorem aeT{x:AV}(h:AR w H γ m x y):AR w H (rnG σ γ) (rnM σ m) (x.rn σ) y:=by
 cases x with
 |one x=>exact Vf hσ h
 |tup xs=>obtain⟨l,h1,h2⟩:=h;exact⟨l,h1,Vk hσ h2⟩
 |any=>trivial
theorem Qa{g:G}{s:St}{a a':Act}{ds:List Deferred}{out:Nat->Option Nat}(h:RX g s.toS a w H γ F)(h1:a'.tmps=a.tmps)(h2:a'.defers=ds)(ho:∀j b,out j=some b->γ (σ (.out j))=.blk b) :
  RX ⟨g.nt,g.w0,g.H0,g.own0,out,g.ex,ds⟩ (s.rn σ).toS a' w H (rnG σ γ) (λn=>F (σ n)):=by
 rw[St.rn_toS];refine⟨afY hσ h.mem,?_,by grind [RX.nt],⟨h2,λj b hb=>ho j b hb,h.df.2.2⟩,λi=>?_⟩
 .show Fr g.w0 g.H0 g.own0 w H (tot (λn=>F (σ n)) (rnM σ s.toS.m))
  rw[Ga hσ];exact h.fr
 show AR w H (rnG σ γ) (rnM σ s.toS.m) (bB (s.toS.t.map λx=>(x.1,x.2.rn σ)) i) _
 rw[acO];have e:G.tv ⟨g.nt,g.w0,g.H0,g.own0,out,g.ex,ds⟩ a' i=g.tv a i:=by grind [G.tv]
 rw[e];exact aeT hσ (h.t i)
end
def ya(i:Nat):Nat:=i % 1000000 / 1000
def Lv(k i:Nat):Nat:=match Nat.beq (ya i) 0 with
 |true=>i+k*1000
 |false=>match Nat.beq (ya i) k with
  |true=>i-k*1000
  |false=>i
def U0(k:Nat):Nm->Nm
 |.loc i=>.loc (Lv k i)
 |.gh i=>.gh (Lv k i)
 |.out i=>.out i
theorem BH{k:Nat}(hk:1<=k/\k < 1000)(i:Nat):Lv k (Lv k i)=i/\Lv k i / 1000000=i / 1000000:=by
 unfold Lv;cases h0:Nat.beq (ya i) 0 with
 |true=>
  have h:=akO h0
  unfold ya at h;have h1:ya (i+k*1000)=k:=by grind [ya]
  grind [akO,Nat.beq_refl]
 |false=>
  cases a:Nat.beq (ya i) k with
  |true=>
   have h:=akO a
   unfold ya at h;have h1:ya (i-k*1000)=0:=by grind [ya]
   grind [Nat.beq_refl]
  |false=>grind
theorem Re{k:Nat}(hk:1<=k/\k < 1000):NmR (U0 k):=by
 refine⟨λn=>?_,λn=>?_⟩
 .cases n with
  |loc i=>exact congrArg Nm.loc (BH hk i).1
  |gh i=>exact congrArg Nm.gh (BH hk i).1
  |out i=>rfl
 cases n with
 |loc i=>
  show(if Lv k i < 1000000 then none else some (Lv k i / 1000000))=(if i < 1000000 then none else some (i / 1000000))
  grind [BH]
 |_=>rfl
def ajJ(k:Nat)(n:Nm):Bool:=match n with
 |.loc i=>Nat.beq (ya i) k
 |.gh i=>Nat.beq (ya i) k
 |.out _=>false
def afA:Nat->Nat->List (Nm×Nat×Rt)->Nat
 |0,k,_=>k
 |n+1,k,m=>match m.any (λx=>ajJ k x.1)with
  |true=>afA n (k+1) m
  |false=>k
def apK(s:St):Option Nat:=match afA 900 1 s.m with
 |k=>match Nat.ble 1 k&&Nat.blt k 1000 with
  |true=>some k
  |false=>none
def apT(C:CKt):CKt:=λpk s ops k=>match apK s with
 |some j=>C (λv s'=>pk v (s'.rn (U0 j))) (s.rn (U0 j)) ops (λs' v=>k (s'.rn (U0 j)) (v.rn (U0 j)))
 |none=>False
theorem Pl.rn_rn{σ:Nm->Nm}(hσ:NmR σ)(p:Pl):(p.rn σ).rn σ=p:=by simp[Pl.rn,hσ.inv]
theorem Tt.rn_rn{σ:Nm->Nm}(hσ:NmR σ)(t:Tt):(t.rn σ).rn σ=t:=by cases t<;>simp[Tt.rn,Pl.rn_rn hσ]
theorem A1.rn_rn{σ:Nm->Nm}(hσ:NmR σ)(x:A1):(x.rn σ).rn σ=x:=by
 cases x with
 |c t=>simp[A1.rn,Tt.rn_rn hσ]
 |agg ts=>simp[A1.rn,Function.comp_def,Tt.rn_rn hσ]
theorem At.rn_rn{σ:Nm->Nm}(hσ:NmR σ)(x:At):(x.rn σ).rn σ=x:=by
 cases x with
 |one t=>simp[At.rn,A1.rn_rn hσ]
 |tup ts=>simp[At.rn,Function.comp_def,A1.rn_rn hσ]
 |any=>rfl
theorem Rt.rn_rn{σ:Nm->Nm}(hσ:NmR σ)(r:Rt):(r.rn σ).rn σ=r:=by simp_all[Rt.rn,Function.comp_def,Tt.rn_rn]
theorem Ks{σ:Nm->Nm}(t:List (Nat×Nat×At))(k:Nat):cF (t.map λx=>(x.1,x.2.1,x.2.2.rn σ)) k=(cF t k).map λx=>(x.1,x.2.rn σ):=by induction t<;>grind [cF]
theorem Kq{σ:Nm->Nm}(hσ:NmR σ)(m:List (Nm×Nat×Rt))(n:Nm):dx (m.map λx=>(σ x.1,x.2.1,x.2.2.rn σ)) (σ n)=(dx m n).map λx=>(x.1,x.2.rn σ):=by
 induction m with
 |nil=>rfl
 |cons x r ih=>
  obtain⟨i,j,v⟩:=x;simp only[akM,dx];by_cases h:i=n
  .grind
  rw[if_neg (λe=>h (hσ.inj e)),if_neg h];exact ih
theorem Ext.rn{σ:Nm->Nm}(hσ:NmR σ){s s':St}(h:Ext (s.rn σ) s'):Ext s (s'.rn σ):=by
 refine⟨h.nx,λk j v hk hj=>?_,λn j r hn hj=>?_⟩
 .rw[show(s'.rn σ).t=s'.t.map λx=>(x.1,x.2.1,x.2.2.rn σ)from rfl,Ks]at hk;cases h1:cF s'.t k with
  |none=>grind
  |some x=>
   rw[h1]at hk;obtain⟨j',v'⟩:=x;obtain⟨rfl,rfl⟩:=hk;have h2:=h.t k j' v' h1 hj
   rw[show(s.rn σ).t=s.t.map λx=>(x.1,x.2.1,x.2.2.rn σ)from rfl,Ks]at h2;cases h3:cF s.t k<;>grind [At.rn_rn]
 rw[<- hσ.inv n,show(s'.rn σ).m=s'.m.map λx=>(σ x.1,x.2.1,x.2.2.rn σ)from rfl,Kq hσ]at hn;cases h1:dx s'.m (σ n)with
 |none=>grind
 |some x=>
  rw[h1]at hn;obtain⟨j',v'⟩:=x;obtain⟨rfl,rfl⟩:=hn;have h2:=h.m (σ n) j' v' h1 hj
  rw[show(s.rn σ).m=s.m.map λx=>(σ x.1,x.2.1,x.2.2.rn σ)from rfl,Kq hσ]at h2;cases h3:dx s.m n<;>grind [Rt.rn_rn]
theorem WH{s:St}(h:apK s=some j):1<=j/\j < 1000:=by
 unfold apK at h;dsimp only at h;split at h
 all_goals simp_all
theorem aaF{P:Program}{C:CKt}(h:Cont P f C):Cont P f (apT C):=by
 refine⟨h.run,λpk s ops k k' hk hc=>?_,λg pk s a w H γ F ops k l c hc=>?_⟩
 .unfold apT at hc|-;split at hc
  .rename_i j hj;have hσ:=Re (WH hj)
   exact h.ext _ _ _ _ _ (λs' v n=>hk _ _ (n.rn hσ)) hc
  omega
 unfold apT at hc;split at hc
 .rename_i j hj;have hσ:=Re (WH hj)
  have d:=Qa hσ (out:=g.out) (ds:=g.dfs) l rfl l.df.1 (λi b hb=>l.df.2.1 i b hb)
  refine(h.call _ _ _ a w H _ _ ops _ d c hc).mono ?_;rintro e w' (⟨r,s',av,H',γ',F',rfl,k1,k2,k3⟩|⟨v,s',rfl,k1,H',γ',F',k2⟩)
  .refine .inl ⟨r,_,_,H',_,_,rfl,k1,?_,Qa hσ (out:=g.out) (ds:=g.dfs) k3 rfl k3.df.1 (λi b hb=>k3.df.2.1 i b hb)⟩;rw[At.rn_toV];show AR w' H' _ (s'.rn (U0 j)).toS.m _ _
   rw[St.rn_toS];exact aeT hσ k2
  exact .inr ⟨v,_,rfl,k1,H',_,_,Qa hσ (out:=g.out) (ds:=g.dfs) k2 rfl k2.df.1 (λi b hb=>k2.df.2.1 i b hb)⟩
 grind
end Go.Am
end

section
namespace Go.Am
open Go Go.Proofs
def lky:U->Bool
 |.i _=>true
 |.bo=>true
 |.s=>true
 |_=>false
theorem YO{u:U}(h:lky u=true):leaf u=true:=by cases u<;>first|rfl|cases h
theorem adE{u:U}(h:lky u=true)(x:El u):(au u x).toD.isKey=true:=by cases u<;>first|rfl|cases h
def adI(n:Nm):CKt:=λ_ s ops k=>match ops with
 |[x]=>
  let s0:=ja s (evA s x)
  let s1:=s0.fresh n
  match evA s1 x with
  |.one (.c (.d (.mp ku vu z)))=>match lky ku&&leaf vu with
   |true=>z.isSome=true/\k (s1.root n ⟨false,[.mp ku vu (z.getD [])],none⟩) (.one (.c (.rf ⟨n,0,[]⟩)))
   |false=>False
  |_=>False
 |_=>False
section
variable {P:Program}
theorem Vr{f:Nat}{fn:Func}{n:Nm}(hno:n.isOut=false)(hf:P.funcs[f]? = some fn) (d:(fn.name == "runtime.NumGoroutine")=false) (hb:fn.body.isSome=true)
  (c:∀(b:Nat)(es:Array MapEntry)(ck:Nat)(w:World),w.heap[b]? = some (.map es ck)->Calls P f #[.map (some b)] w λe w'=>e=.returned (.map (some w.heap.size))/\w'=w.alloc (.map es ck)):Cont P f (adI n):=by
 refine⟨λargs w=>iU hf d hb args w,λpk s ops k k' hk hc=>?_,λg pk s a w H γ F1 ops k E u hc=>?_⟩
 .unfold adI at hc|-;split at hc
  .dsimp only at hc|-;split at hc
   .split at hc
    .exact⟨hc.1,hk _ _ ((jd _ _).trans ((cg _ _).trans (dB _ _ _))) hc.2⟩
    omega
   omega
  omega
 unfold adI at hc;split at hc
 .rename_i o;dsimp only at hc;have ho:aH o=true:=by grind
  obtain⟨H1,q,h1⟩:=io E (evA s o);generalize ja s (evA s o)=s0 at hc h1;have h2:=dv h1 n
  have hn:=cE h1 n
  have B:(s0.fresh n).toS=s0.toS.fresh n:=bN (gB h1)
  rw[<- B]at h2 hn;generalize s0.fresh n=s1 at hc h2 hn;have hv:=aJ h2 ho
  rw[aj ho]at hv;split at hc
  .rename_i ku vu z r;rw[r]at hv;split at hc
   .rename_i p;rw[akI]at p;obtain⟨hz,hc⟩:=hc;obtain⟨l,rfl⟩:∃l,z=some l:=by cases z<;>grind
    have hd:FDx H1 (.mp (some (l.map λx=>((aw ku x.1).headD .any,(aw vu x.2).headD .any)))) (a.eval o):=hv.2
    have el:(l.map λx=>((aw ku x.1).headD .any,(aw vu x.2).headD .any))=l.map λx=>((au ku x.1).toD,(au vu x.2).toD):=ak2 λx _=>by grind [p6,YO]
    rw[el]at hd;obtain⟨b,es,ck,G,C,c3,i⟩:=VA h2.mem.agree (λe r=>by grind [adE]) hd
    rw[alW]at i;have i:MpO w H1 (l.map (wy ku vu)) es.toList (λ_=>0):=i
    rw[show(([o].map a.eval).toArray:Array Value)=#[.map (some b)]by grind];refine Calls.mono (c b es ck w C) ?_;rintro e w' ⟨rfl,rfl⟩
    have hold:∀k,k<w.heap.size->(w.alloc (.map es ck)).heap[k]? = w.heap[k]? := λk hk=>dl hk
    have h3:=pQ h2 (w':=w.alloc (.map es ck)) (by simp) rfl rfl rfl (λb hb=>.inl (hold b hb))
    have A:tot q s1.toS.m w.heap.size=0:=by
     rcases alI (tot q s1.toS.m w.heap.size)with h'|h'
     .exact h'
     have:=h2.mem.lt w.heap.size kQ1;omega
    obtain⟨γ',F',h4,j⟩:=eE h3 hno hn (v:=.map (some w.heap.size)) (t:=.mp (l.map (wy ku vu))) (f:=λb=>if b=w.heap.size then 1 else 0) ⟨w.heap.size,es,ck,λ_=>0,rfl,bL,c3,kJ (λ_ _ _ h=>h) (λb hb=>absurd rfl hb) i,λ_=>(am1 _).symm⟩ (λb=>by
      by_cases e:b=w.heap.size
      .grind
      .rw[if_neg e];have:=h2.mem.le1 b;omega) (λb hb=>by
      have e:b=w.heap.size:=by grind
      subst e;refine⟨by simp,λo=>?_⟩;cases hc:H1 w.heap.size o with
      |none=>rfl
      |some y=>have:=(h2.mem.agree _ _ _ hc).lt;omega) (λb hb=>by
      right
      have e:b=w.heap.size:=by grind
      have:=h2.fr.size
      omega)
    have D:(s1.root n ⟨false,[.mp ku vu l],none⟩).toS=⟨s1.toS.t,(n,⟨false,[.mp (l.map (wy ku vu))]⟩)::s1.toS.m⟩:=rfl
    rw[<- D]at h4;refine .inl ⟨_,_,_,H1,γ',F',rfl,hc,?_,h4⟩;exact vT (l:=l.map (wy ku vu)) (by show ah ((n,(⟨false,[.mp (l.map (wy ku vu))]⟩:Root))::s1.toS.m) n=_;simp[ah]) j
   grind
  grind
 grind
end
end Go.Am
end

section
namespace Go.Am
open Go Go.RowKit Go.Maps Go.Sort Go.Shelf Go.Proofs
theorem zJ:Cont prog 106 (adI (.gh 800000)):=Vr rfl func106 (by rfl) (by rfl) (λb es ck w hb=>AnyW.maps_Clone Tryz.clone106 b es ck w hb)
set_option maxHeartbeats 1000000 in
theorem N9{H:Type}(b j:Nat)(i:DataW H)(R:Value->Option (DataW H×List MemPlace))(w:World)(h:w.ownsMap prog 9 R b j i)(g:Maps.size i<=maxLen)(a:Maps.size i*16<=140737488355328) :
  Calls prog 175 #[.map (some b)] w λe w'=>∃(v:Value)(c:List (List UInt8)),e=.returned v/\c.Perm (strKeys i) /\
   w'.ownsRow w.heap.size 9 1 v c.length ((c.mergeSort (λx y=>decide (x<=y))).map encStr)/\(v=.slice none 0 0 ↔ c=[])/\Below w.heap.size w w':=by
 refine(callsIn_wide (n:=6)).1 ?_;have l:Fence.wide.fn 210:=trivial
 have k:Fence.wide.fn 209:=trivial
 refine callsIn_of_wp func175 rfl trivial ?_ rfl;simp only[Tryz.ntmps175,List.size_toArray,ak3,ak8,Nat.reduceAdd,Nat.reduceSub,Array.replicate_succ,Array.replicate_zero,List.push_toArray,List.append_toArray,amM,al6]
 gi_wp2_with (first
  |(gi_at_call 210;refine(Tryz.maps_Keys_210 _ _).mono ?_;rintro e w' ⟨rfl,rfl⟩)
  |(gi_at_call 209;refine(Tryz.slices_Sorted_keys_209_210 b j i R w h g a).mono ?_;rintro e w' ⟨v,c,rfl,m,d,f,hb⟩))
 go_ret
 exact⟨v,c,rfl,m,ownsRow_base_a d (by simp),f,((Below.refl _ w).alloc (akK _) _).trans (hb.mono (by simp))⟩
def aa1:Value->Option (DataW Unit×List MemPlace):=λ_=>some (.lit (.bool true),[])
theorem adT{b ck:Nat}{es:Array MapEntry}{w:World}(hb:w.heap[b]? = some (.map es ck))(d:MapKept.Stamped es ck)(g:es.size<=1000000)(hk:∀e∈es.toList,∃l:List UInt8,e.key=.string ⟨l.toArray⟩/\l.length<=BIG) :
  ∃f:DataW Unit,w.ownsMap prog 9 aa1 b es.size f/\(∀v,v∈strKeys f ↔ ∃e∈es.toList,e.key=.string ⟨v.toArray⟩)/\Maps.size f=es.size:=by
 have c:∀e∈es.toList,∀l:List UInt8,e.key=.string ⟨l.toArray⟩->l.length<=BIG->WideElems.rd prog 9 aa1 e=some (.string l,.lit (.bool true)):=λe a l h1 h2=>by unfold WideElems.rd;rw[h1,WideMaps.keyOf_string_mk underlying9 (by show l.toArray.size<=_;grind [BIG,maxLen])];rfl
 have hp:=WideShapes.sorted_perm (es.toList.map (WideElems.rg prog 9 aa1))
 refine⟨_,⟨es,ck,hb,⟨by grind [maxLen],d,λe a=>?_⟩,akK _,rfl⟩,λv=>?_,?_⟩
 .grind
 .show v∈List.map _ _ ↔ _
  rw[(hp.map _).mem_iff];simp only[ak5];constructor
  .rintro⟨_,⟨e,a,rfl⟩,rfl⟩
   obtain⟨l,h1,h2⟩:=hk e a;refine⟨e,a,?_⟩;unfold WideElems.rg;rw[c e a l h1 h2,h1];rfl
  rintro⟨e,a,h1⟩
  obtain⟨l,h3,h2⟩:=hk e a;refine⟨_,⟨e,a,rfl⟩,?_⟩;unfold WideElems.rg;rw[c e a l h3 h2];rw[h3]at h1;have:l=v:=by grind
  rw[<- this];rfl
 grind [Maps.size,List.Perm.length_eq,akT]
def LO:CKt:=afL [.mp .s .bo] [.sl .s] (λx=>lG x) (λx y=>jv x y)
theorem Mz:Cont prog 175 LO:=xm (iU (fn:=f175) kQ0 (by rfl) (by rfl)) (λx args w H γ C hl W X d=>by
 obtain⟨hs,hn⟩:=C;obtain⟨L,rfl⟩:∃L:List (List UInt8×Bool),x=some L:=by cases x<;>grind
 have hn:L.length<=1000000:=hn
 obtain⟨u,rfl⟩:∃u,args=[u]:=List.length_eq_one_iff.1 hl
 obtain⟨u',h0,h1⟩:=W 0 _ rfl;obtain rfl:u=u':=by grind
 have f:FDx H (.mp (some (L.map λx=>(.str x.1,.bool x.2)))) u:=h1.2
 obtain⟨m,f⟩:=f;cases m with
 |zero=>exact f.elim
 |succ m=>
  obtain⟨b,es,ck,rfl,k1,k2,k3⟩:=f;obtain⟨k4,k5⟩:=d b 0 _ k1;rw[akT]at k2;have A:∀(i:Nat)(e:MapEntry),es.toList[i]? = some e->∃z,L[i]? = some z/\e.key=.string ⟨z.1.toArray⟩/\z.1.length<=BIG:=λi e O=>by
   have hi:i<L.length:=by grind
   have hz:=akL hi
   have:=(k3 i (.str L[i].1,.bool L[i].2) e (by grind) O).1
   have this:e.key=.string ⟨L[i].1.toArray⟩/\L[i].1.length<=BIG:=by cases m<;>exact this
   grind
  obtain⟨F,E,t,M⟩:=adT k4 k5 (by grind) (λe O=>by grind [List.mem_iff_getElem?])
  have R:es.size<=1000000:=by grind
  have g:∀v,v∈strKeys F ↔ v∈L.map (·.1):=λv=>by
   rw[t];constructor
   .grind [List.mem_iff_getElem?]
   intro h;obtain⟨z,hz,rfl⟩:=ak5.1 h;obtain⟨i,hi⟩:=List.mem_iff_getElem?.1 hz;have I:i<es.toList.length:=by grind
   obtain⟨Y,S,h2,_⟩:=A i _ (akL I)
   grind
  have B:∀v∈L.map (·.1),v.length<=BIG:=λv hv=>by grind [List.mem_iff_getElem?]
  refine(N9 b es.size F aa1 w E (by grind [maxLen]) kQ1).mono ?_;rintro e w' ⟨v,K,rfl,P,a,N,hb⟩
  have D:=P.length_eq
  have k:=List.mergeSort_perm K λx y=>decide (x<=y)
  have r:=k.length_eq
  generalize K.mergeSort (λx y=>decide (x<=y))=Q at a k r;have J:∀v,v∈Q ↔ v∈L.map (·.1):=λv=>(k.mem_iff.trans P.mem_iff).trans (g v)
  have U:es.size=L.length:=by grind
  have n:Q.length<=L.length:=by
   rw[r,D];have:(strKeys F).length=Maps.size F:=by
    unfold strKeys Maps.size
    grind
   omega
  have V:Q.length<=1000000:=alV n hn
  obtain⟨_,a⟩:=a;rcases a with⟨rfl,hz⟩|⟨gb,cap,cur,rfl,r0,r1,r2,r3,r4,r5⟩
  .obtain rfl:Q=[]:=alX kQ1;refine⟨_,H,[],rfl,⟨J,n⟩,hb,λ_ _ _ h=>h,λb o h1 h2=>absurd h2 h1,λb o x l c h1 h2=>by grind,λb o y h=>(d b o y h).frame (hb.block b (d b o y h).lt),λ_=>rfl,1,?_⟩;show FD _ 1 (.li []) _
   grind [pC]
  have T:∀o,H gb o=none:=λo=>by
   cases hc:H gb o with
   |none=>rfl
   |some y=>have:=(d _ _ _ hc).lt;omega
  rw[Nat.mul_one]at r4 r5;have p:∀o(ho:o<Q.length),cur[o]? = some (encStr Q[o]):=λo ho=>by
   have h9:(cur.toList.take K.length)[o]? = some (encStr Q[o]):=by grind
   grind
  refine⟨_,λb o=>if b=gb then(Q.map encStr)[o]?.map HV.c else H b o,Q,rfl,⟨J,n⟩,hb,λb o y h=>?_,λb o h1 h2=>?_,λb o x l c h1 h2=>?_,λb o y h=>?_,λ_=>rfl,1,?_⟩
  .grind
  .grind
  .grind
  .dsimp only at h;split at h
   .rename_i G;subst G;obtain⟨z,hz,rfl⟩:=ak0.1 h;rw[akN]at hz;obtain⟨q,hq,rfl⟩:=ak0.1 hz;have ho:=(al3.1 hq).1
    have hc:=p o ho
    rw[(al3.1 hq).2]at hc;show World.cell? _ _=some _
    grind [World.cell?]
   exact(d b o y h).frame (hb.block b (d b o y h).lt)
  show FD _ 1 (.li (Q.map (aw .s))) _
  rw[pC];unfold BIG;refine⟨_,_,by rw[akT,r],by grind,by grind,.inr ⟨gb,0,1,rfl,λi hi=>?_⟩⟩;have hi:i<Q.length:=by grind
  have e:(Q.map (aw .s)).getD i []=[.str Q[i]]:=by rw[List.getD,akN,akL hi];rfl
  rw[e];refine⟨rfl,λj hj=>?_⟩;have hj:j=0:=by omega
  subst hj;refine⟨encStr Q[i],?_,?_⟩
  .grind
  exact⟨rfl,B _ ((J _).1 (amF hi))⟩)
end Go.Am
end

section
namespace Lt
open Go
def xN(n:Int):Int:=i64.wrap n
def jU(n:Int)(c:UInt8):Int:=IntKind.u64.wrap ((IntKind.u64.wrap ((IntKind.u64.wrap (n*10))+(IntKind.u64.wrap ((c.toNat:Nat):Int)))) - 48)
def Q7(s:List UInt8):Int:=if s.getD 0 0=45 then((s.take 30).drop 1).foldl jU 0 else(s.take 30).foldl jU 0
def Lg(s:List UInt8):Int:=xN (if s.getD 0 0=45 then IntKind.u64.wrap (0-Q7 s)else Q7 s)
def bd(s:List UInt8):Int×Bool:=if kA (Lg s)=s then(Lg s,true)else(0,false)
def Bv(u:Int)(c:UInt8):Int:=IntKind.u64.wrap ((IntKind.u64.wrap (u*16))+(Int.tmod (if 97<=(IntKind.u64.wrap ((c.toNat:Nat):Int))then IntKind.u64.wrap ((IntKind.u64.wrap ((c.toNat:Nat):Int)) - 87)else IntKind.u64.wrap ((IntKind.u64.wrap ((c.toNat:Nat):Int)) - 48)) 16))
def Ed(s:List UInt8):Int:=i64.wrap (((s.drop 2).take 16).foldl Bv 0)
def gH(s:List UInt8):Int×Bool:=if s.length=18/\mL (Ed s)=s then(Ed s,true)else(0,false)
def nX(s:List UInt8)(a:Arg):Bool:=kc a&&decide (cv a=s)
def dG(s:List UInt8):Arg×Bool:=
 if nX s ⟨1,s,0⟩then(⟨1,s,0⟩,true)
 else if nX s ⟨2,[],(bd s).1⟩then(⟨2,[],(bd s).1⟩,true)
 else if nX s ⟨3,[],(gH s).1⟩then(⟨3,[],(gH s).1⟩,true)
 else if nX s ⟨4,[],0⟩then(⟨4,[],0⟩,true)
 else if nX s ⟨5,[],(bd (s.drop 1)).1⟩then(⟨5,[],(bd (s.drop 1)).1⟩,true)
 else(⟨0,[],0⟩,false)
def fT(l:List (List UInt8)):Bool:=l.all be
def mw(w:List UInt8):Bool:=decide (w=[105,110,116])||(decide (w=[102,108,111,97,116])||be w)
def cx(l:List (List UInt8)):Bool:=decide (l.length=3)&&(be (l.getD 1 [])&&mw (l.getD 2 []))
def cP(n most:Int):Int:=if most<=n then 2 else 0
def FZ(w:List UInt8):List (List UInt8)->Int->Int×Bool
 |[],_=>(0,false)
 |x::r,n=>if x=w then(n,true)else FZ w r (n+1)
def sOp(w:List UInt8):Int×Bool:=FZ w (Go.Am.gw.drop 1) 1
def dC(objs:Bool)(w:List UInt8):Bool:=(dG w).2&&!(decide ((dG w).1.Kind=5)&&!objs)
def br(l:List (List UInt8))(objs:Bool):List Arg×Bool:=if l.all (dC objs)then(l.map λw=>(dG w).1,true)else([],false)
def bv(objs:Bool):List (List UInt8)->Option (List Bind)
 |[]=>some []
 |[_]=>none
 |a::b::r=>if be a&&dC objs b then(bv objs r).map (⟨a,(dG b).1⟩::·)else none
def aA(l:List (List UInt8))(a:Int)(objs:Bool):List Bind×Bool:=
 if(l.length:Int)<a then([],false)else match bv objs (l.drop a.toNat)with
 |some x=>(x,true)
 |none=>([],false)
abbrev Read.out(r:Read):Bool:=decide (r.Where<=2)||decide (r.Where=9)
abbrev Read.ins(r:Read):Bool:=decide (5<=r.Where)&&decide (r.Where<=8)
def last{α:Type}[Inhabited α](l:List α)(f:α->α):List α:=l.set (l.length - 1) (f (l.getD (l.length - 1) default))
def Read.func(r:Read)(f:Func->Func):Read:={ r with P:={ r.P with Funcs:=last r.P.Funcs f } }
def Read.block(r:Read)(f:Block->Block):Read:=r.func λg=>{ g with Blocks:=last g.Blocks f }
def Read.instr(r:Read)(f:Instr->Instr):Read:=r.block λb=>{ b with Code:=last b.Code f }
def Read.curF(r:Read):Func:=r.P.Funcs.getD (r.P.Funcs.length - 1) default
def Read.curB(r:Read):Block:=r.curF.Blocks.getD (r.curF.Blocks.length - 1) default
def Read.curI(r:Read):Instr:=r.curB.Code.getD (r.curB.Code.length - 1) default
def qb(f:Func)(w n:Int):Prop:=
 (Name f.Name=true/\kind f.Result=true/\typed f.Params 6=true/\typed f.Vars 1024=true)/\(f.Blocks.length<=256/\0<=n/\n<=1024) /\
 (w<=4->f.Blocks=[]/\n=0) /\
 (5<=w->∃bs b,f.Blocks=bs++[b]/\bs.all block=true/\n=((f.Blocks.map λb=>b.Phis.length+b.Code.length).sum:Nat) /\
  (Name b.Name=true/\b.Phis.all phi=true/\b.Code.all instr=true)/\(w=9->fJ b.End=true) /\
  (6<=w->w<=8->∃cs c,b.Code=cs++[c]/\(7<=w->c.Op=31\/c.Op=34)))
def Inv(r:Read):Prop:=
 (0<=r.Where/\r.Where<=9)/\(r.P.Classes.length<=8/\r.P.Externs.length<=8/\r.P.Funcs.length<=8) /\
 (typed r.P.Globals 8=true/\r.P.Classes.all dk=true/\r.P.Externs.all cH=true) /\
 (r.Where=1->r.P.Classes≠[])/\(r.Where<=2->r.P.Funcs.all aF=true) /\
 (3<=r.Where->∃fs f,r.P.Funcs=fs++[f]/\fs.all aF=true/\qb f r.Where r.Long)
def iS(r:Read)(l:List (List UInt8)):Prop:=Inv r/\l≠[]/\l.length<=room
def KW(r:Read)(l:List (List UInt8))(_:Bool):Prop:=iS r l
def dE(l:List (List UInt8))(_:Bool):Prop:=l.length<=room
def qy(l:List (List UInt8))(a:Int)(_:Bool):Prop:=l.length<=room/\0<=a/\a<=4
abbrev w0(l:List (List UInt8)):List UInt8:=l.getD 0 default
abbrev w1(l:List (List UInt8)):List UInt8:=l.getD 1 default
abbrev w2(l:List (List UInt8)):List UInt8:=l.getD 2 default
abbrev w3(l:List (List UInt8)):List UInt8:=l.getD 3 default
def fo(r:Read)(l:List (List UInt8)):Int×Read:=
 if(r.out&&decide (l.length=2)&&be (w1 l))=false then(3,r)
 else if 8<=r.P.Classes.length then(2,r)else(0,{ r with P:={ r.P with Classes:=r.P.Classes++[⟨w1 l,[]⟩] },Where:=1 })
def dZ(r:Read)(l:List (List UInt8)):Int×Read:=
 if(decide (r.Where=1)&&cx l)=false then(3,r)
 else if 8<=(r.P.Classes.getD (r.P.Classes.length - 1) default).Fields.length then(2,r)else(0,{ r with P:={ r.P with Classes:=last r.P.Classes λc=>{ c with Fields:=c.Fields++[⟨w1 l,w2 l⟩] } } })
def cW(r:Read)(l:List (List UInt8)):Int×Read:=
 if(r.out&&cx l)=false then(3,r)
 else(if 8<=r.P.Globals.length then 2 else 0,{ r with P:={ r.P with Globals:=r.P.Globals++[⟨w1 l,w2 l⟩] },Where:=2 })
def cM(r:Read)(l:List (List UInt8)):Int×Read:=
 if(r.out&&decide (l.length=3)&&be (w1 l)&&((bd (w2 l)).2&&decide (0<=(bd (w2 l)).1)&&decide ((bd (w2 l)).1<=8)))=false then(3,r)
 else(if 8<=r.P.Externs.length then 2 else 0,{ r with P:={ r.P with Externs:=r.P.Externs++[⟨w1 l,(bd (w2 l)).1⟩] },Where:=2 })
def gI(r:Read)(l:List (List UInt8)):Int×Read:=
 if(r.out&&cx l)=false then(3,r)
 else(if 8<=r.P.Funcs.length then 2 else 0,{ r with P:={ r.P with Funcs:=r.P.Funcs++[⟨w1 l,w2 l,[],[],[]⟩] },Where:=3,Long:=0 })
abbrev oY:List UInt8:=[99,108,97,115,115]
abbrev mF:List UInt8:=[102,105,101,108,100]
abbrev iQ:List UInt8:=[103,108,111,98,97,108]
abbrev gk:List UInt8:=[101,120,116,101,114,110]
abbrev sG:List UInt8:=[102,117,110,99]
abbrev mG:List UInt8:=[112,97,114,97,109]
abbrev B4:List UInt8:=[118,97,114]
abbrev oX:List UInt8:=[98,108,111,99,107]
abbrev wH:List UInt8:=[112,104,105]
abbrev kAt:List UInt8:=[97,116]
abbrev nC:List UInt8:=[111,98,106]
abbrev kj:List UInt8:=[106,117,109,112]
abbrev dO:List UInt8:=[98,114,97,110,99,104]
abbrev tj:List UInt8:=[114,101,116]
abbrev sH:List UInt8:=[116,114,97,112]
abbrev tu:List UInt8:=[115,115,97]
def aV(r:Read)(l:List (List UInt8)):(Bool×Int)×Read:=
 if w0 l=oY then((true,(fo r l).1),(fo r l).2)
 else if w0 l=mF then((true,(dZ r l).1),(dZ r l).2)
 else if w0 l=iQ then((true,(cW r l).1),(cW r l).2)
 else if w0 l=gk then((true,(cM r l).1),(cM r l).2)
 else if w0 l=sG then((true,(gI r l).1),(gI r l).2)
 else((false,0),r)
def dH(r:Read)(l:List (List UInt8)):Int×Read:=
 if(decide (r.Where=3)&&cx l)=false then(3,r)
 else(if 6<=r.curF.Params.length then 2 else 0,r.func λf=>{ f with Params:=f.Params++[⟨w1 l,w2 l⟩] })
def lW(r:Read)(l:List (List UInt8)):Int×Read:=
 if((decide (r.Where=3)||decide (r.Where=4))&&cx l)=false then(3,r)
 else(if 1024<=r.curF.Vars.length then 2 else 0,{ r.func (λf=>{ f with Vars:=f.Vars++[⟨w1 l,w2 l⟩] })with Where:=4 })
def dY(r:Read)(l:List (List UInt8)):Int×Read:=
 if((decide (r.Where=3)||decide (r.Where=4)||decide (r.Where=9))&&decide (l.length=2)&&be (w1 l))=false then(3,r)
 else(if 256<=r.curF.Blocks.length then 2 else 0,{ r.func (λf=>{ f with Blocks:=f.Blocks++[⟨w1 l,[],[],⟨0,⟨0,[],0⟩,[],0⟩⟩] })with Where:=5 })
def lM(r:Read)(l:List (List UInt8)):Int×Read:=
 if(decide (r.Where=5)&&(aA l 2 false).2&&!decide ((aA l 2 false).1.length=0)&&be (w1 l))=false then(3,r)
 else if 256 < (aA l 2 false).1.length\/1024<=r.Long then(2,r)
 else(0,{ r.block (λb=>{ b with Phis:=b.Phis++[⟨w1 l,(aA l 2 false).1.map λx=>⟨x.Name,x.A⟩⟩] })with Long:=r.Long+1 })
def bg(r:Read)(l:List (List UInt8)):(Bool×Int)×Read:=
 if w0 l=mG then((true,(dH r l).1),(dH r l).2)
 else if w0 l=B4 then((true,(lW r l).1),(lW r l).2)
 else if w0 l=oX then((true,(dY r l).1),(dY r l).2)
 else if w0 l=wH then((true,(lM r l).1),(lM r l).2)
 else((false,0),r)
def sAt(r:Read)(l:List (List UInt8)):Int×Read:=
 if(decide (r.Where=7)&&(aA l 4 true).2&&be (w1 l)&&be (w2 l)&&((bd (w3 l)).2&&decide (0<=(bd (w3 l)).1)&&decide ((bd (w3 l)).1<=1024)))=false then(3,r)
 else if 16 < (aA l 4 true).1.length\/16<=r.curI.Frames.length then(2,r)
 else(0,r.instr λx=>{ x with Frames:=x.Frames++[⟨w1 l,w2 l,(bd (w3 l)).1,(aA l 4 true).1⟩] })
def lL(r:Read)(l:List (List UInt8)):Int×Read:=
 if(decide (7<=r.Where)&&decide (2<=l.length)&&decide (l.length<=10)&&be (w1 l)&&(br (l.drop 2) true).2)=false then(3,r)
 else(if 99<=r.curI.Objs.length then 2 else 0,{ r.instr (λx=>{ x with Objs:=x.Objs++[⟨w1 l,(br (l.drop 2) true).1⟩] })with Where:=8 })
def fC(l:List (List UInt8)):Option Term:=
 if w0 l=kj then(if decide (l.length=2)&&be (w1 l)then some ⟨1,⟨0,[],0⟩,[w1 l],0⟩else none)
 else if w0 l=dO then(if decide (l.length=4)&&(be (w2 l)&&be (w3 l))&&dC false (w1 l)then some ⟨2,(dG (w1 l)).1,[w2 l,w3 l],0⟩else none)
 else if w0 l=tj then(if decide (l.length=2)&&dC false (w1 l)then some ⟨3,(dG (w1 l)).1,[],0⟩else none)
 else if w0 l=sH then(if decide (l.length=2)&&(bd (w1 l)).2 then some ⟨4,⟨0,[],0⟩,[],(bd (w1 l)).1⟩else none)
 else none
def lK(r:Read)(l:List (List UInt8)):Int×Read:=match fC l with
 |some t=>(0,{ r.block (λb=>{ b with End:=t })with Where:=9 })
 |none=>(3,{ r with Where:=9 })
def aT(r:Read)(l:List (List UInt8)):(Bool×Int)×Read:=
 if w0 l=kAt\/w0 l=nC\/w0 l=kj\/w0 l=dO\/w0 l=tj\/w0 l=sH then
  if r.ins=false then((true,3),r)
  else if w0 l=kAt then((true,(sAt r l).1),(sAt r l).2)
  else if w0 l=nC then((true,(lL r l).1),(lL r l).2)
  else((true,(lK r l).1),(lK r l).2)
 else((false,0),r)
def Bw(op:Int)(l:List (List UInt8)):Option (List UInt8×List (List UInt8)):=
 if op=26\/op=27 then(if l.length < 3 then none else some (w2 l,w1 l::l.drop 3))
 else if(rOf op).1.Named then(if l.length < 2 then none else some (w1 l,l.drop 2))
 else some ([],l.drop 1)
def ig(dst:List UInt8)(l:List (List UInt8)):Option Instr:=
 if((sOp (w0 l)).2&&((rOf (sOp (w0 l)).1).1.Dst==!decide (dst=[])))=false then none
 else match Bw (sOp (w0 l)).1 l with
 |none=>none
 |some (nm,rest)=>
  if((br rest false).2&&!((rOf (sOp (w0 l)).1).1.Named&&!be nm)&&decide ((rOf (sOp (w0 l)).1).1.Least<=((br rest false).1.length:Int))&&decide (((br rest false).1.length:Int)<=(rOf (sOp (w0 l)).1).1.Most))=true
  then some ⟨(sOp (w0 l)).1,dst,nm,(br rest false).1,[],[]⟩else none
def sEq(l:List (List UInt8)):Bool:=decide (2<l.length)&&decide (w1 l=[61])
def bD(r:Read)(l:List (List UInt8)):Int×Read:=
 if sEq l&&!be (w0 l)then(3,r)
 else if r.ins=false then(3,r)
 else match ig (if sEq l then w0 l else []) (if sEq l then l.drop 2 else l)with
 |none=>(3,r)
 |some x=>if 1024<=r.Long then(2,r)else(0,{ r.block (λb=>{ b with Code:=b.Code++[x] })with Where:=if x.Op=31\/x.Op=34 then 7 else 6,Long:=r.Long+1 })
def aG(r:Read)(l:List (List UInt8))(first:Bool):Int×Read:=
 if sEq l then bD r l
 else if w0 l=tu then(if(first&&decide (l.length=1))=false then(3,r)else(0,{ r with P:={ r.P with SSA:=true } }))
 else if(aV r l).1.1 then((aV r l).1.2,(aV r l).2)
 else if(bg r l).1.1 then((bg r l).1.2,(bg r l).2)
 else if(aT r l).1.1 then((aT r l).1.2,(aT r l).2)
 else bD r l
structure Cut where
 out:List RLine
 l:List (List UInt8)
 w:List UInt8
 n:Int
 remark:Bool
 bad:Bool
def Cut.word(k:Cut):Cut:={ k with l:=if k.w=[]then k.l else k.l++[k.w],w:=[] }
def Cut.byte(k:Cut)(c:UInt8):Cut:=
 if c=59 then { k.word with remark:=true }
 else if k.remark||c=32||c=9 then k.word
 else { k with bad:=k.bad||(decide (c.toNat < 33)||decide (126<c.toNat)),w:=k.w++[c] }
def Cut.line(k:Cut):Cut:={ out:=if k.word.l=[]then k.out else k.out++[⟨k.n,k.word.l⟩],l:=[],w:=[],n:=k.n+1,remark:=false,bad:=k.bad }
def bR:List UInt8->Cut->List RLine×Int×Int
 |[],k=>if k.bad then([],k.n,3)else(k.line.out,0,0)
 |c::r,k=>if c=10 then(if k.bad then([],k.n,3)else bR r k.line)else bR r (k.byte c)
def bQ(s:List UInt8):List RLine×Int×Int:=if 4194304<s.length then([],0,2)else bR s ⟨[],[],[],1,false,false⟩
def cX:List RLine->Bool->Read->Program×Int×Int
 |[],_,r=>if r.out then(r.P,0,0)else(⟨false,[],[],[],[]⟩,0,3)
 |x::t,first,r=>if(aG r x.Words first).1=0 then cX t false (aG r x.Words first).2 else(⟨false,[],[],[],[]⟩,x.N,(aG r x.Words first).1)
def dI(s:List UInt8):Program×Int×Int:=if(bQ s).2.2=0 then cX (bQ s).1 true ⟨⟨false,[],[],[],[]⟩,0,0⟩else(⟨false,[],[],[],[]⟩,(bQ s).2.1,(bQ s).2.2)
def D4(p:Program):Bool:=decide ((dI (jx p)).2.2=0)&&decide (p=(dI (jx p)).1)
def ql(f:Func)(i k:Int):Bool:=(toB f.Blocks i.toNat).any λs=>(aR f s).2&&decide ((aR f s).1=k)
def rV(f:Func)(i _:Int):Prop:=0<=i/\i < (f.Blocks.length:Int)
def afJ(f:Func):Prop:=f.Blocks.length<=1000000
def uniq(B:List Block):Prop:=∀i j,i<B.length->j<B.length->nmB B i=nmB B j->i=j
def KU(f:Func):Prop:=f.Blocks.length<=1000000/\uniq f.Blocks
def DW(f:Func)(l:List Bool):Prop:=l.length=f.Blocks.length/\∀k,k<f.Blocks.length->(l.getD k false=true ↔ Rc f.Blocks k)
def Zk(l:List (List UInt8))(_:List UInt8):Prop:=l.length<=1000000
def QS(l:List (List UInt8))(s:List UInt8)(y:List (List UInt8)):Prop:=y.length<=l.length+1/\∀v,v∈y ↔ v=s\/v∈l
def yE(l:List (List UInt8))(_:Arg):Prop:=l.length<=1000000
def rU(l:List (List UInt8))(a:Arg)(y:List (List UInt8)):Prop:=y.length<=l.length+1/\∀v,v∈y ↔ (a.Kind=1/\a.S=v)\/v∈l
def qA(f:Func)(v:List UInt8):Bool:=decide (v∈f.Params.map (·.Name))
def eA(b:Block)(n:Nat):List (List UInt8):=((b.Code.take n).map (·.Dst)).filter λd=>!decide (d=[])
def yF(b:Block)(n:Int)(_:List UInt8):Prop:=0<=n/\n<=(b.Code.length:Int)/\b.Code.length<=1000000
def rX(b:Block)(n:Int)(v:List UInt8):Bool:=decide (v∈eA b n.toNat)
def wV(b:Block)(v:List UInt8):Bool:=decide (v∈b.Phis.map (·.Dst))
def FO(f:Func)(_:List UInt8):Prop:=f.Blocks.length<=1000000/\0<f.Blocks.length/\uniq f.Blocks/\∀b∈f.Blocks,b.Code.length<=1000000
def KR(f:Func)(v:List UInt8)(y:List Bool):Prop:=y.length=f.Blocks.length/\∀k,k<f.Blocks.length->(y.getD k false=true ↔ Bare f v k/\v ∉ phB f k)
def qx(f:Func)(b n:Int)(v:List UInt8):Prop:=FO f v/\0<=b/\b < (f.Blocks.length:Int)/\0<=n/\n<=((bkB f b.toNat).Code.length:Int)
noncomputable def gF(f:Func)(b n:Int)(v:List UInt8):Bool:=M5 ((¬ Bare f v b.toNat\/v∈phB f b.toNat)\/v∈eA (bkB f b.toNat) n.toNat)
def QV(f:Func):Prop:=Ow f
noncomputable def Bi(p:Program)(f:Func):Int:=if dR f=false then 5 else if kn p f=false then 4 else if gO f=false then 4 else 0
def Zj(p:Program)(f:Func):Prop:=lI p f/\sJ f/\f.Params.length<=1000000/\(∀b∈f.Blocks,b.Phis.length<=1000000/\b.Code.length<=1000000)/\∀b∈f.Blocks,∀x∈b.Code,iT x
def eB(l:List Line):List UInt8:=l.flatMap λx=>jw false x.Words++[10]
def number(n:Int):List UInt8:=aQ n
def X7(u:Int)(x:Int):UInt8:=([48,49,50,51,52,53,54,55,56,57,97,98,99,100,101,102]:List UInt8).getD (IntKind.u64.wrap ((BitVec.ofInt IntKind.u64.bits (Int.fdiv (IntKind.u64.wrap u) (2 ^ (min (IntKind.u64.wrap x).toNat IntKind.u64.bits))) &&& BitVec.ofInt IntKind.u64.bits 15).toNat:Nat)).toNat 0
def gW(n:Int):List UInt8:=[48,102]++(List.range 16).map λ(i:Nat)=>X7 (Plain n) (60 - 4*(i:Int))
def aO(a:Arg):List UInt8:=
 if bk a then
  if a.Kind=2 then aQ a.N else if a.Kind=3 then gW a.N else if a.Kind=4 then [110,117,108,108]else if a.Kind=5 then 35::aQ a.N else a.S
 else []
def puts(l:List Arg):List (List UInt8):=l.map aO
def ln(w:List (List UInt8)):Line:=⟨0,w⟩
def lU(first:List UInt8)(l:List Var):List Line:=l.map λv=>ln [first,v.Name,v.Type_]
def words(i:Instr):List (List UInt8):=
 (if(Of i.Op).1.Dst then [i.Dst,[61]]else [])++[(Of i.Op).1.Word] ++
 (if i.Op=26\/i.Op=27 then(puts i.Args).getD 0 default::i.Name::(puts i.Args).drop 1
  else(if(Of i.Op).1.Named then [i.Name]else [])++puts i.Args)
def j0(f:Frame):List (List UInt8):=[[97,116],f.Func,f.Block,number f.At]++f.Vars.flatMap λb=>[b.Name,aO b.A]
def qM(o:Virt):List (List UInt8):=[[111,98,106],o.Class]++puts o.Vals
def ll(i:Instr):List Line:=[ln (words i)]++i.Frames.map (λf=>ln (j0 f))++i.Objs.map (λo=>ln (qM o))
def Cm(x:Phi):List (List UInt8):=[[112,104,105],x.Dst]++x.Ins.flatMap λi=>[i.Block,aO i.A]
def ko(t:Term):List (List UInt8):=
 if t.Kind=1 then [[106,117,109,112],t.To.getD 0 default]
 else if t.Kind=2 then [[98,114,97,110,99,104],aO t.A,t.To.getD 0 default,t.To.getD 1 default]
 else if t.Kind=3 then [[114,101,116],aO t.A]
 else [[116,114,97,112],aQ t.N]
def dV(b:Block):List Line:=[ln [[98,108,111,99,107],b.Name]]++b.Phis.map (λx=>ln (Cm x))++b.Code.flatMap ll++[ln (ko b.End)]
def gu(f:Func):List Line:=[ln [[102,117,110,99],f.Name,f.Result]]++lU [112,97,114,97,109] f.Params++lU [118,97,114] f.Vars++f.Blocks.flatMap dV
def iL(c:Class):List Line:=[ln [[99,108,97,115,115],c.Name]]++lU [102,105,101,108,100] c.Fields
def rl(x:Extern):Line:=ln [[101,120,116,101,114,110],x.Name,number x.N]
def jS(p:Program):List Line:=(if p.SSA then [ln [[115,115,97]]]else [])++p.Classes.flatMap iL++lU [103,108,111,98,97,108] p.Globals++p.Externs.map rl++p.Funcs.flatMap gu
def jW(a b:List Var):Bool:=decide (a=b)
def qG(a b:List Arg):Bool:=decide (a=b)
def qY(a b:Instr):Bool:=decide (a=b)
def r8(a b:Block):Bool:=decide (a=b)
def ut(a b:Func):Bool:=decide (a=b)
def Same(a b:Program):Bool:=decide (a=b)
def lH(p:Program):Prop:=nP p/\D4 p=aY p/\bZ p/\∀f∈p.Funcs,vn f
def fG(s:List UInt8):Int×Bool:=bd s
def Ad(s:List UInt8):Int×Bool:=gH s
def se(s:List UInt8):Arg×Bool:=dG s
def lV(s:List UInt8):Arg×Bool:=if(gH s).2 then(⟨3,[],(gH s).1⟩,true)else if(bd s).2 then(⟨2,[],(bd s).1⟩,true)else(⟨0,[],0⟩,false)
def i9(l:List Int)(n:Int):Bool:=l.contains n
def cU(w:List UInt8):Except Value (List UInt8):=if Name w then .ok w else .error (flt 3)
def iY(w:List UInt8):Except Value (List UInt8):=if mw w then .ok w else .error (flt 3)
def si(w:List UInt8)(least most:Int):Except Value Int:=if(bd w).2&&(decide (least<=(bd w).1)&&decide ((bd w).1<=most))then .ok (bd w).1 else .error (flt 3)
def BP(w:List UInt8)(objs:Bool):Except Value Arg:=if dC objs w then .ok (dG w).1 else .error (flt 3)
def sL(l:List (List UInt8))(objs:Bool):Except Value (List Arg):=if(br l objs).2 then .ok (br l objs).1 else .error (flt 3)
def yOp(w:List UInt8):Int×Bool:=sOp w
def Reader.abs(r:Reader):Read:=⟨r.p,if r.where_=0 then(if 0<=r.long then 9 else 2)else if r.where_=1 then 1 else r.where_+1,r.long⟩
def iD(r:Reader)(x:Int×Read)(w:Int):Except Value Unit×Reader:=if x.1=0 then(.ok (),⟨x.2.P,r.at_,w,r.first,x.2.Long⟩)else(.error (flt x.1),r)
def aeQ(r:Reader)(l:List (List UInt8)):Except Value Unit×Reader:=iD r (if(r.first&&decide (l.length=1))=false then(3,r.abs)else(0,{ r.abs with P:={ r.p with SSA:=true } })) r.where_
def Gc(r:Reader)(l:List (List UInt8)):Except Value Unit×Reader:=iD r (fo r.abs l) 1
def Gf(r:Reader)(l:List (List UInt8)):Except Value Unit×Reader:=iD r (dZ r.abs l) r.where_
def yK(r:Reader)(l:List (List UInt8)):Except Value Unit×Reader:=iD r (cW r.abs l) 0
def yJ(r:Reader)(l:List (List UInt8)):Except Value Unit×Reader:=iD r (cM r.abs l) 0
def sg(r:Reader)(l:List (List UInt8)):Except Value Unit×Reader:=iD r (gI r.abs l) 2
def Gh(r:Reader)(l:List (List UInt8)):Except Value Unit×Reader:=iD r (dH r.abs l) r.where_
def so(r:Reader)(l:List (List UInt8)):Except Value Unit×Reader:=iD r (lW r.abs l) 3
def Gi(r:Reader)(l:List (List UInt8)):Except Value Unit×Reader:=iD r (dY r.abs l) 4
def aeP(r:Reader)(l:List (List UInt8)):Except Value Unit×Reader:=iD r (lM r.abs l) 4
def xY(r:Reader)(l:List (List UInt8)):Except Value Unit×Reader:=iD r (bD r.abs l) ((bD r.abs l).2.Where - 1)
def Gg(r:Reader)(l:List (List UInt8)):Except Value Unit×Reader:=iD r (sAt r.abs l) 6
def sk(r:Reader)(l:List (List UInt8)):Except Value Unit×Reader:=iD r (if r.abs.ins=false then(3,r.abs)else lL r.abs l) 7
def qO(l:List (List UInt8)):Option Term:=if w0 l=kj\/w0 l=dO\/w0 l=tj then fC l else if decide (l.length=2)&&(bd (w1 l)).2 then some ⟨4,⟨0,[],0⟩,[],(bd (w1 l)).1⟩else none
def Ge(r:Reader)(l:List (List UInt8)):Except Value Unit×Reader:=iD r (if r.abs.ins=false then(3,r.abs)else match qO l with|some t=>(0,{ r.abs.block (λb=>{ b with End:=t })with Where:=9 })|none=>(3,r.abs)) 0
def sM(r:Reader)(l:List (List UInt8)):Except Value Unit×Reader:=
 if sEq l then xY r l
 else if w0 l=tu then aeQ r l else if w0 l=oY then Gc r l else if w0 l=mF then Gf r l else if w0 l=iQ then yK r l
 else if w0 l=gk then yJ r l else if w0 l=sG then sg r l else if w0 l=mG then Gh r l else if w0 l=B4 then so r l
 else if w0 l=oX then Gi r l else if w0 l=wH then aeP r l else if w0 l=kAt then Gg r l else if w0 l=nC then sk r l
 else if w0 l=kj\/w0 l=dO\/w0 l=tj\/w0 l=sH then Ge r l else xY r l
def Reader.heads(r:Reader):Nat:=r.p.Classes.length+r.p.Globals.length+r.p.Externs.length
def BQ(r:Reader)(l:List (List UInt8)):Except Value Unit×Reader:=match sM r l with
 |(.ok _,x)=>(.ok (),{ x with first:=false,long:=if r.heads<x.heads then -1 else x.long })
 |(.error v,x)=>(.error v,x)
def cy(s:List UInt8):Program×Int×Int:=dI s
def blank(c:UInt8):Bool:=decide (c=32)||decide (c=9)
def eC:List UInt8->List UInt8->List (List UInt8)->List (List UInt8)×Bool
 |[],w,out=>(if w=[]then out else out++[w],true)
 |c::r,w,out=>if blank c then eC r [] (if w=[]then out else out++[w])else if c.toNat<=32\/126<c.toNat then([],false)else eC r (w++[c]) out
def DY(s:List UInt8):Prop:=s.length<=room
def dh(s:List UInt8):List (List UInt8)×Bool:=eC s [] []
def gz(s:List UInt8):List Line×Int×Int:=((bQ s).1.map λl=>⟨l.N,l.Words⟩,(bQ s).2.1,(bQ s).2.2)
def Reader.inv(r:Reader):Prop:=Inv r.abs/\(0<=r.where_/\r.where_<=7)/\(-1<=r.long/\r.long<=1024)/\(0<=r.long ↔ r.where_≠1/\r.abs.Where≠2)
def bP(r:Reader)(l:List (List UInt8)):Prop:=r.inv/\l≠[]/\l.length<=room
end Lt
end

section
namespace Go.Am
open Go
def GH(a:List UInt8)(KK:(Int×Bool)->Prop):Prop:=aa (α:=Bool) (λf=>if decide (a=([]:List UInt8))then(f true)else(f (decide (20 < (a.length:Int))))) (λk=>if k then(KK (0,false))else(aa (α:=Int) (λg=>((0:Int)<=0/\0<a.length)/\if decide ((((a.getD 0 0).toNat:Nat):Int)=(((45:UInt8).toNat:Nat):Int))then(g 1)else(g 0)) (λv4=>ab (α:=Int×Int) (λl b=>have e:=(0<=b.2/\b.2.toNat<a.length);have d:=(((a.getD b.2.toNat 0).toNat:Nat):Int);(a.length<=4611686018427387904->if decide (b.2 < (a.length:Int))then(aa (α:=Bool) (λh=>e/\if decide (d < (((48:UInt8).toNat:Nat):Int))then(h true)else(e/\h (decide ((((57:UInt8).toNat:Nat):Int)<d)))) (λj=>if j then(KK (0,false))else(e/\l ((i64.wrap ((i64.wrap (b.1*10)) - (i64.wrap (((UInt8.ofNat (IntKind.u8.wrap (d - (((48:UInt8).toNat:Nat):Int))).toNat).toNat:Nat):Int)))),(i64.wrap (b.2+1))))))else(aa (α:=Int) (λi=>if decide (v4=0)then(i (i64.wrap (0-b.1)))else(i b.1)) (λc=>(gA c)/\if !decide ((aQ c)=a)then(KK (0,false))else(KK (c,true)))))) (0,v4))))
def uj(a:List UInt8)(KK:(Int×Bool)->Prop):Prop:=aa (α:=Bool) (λb=>if !((np a [48,102]).2)then(b true)else(b (!decide ((((np a [48,102]).1).length:Int)=16)))) (λc=>if c then(KK (0,false))else((((np a [48,102]).1).length<=4611686018427387904->ab (α:=Int×Int) (λd v4=>if decide (v4.2 < (((np a [48,102]).1).length:Int))then((0<=v4.2/\v4.2.toNat < ((np a [48,102]).1).length)/\if decide ((iO [48,49,50,51,52,53,54,55,56,57,97,98,99,100,101,102] (((np a [48,102]).1).getD v4.2.toNat 0)) < 0)then(KK (0,false))else((0:Int)<=4/\d ((IntKind.u64.wrap ((BitVec.ofInt IntKind.u64.bits (IntKind.u64.wrap (v4.1*2 ^ (min (4:Int).toNat IntKind.u64.bits))) ||| BitVec.ofInt IntKind.u64.bits (IntKind.u64.wrap (iO [48,49,50,51,52,53,54,55,56,57,97,98,99,100,101,102] (((np a [48,102]).1).getD v4.2.toNat 0)))).toNat:Nat)),(i64.wrap (v4.2+1)))))else(if !decide ((Lt.Plain (i64.wrap v4.1))=(i64.wrap v4.1))then(KK (0,false))else(KK ((i64.wrap v4.1),true)))) (0,0))))
def uk(a:List UInt8)(KK:(Lt.Arg×Bool)->Prop):Prop:=if (Ad a).2 then(KK ((Lt.Arg.mk 3 ([]:List UInt8) ((Ad a).1)),true))else(if !((fG a).2)then(KK ((Lt.Arg.mk 0 ([]:List UInt8) 0),false))else(KK ((Lt.Arg.mk 2 ([]:List UInt8) ((fG a).1)),true)))
def CX(a:List UInt8)(KK:(Lt.Arg×Bool)->Prop):Prop:=if decide (a=([]:List UInt8))then(KK ((Lt.Arg.mk 0 ([]:List UInt8) 0),false))else(if decide (a=[110,117,108,108])then(KK ((Lt.Arg.mk 4 ([]:List UInt8) 0),true))else(if Lt.Name a then(KK ((Lt.Arg.mk 1 a 0),true))else(((0:Int)<=0/\0<a.length)/\if decide ((((a.getD 0 0).toNat:Nat):Int)=(((35:UInt8).toNat:Nat):Int))then((0:Int)<=1/\(1<=a.length/\a.length<=a.length)/\aa (α:=Bool) (λb=>if !((fG ((a.drop 1).take (a.length - 1))).2)then(b true)else(if decide ((fG ((a.drop 1).take (a.length - 1))).1 < 0)then(b true)else(b (decide (999 < (fG ((a.drop 1).take (a.length - 1))).1))))) (λc=>if c then(KK ((Lt.Arg.mk 0 ([]:List UInt8) 0),false))else(KK ((Lt.Arg.mk 5 ([]:List UInt8) ((fG ((a.drop 1).take (a.length - 1))).1)),true))))else(KK (((lV a).1),(lV a).2)))))
def Pq(a:UInt8)(KK:Bool->Prop):Prop:=if decide (((a.toNat:Nat):Int)=(((32:UInt8).toNat:Nat):Int))then(KK true)else(KK (decide (((a.toNat:Nat):Int)=(((9:UInt8).toNat:Nat):Int))))
def GC(a:List UInt8)(KK:(List (List UInt8)×Bool)->Prop):Prop:=ab (α:=List (List UInt8)×Int×Int) (λj b=>have f:=(0<=b.2.2/\b.2.2.toNat<a.length);have c:=([((a.drop b.2.1.toNat).take (b.2.2.toNat-b.2.1.toNat))]:List (List UInt8));(a.length<=4611686018427387904->if decide (b.2.2<=(a.length:Int))then(aa (α:=List (List UInt8)×Int) (λd=>aa (α:=Bool) (λg=>(a.length<=4611686018427387904->if decide (b.2.2=(a.length:Int))then(g true)else(f/\g (Lt.blank (a.getD b.2.2.toNat 0))))) (λl=>if l then(aa (α:=List (List UInt8)) (λh=>if decide (0<=b.2.1)then((0:Int)<=b.2.1/\(0:Int)<=b.2.2/\(b.2.1.toNat<=b.2.2.toNat/\b.2.2.toNat<=a.length)/\(b.1.length+c.length<=4611686018427387904/\(b.1.length+c.length)*16<=140737488355328)/\h (b.1++c))else(h b.1)) (λk=>d (k,(-1))))else(aa (α:=Bool) (λi=>f/\if decide ((((a.getD b.2.2.toNat 0).toNat:Nat):Int)<=(((32:UInt8).toNat:Nat):Int))then(i true)else(f/\i (decide ((((126:UInt8).toNat:Nat):Int) < (((a.getD b.2.2.toNat 0).toNat:Nat):Int))))) (λe=>if e then(KK ([],false))else(if decide (b.2.1 < 0)then(d (b.1,b.2.2))else(d (b.1,b.2.1))))))) (λv4=>j (v4.1,v4.2,(i64.wrap (b.2.2+1)))))else(KK (b.1,true)))) ([],(-1),0)
def GB(a:List UInt8)(KK:(List Lt.Line×Int×Int)->Prop):Prop:=(a.length<=4611686018427387904->if decide (4194304 < (a.length:Int))then(KK ([],0,2))else((KY a [10])/\((fg a [10]).length<=4611686018427387904->ab (α:=List Lt.Line×Int) (λf b=>have c:=(XW ((fg a [10]).getD b.2.toNat default) [59]).1;have d:=([(Lt.Line.mk (i64.wrap (b.2+1)) ((dh c).1))]:List Lt.Line);if decide (b.2 < ((fg a [10]).length:Int))then(aa (α:=List Lt.Line) (λe=>(0<=b.2/\b.2.toNat < (fg a [10]).length)/\(Zi ((fg a [10]).getD b.2.toNat default) [59])/\(DY c)/\if !((dh c).2)then(KK ([],(i64.wrap (b.2+1)),3))else((((dh c).1).length<=4611686018427387904->if decide (0 < (((dh c).1).length:Int))then((b.1.length+d.length<=4611686018427387904/\(b.1.length+d.length)*32<=140737488355328)/\e (b.1++d))else(e b.1)))) (λv4=>f (v4,(i64.wrap (b.2+1)))))else(KK (b.1,0,0))) ([],0))))
def afX(a:List Int)(c:Int)(KK:Bool->Prop):Prop:=(a.length<=4611686018427387904->ab (α:=Int) (λd b=>if decide (b < (a.length:Int))then((0<=b/\b.toNat<a.length)/\if decide ((a.getD b.toNat default)=c)then(KK true)else(d (i64.wrap (b+1))))else(KK false)) 0)
def PV(a:List UInt8)(KK:(List UInt8)->Prop)(KP:Value->Prop):Prop:=if !(Lt.Name a)then(KP (Lt.flt 3))else(KK a)
def PT(a:List UInt8)(KK:(List UInt8)->Prop)(KP:Value->Prop):Prop:=aa (α:=Unit) (λb=>if decide (a=[105,110,116])then(if false then(KP (Lt.flt 3))else(b ()))else(if decide (a=[102,108,111,97,116])then(if false then(KP (Lt.flt 3))else(b ()))else(if !(Lt.Name a)then(KP (Lt.flt 3))else(b ())))) (λc=>KK a)
def C0(a:List UInt8)(b:Int)(c:Int)(KK:Int->Prop)(KP:Value->Prop):Prop:=if (fG a).2 then(if decide (b<=(fG a).1)then(if !(decide ((fG a).1<=c))then(KP (Lt.flt 3))else(KK ((fG a).1)))else(KP (Lt.flt 3)))else(KP (Lt.flt 3))
def V9(a:List UInt8)(b:Bool)(KK:Lt.Arg->Prop)(KP:Value->Prop):Prop:=aa (α:=Unit) (λc=>if (se a).2 then(if b then(if false then(KP (Lt.flt 3))else(c ()))else(if !(!decide (((se a).1).Kind=5))then(KP (Lt.flt 3))else(c ())))else(KP (Lt.flt 3))) (λd=>KK ((se a).1))
def PP(a:List (List UInt8))(b:Bool)(KK:(List Lt.Arg)->Prop)(KP:Value->Prop):Prop:=(a.length<=4611686018427387904->ab (α:=List Lt.Arg×Int) (λd c=>if decide (c.2 < (a.length:Int))then((0<=c.2/\c.2.toNat<a.length)/\True/\exQ (BP (a.getD c.2.toNat default) b) (λz3=>(c.1.length+([z3]:List Lt.Arg).length<=4611686018427387904/\(c.1.length+([z3]:List Lt.Arg).length)*32<=140737488355328)/\d ((c.1++([z3]:List Lt.Arg)),(i64.wrap (c.2+1)))) (λv=>KP v))else(KK c.1)) ([],0))
def aeY(a:List UInt8)(KK:(Int×Bool)->Prop):Prop:=ab (α:=Int) (λc b=>if decide (b<=34)then(if decide (((Lt.Of b).1).Word=a)then(KK (b,true))else(c (i64.wrap (b+1))))else(KK (0,false))) 1
def Wc(a:Lt.Reader)(b:List (List UInt8))(KK:((Unit)×Lt.Reader)->Prop)(KP:Value->Lt.Reader->Prop):Prop:=if a.first then(if !(decide ((b.length:Int)=1))then(KP (Lt.flt 3) a)else(KK ((),(Lt.Reader.mk (Lt.Program.mk true a.p.Classes a.p.Globals a.p.Externs a.p.Funcs) a.at_ a.where_ a.first a.long))))else(KP (Lt.flt 3) a)
def G5(a:Lt.Reader)(b:List (List UInt8))(KK:((Unit)×Lt.Reader)->Prop)(KP:Value->Lt.Reader->Prop):Prop:=if !(i9 [0,1] a.where_)then(KP (Lt.flt 3) a)else((b.length<=4611686018427387904->if !(decide ((b.length:Int)=2))then(KP (Lt.flt 3) a)else(((0:Int)<=1/\1<b.length)/\True/\exQ (cU (b.getD 1 default)) (λc=>(a.p.Classes.length<=4611686018427387904->if decide (8<=(a.p.Classes.length:Int))then(KP (Lt.flt 2) a)else(aa (α:=Lt.Reader) (λd=>((a.p.Classes.length+([(Lt.Class.mk c [])]:List Lt.Class).length<=4611686018427387904/\(a.p.Classes.length+([(Lt.Class.mk c [])]:List Lt.Class).length)*40<=140737488355328)/\d (Lt.Reader.mk (Lt.Program.mk a.p.SSA (a.p.Classes++([(Lt.Class.mk c [])]:List Lt.Class)) a.p.Globals a.p.Externs a.p.Funcs) a.at_ a.where_ a.first a.long))/\((a.p.Classes.length+([(Lt.Class.mk c [])]:List Lt.Class).length<=4611686018427387904/\(a.p.Classes.length+([(Lt.Class.mk c [])]:List Lt.Class).length)*40<=140737488355328)/\d (Lt.Reader.mk (Lt.Program.mk a.p.SSA (a.p.Classes++([(Lt.Class.mk c [])]:List Lt.Class)) a.p.Globals a.p.Externs a.p.Funcs) a.at_ a.where_ a.first a.long))) (λv3=>KK ((),(Lt.Reader.mk v3.p v3.at_ 1 v3.first v3.long)))))) (λv=>KP v a))))
def G6(a:Lt.Reader)(b:List (List UInt8))(KK:((Unit)×Lt.Reader)->Prop)(KP:Value->Lt.Reader->Prop):Prop:=have c:=(i64.wrap ((a.p.Classes.length:Int) - 1));have d:=(a.p.Classes.getD c.toNat default).Fields;if !(i9 [1] a.where_)then(KP (Lt.flt 3) a)else((b.length<=4611686018427387904->if !(decide ((b.length:Int)=3))then(KP (Lt.flt 3) a)else(aa (α:=Lt.Var) (λf=>((0:Int)<=1/\1<b.length)/\((0:Int)<=2/\2<b.length)/\(True/\exQ (cU (b.getD 1 default)) (λz5=>(True/\exQ (iY (b.getD 2 default)) (λi=>f (Lt.Var.mk z5 i)) (λv=>KP v a))/\(True/\exQ (iY (b.getD 2 default)) (λh=>f (Lt.Var.mk z5 h)) (λv=>KP v a))) (λv=>KP v a))/\(True/\exQ (cU (b.getD 1 default)) (λz3=>True/\exQ (iY (b.getD 2 default)) (λz4=>f (Lt.Var.mk z3 z4)) (λv=>KP v a)) (λv=>KP v a))) (λe=>have g:=((d.length+([e]:List Lt.Var).length<=4611686018427387904/\(d.length+([e]:List Lt.Var).length)*32<=140737488355328)/\c.toNat<a.p.Classes.length/\c.toNat=c.toNat/\KK ((),(Lt.Reader.mk (Lt.Program.mk a.p.SSA (a.p.Classes.set c.toNat (Lt.Class.mk ((a.p.Classes.getD c.toNat default).Name) (d++([e]:List Lt.Var)))) a.p.Globals a.p.Externs a.p.Funcs) a.at_ a.where_ a.first a.long)));(a.p.Classes.length<=4611686018427387904->((0:Int)<=c/\c < ((a.p.Classes.length:Nat):Int))/\(d.length<=4611686018427387904->if decide (8<=(d.length:Int))then(KP (Lt.flt 2) a)else(g/\g)))))))
def CZ(a:Lt.Reader)(b:List (List UInt8))(KK:((Unit)×Lt.Reader)->Prop)(KP:Value->Lt.Reader->Prop):Prop:=if !(i9 [0,1] a.where_)then(KP (Lt.flt 3) a)else((b.length<=4611686018427387904->if !(decide ((b.length:Int)=3))then(KP (Lt.flt 3) a)else(aa (α:=Lt.Var) (λd=>((0:Int)<=1/\1<b.length)/\((0:Int)<=2/\2<b.length)/\(True/\exQ (cU (b.getD 1 default)) (λz5=>(True/\exQ (iY (b.getD 2 default)) (λh=>d (Lt.Var.mk z5 h)) (λv=>KP v a))/\(True/\exQ (iY (b.getD 2 default)) (λg=>d (Lt.Var.mk z5 g)) (λv=>KP v a))) (λv=>KP v a))/\(True/\exQ (cU (b.getD 1 default)) (λz3=>True/\exQ (iY (b.getD 2 default)) (λz4=>d (Lt.Var.mk z3 z4)) (λv=>KP v a)) (λv=>KP v a))) (λc=>(a.p.Globals.length<=4611686018427387904->if decide (8<=(a.p.Globals.length:Int))then(KP (Lt.flt 2) a)else(aa (α:=Lt.Reader) (λf=>have e:=((a.p.Globals.length+([c]:List Lt.Var).length<=4611686018427387904/\(a.p.Globals.length+([c]:List Lt.Var).length)*32<=140737488355328)/\f (Lt.Reader.mk (Lt.Program.mk a.p.SSA a.p.Classes (a.p.Globals++([c]:List Lt.Var)) a.p.Externs a.p.Funcs) a.at_ a.where_ a.first a.long));e/\e) (λv9=>KK ((),(Lt.Reader.mk v9.p v9.at_ 0 v9.first v9.long)))))))))
def CY(a:Lt.Reader)(b:List (List UInt8))(KK:((Unit)×Lt.Reader)->Prop)(KP:Value->Lt.Reader->Prop):Prop:=have e:=si (b.getD 2 default) 0 8;if !(i9 [0,1] a.where_)then(KP (Lt.flt 3) a)else((b.length<=4611686018427387904->if !(decide ((b.length:Int)=3))then(KP (Lt.flt 3) a)else(aa (α:=Lt.Extern) (λd=>((0:Int)<=1/\1<b.length)/\((0:Int)<=2/\2<b.length)/\(True/\exQ (cU (b.getD 1 default)) (λz5=>(True/\exQ e (λi=>d (Lt.Extern.mk z5 i)) (λv=>KP v a))/\(True/\exQ e (λh=>d (Lt.Extern.mk z5 h)) (λv=>KP v a))) (λv=>KP v a))/\(True/\exQ (cU (b.getD 1 default)) (λz3=>True/\exQ e (λz4=>d (Lt.Extern.mk z3 z4)) (λv=>KP v a)) (λv=>KP v a))) (λc=>(a.p.Externs.length<=4611686018427387904->if decide (8<=(a.p.Externs.length:Int))then(KP (Lt.flt 2) a)else(aa (α:=Lt.Reader) (λg=>have f:=((a.p.Externs.length+([c]:List Lt.Extern).length<=4611686018427387904/\(a.p.Externs.length+([c]:List Lt.Extern).length)*24<=140737488355328)/\g (Lt.Reader.mk (Lt.Program.mk a.p.SSA a.p.Classes a.p.Globals (a.p.Externs++([c]:List Lt.Extern)) a.p.Funcs) a.at_ a.where_ a.first a.long));f/\f) (λv9=>KK ((),(Lt.Reader.mk v9.p v9.at_ 0 v9.first v9.long)))))))))
def xv(a:Lt.Reader)(b:List (List UInt8))(KK:((Unit)×Lt.Reader)->Prop)(KP:Value->Lt.Reader->Prop):Prop:=if !(i9 [0,1] a.where_)then(KP (Lt.flt 3) a)else((b.length<=4611686018427387904->if !(decide ((b.length:Int)=3))then(KP (Lt.flt 3) a)else(aa (α:=Lt.Func) (λc=>((0:Int)<=1/\1<b.length)/\((0:Int)<=2/\2<b.length)/\(True/\exQ (cU (b.getD 1 default)) (λz5=>(True/\exQ (iY (b.getD 2 default)) (λi=>c (Lt.Func.mk z5 i [] [] [])) (λv=>KP v a))/\(True/\exQ (iY (b.getD 2 default)) (λh=>c (Lt.Func.mk z5 h [] [] [])) (λv=>KP v a))) (λv=>KP v a))/\(True/\exQ (cU (b.getD 1 default)) (λz3=>True/\exQ (iY (b.getD 2 default)) (λz4=>c (Lt.Func.mk z3 z4 [] [] [])) (λv=>KP v a)) (λv=>KP v a))) (λf=>have d:=([(Lt.Func.mk f.Name f.Result [] [] [])]:List Lt.Func);(a.p.Funcs.length<=4611686018427387904->if decide (8<=(a.p.Funcs.length:Int))then(KP (Lt.flt 2) a)else(aa (α:=Lt.Reader) (λg=>have e:=((a.p.Funcs.length+d.length<=4611686018427387904/\(a.p.Funcs.length+d.length)*104<=140737488355328)/\g (Lt.Reader.mk (Lt.Program.mk a.p.SSA a.p.Classes a.p.Globals a.p.Externs (a.p.Funcs++d)) a.at_ a.where_ a.first a.long));e/\e) (λv9=>KK ((),(Lt.Reader.mk v9.p v9.at_ 2 v9.first 0)))))))))
def G8(a:Lt.Reader)(b:List (List UInt8))(KK:((Unit)×Lt.Reader)->Prop)(KP:Value->Lt.Reader->Prop):Prop:=have d:=(i64.wrap ((a.p.Funcs.length:Int) - 1));have c:=a.p.Funcs.getD d.toNat default;if !(i9 [2] a.where_)then(KP (Lt.flt 3) a)else((b.length<=4611686018427387904->if !(decide ((b.length:Int)=3))then(KP (Lt.flt 3) a)else(aa (α:=Lt.Var) (λf=>((0:Int)<=1/\1<b.length)/\((0:Int)<=2/\2<b.length)/\(True/\exQ (cU (b.getD 1 default)) (λz5=>(True/\exQ (iY (b.getD 2 default)) (λi=>f (Lt.Var.mk z5 i)) (λv=>KP v a))/\(True/\exQ (iY (b.getD 2 default)) (λh=>f (Lt.Var.mk z5 h)) (λv=>KP v a))) (λv=>KP v a))/\(True/\exQ (cU (b.getD 1 default)) (λz3=>True/\exQ (iY (b.getD 2 default)) (λz4=>f (Lt.Var.mk z3 z4)) (λv=>KP v a)) (λv=>KP v a))) (λe=>have g:=(((c.Params).length+([e]:List Lt.Var).length<=4611686018427387904/\((c.Params).length+([e]:List Lt.Var).length)*32<=140737488355328)/\d.toNat<a.p.Funcs.length/\d.toNat=d.toNat/\KK ((),(Lt.Reader.mk (Lt.Program.mk a.p.SSA a.p.Classes a.p.Globals a.p.Externs (a.p.Funcs.set d.toNat (Lt.Func.mk (c.Name) (c.Result) ((c.Params)++([e]:List Lt.Var)) (c.Vars) (c.Blocks)))) a.at_ a.where_ a.first a.long)));(a.p.Funcs.length<=4611686018427387904->((0:Int)<=d/\d < ((a.p.Funcs.length:Nat):Int))/\((c.Params).length<=4611686018427387904->if decide (6<=((c.Params).length:Int))then(KP (Lt.flt 2) a)else(g/\g)))))))
def xw(a:Lt.Reader)(b:List (List UInt8))(KK:((Unit)×Lt.Reader)->Prop)(KP:Value->Lt.Reader->Prop):Prop:=have d:=(i64.wrap ((a.p.Funcs.length:Int) - 1));have c:=a.p.Funcs.getD d.toNat default;if !(i9 [2,3] a.where_)then(KP (Lt.flt 3) a)else((b.length<=4611686018427387904->if !(decide ((b.length:Int)=3))then(KP (Lt.flt 3) a)else(aa (α:=Lt.Var) (λf=>((0:Int)<=1/\1<b.length)/\((0:Int)<=2/\2<b.length)/\(True/\exQ (cU (b.getD 1 default)) (λz5=>(True/\exQ (iY (b.getD 2 default)) (λj=>f (Lt.Var.mk z5 j)) (λv=>KP v a))/\(True/\exQ (iY (b.getD 2 default)) (λi=>f (Lt.Var.mk z5 i)) (λv=>KP v a))) (λv=>KP v a))/\(True/\exQ (cU (b.getD 1 default)) (λz3=>True/\exQ (iY (b.getD 2 default)) (λz4=>f (Lt.Var.mk z3 z4)) (λv=>KP v a)) (λv=>KP v a))) (λe=>(a.p.Funcs.length<=4611686018427387904->((0:Int)<=d/\d < ((a.p.Funcs.length:Nat):Int))/\((c.Vars).length<=4611686018427387904->if decide (1024<=((c.Vars).length:Int))then(KP (Lt.flt 2) a)else(aa (α:=Lt.Reader) (λh=>have g:=(((c.Vars).length+([e]:List Lt.Var).length<=4611686018427387904/\((c.Vars).length+([e]:List Lt.Var).length)*32<=140737488355328)/\d.toNat<a.p.Funcs.length/\d.toNat=d.toNat/\h (Lt.Reader.mk (Lt.Program.mk a.p.SSA a.p.Classes a.p.Globals a.p.Externs (a.p.Funcs.set d.toNat (Lt.Func.mk (c.Name) (c.Result) (c.Params) ((c.Vars)++([e]:List Lt.Var)) (c.Blocks)))) a.at_ a.where_ a.first a.long));g/\g) (λv9=>KK ((),(Lt.Reader.mk v9.p v9.at_ 3 v9.first v9.long))))))))))
def G9(a:Lt.Reader)(b:List (List UInt8))(KK:((Unit)×Lt.Reader)->Prop)(KP:Value->Lt.Reader->Prop):Prop:=have c:=(i64.wrap ((a.p.Funcs.length:Int) - 1));have z4:=a.p.Funcs.getD c.toNat default;aa (α:=Unit) (λd=>if decide (a.where_=2)then(if false then(KP (Lt.flt 3) a)else(d ()))else(if decide (a.where_=3)then(if false then(KP (Lt.flt 3) a)else(d ()))else(if decide (a.where_=0)then(if decide (0<=a.long)then(if !(decide (0 < (a.p.Funcs.length:Int)))then(KP (Lt.flt 3) a)else(d ()))else(KP (Lt.flt 3) a))else(KP (Lt.flt 3) a)))) (λg=>(b.length<=4611686018427387904->if !(decide ((b.length:Int)=2))then(KP (Lt.flt 3) a)else(((0:Int)<=1/\1<b.length)/\True/\exQ (cU (b.getD 1 default)) (λz3=>have z5:=([(Lt.Block.mk z3 [] [] (Lt.Term.mk 0 (Lt.Arg.mk 0 ([]:List UInt8) 0) [] 0))]:List Lt.Block);(a.p.Funcs.length<=4611686018427387904->((0:Int)<=c/\c < ((a.p.Funcs.length:Nat):Int))/\((z4.Blocks).length<=4611686018427387904->if decide (256<=((z4.Blocks).length:Int))then(KP (Lt.flt 2) a)else(aa (α:=Lt.Reader) (λf=>have e:=(((z4.Blocks).length+z5.length<=4611686018427387904/\((z4.Blocks).length+z5.length)*136<=140737488355328)/\c.toNat<a.p.Funcs.length/\c.toNat=c.toNat/\f (Lt.Reader.mk (Lt.Program.mk a.p.SSA a.p.Classes a.p.Globals a.p.Externs (a.p.Funcs.set c.toNat (Lt.Func.mk (z4.Name) (z4.Result) (z4.Params) (z4.Vars) ((z4.Blocks)++z5)))) a.at_ a.where_ a.first a.long));e/\e) (λv5=>KK ((),(Lt.Reader.mk v5.p v5.at_ 4 v5.first v5.long))))))) (λv=>KP v a))))
def Wb(a:Lt.Reader)(b:List (List UInt8))(KK:((Unit)×Lt.Reader)->Prop)(KP:Value->Lt.Reader->Prop):Prop:=have z5:=(i64.wrap ((a.p.Funcs.length:Int) - 1));have d:=(a.p.Funcs.getD z5.toNat default);have z4:=(i64.wrap (((d.Blocks).length:Int) - 1));have c:=(d.Blocks).getD z4.toNat default;if !(i9 [4] a.where_)then(KP (Lt.flt 3) a)else((b.length<=4611686018427387904->if decide (4<=(b.length:Int))then((2:Int)≠0/\if !(decide ((Int.tmod (b.length:Int) 2)=0))then(KP (Lt.flt 3) a)else(((0:Int)<=1/\1<b.length)/\True/\exQ (cU (b.getD 1 default)) (λm=>ab (α:=Int×Lt.Phi) (λo v3=>have h:=BP (b.getD (i64.wrap (v3.1+1)).toNat default) false;have z3:=(((c.Phis).length+([v3.2]:List Lt.Phi).length<=4611686018427387904/\((c.Phis).length+([v3.2]:List Lt.Phi).length)*40<=140737488355328)/\z5.toNat<a.p.Funcs.length/\z4.toNat < (d.Blocks).length/\z5.toNat=z5.toNat/\z4.toNat=z4.toNat/\KK ((),(Lt.Reader.mk (Lt.Program.mk a.p.SSA a.p.Classes a.p.Globals a.p.Externs (a.p.Funcs.set z5.toNat (Lt.Func.mk (d.Name) (d.Result) (d.Params) (d.Vars) ((d.Blocks).set z4.toNat (Lt.Block.mk (c.Name) ((c.Phis)++([v3.2]:List Lt.Phi)) (c.Code) (Lt.Term.mk ((c.End).Kind) ((c.End).A) ((c.End).To) ((c.End).N))))))) a.at_ a.where_ a.first (i64.wrap (a.long+1)))));(b.length<=4611686018427387904->if decide (v3.1 < (b.length:Int))then(aa (α:=Lt.Phi) (λj=>(0<=v3.1/\v3.1.toNat<b.length)/\((0:Int)<=(i64.wrap (v3.1+1))/\(i64.wrap (v3.1+1)).toNat<b.length)/\(True/\exQ (cU (b.getD v3.1.toNat default)) (λz9=>True/\exQ h (λk=>have e:=([(Lt.In.mk z9 k)]:List Lt.In);(v3.2.Ins.length+e.length<=4611686018427387904/\(v3.2.Ins.length+e.length)*48<=140737488355328)/\j (Lt.Phi.mk v3.2.Dst (v3.2.Ins++e))) (λv=>KP v a)) (λv=>KP v a))/\(True/\exQ (cU (b.getD v3.1.toNat default)) (λl=>(True/\exQ h (λq=>have g:=([(Lt.In.mk l q)]:List Lt.In);(v3.2.Ins.length+g.length<=4611686018427387904/\(v3.2.Ins.length+g.length)*48<=140737488355328)/\j (Lt.Phi.mk v3.2.Dst (v3.2.Ins++g))) (λv=>KP v a))/\(True/\exQ h (λn=>have f:=([(Lt.In.mk l n)]:List Lt.In);have i:=((v3.2.Ins.length+f.length<=4611686018427387904/\(v3.2.Ins.length+f.length)*48<=140737488355328)/\j (Lt.Phi.mk v3.2.Dst (v3.2.Ins++f)));i/\i) (λv=>KP v a))) (λv=>KP v a))) (λv5=>o ((i64.wrap (v3.1+2)),v5)))else((v3.2.Ins.length<=4611686018427387904->if decide (256<=(i64.wrap ((v3.2.Ins.length:Int) - 1)))then(KP (Lt.flt 2) a)else(if decide (1024<=a.long)then(KP (Lt.flt 2) a)else((a.p.Funcs.length<=4611686018427387904->((0:Int)<=z5/\z5 < ((a.p.Funcs.length:Nat):Int))/\((d.Blocks).length<=4611686018427387904->((0:Int)<=z4/\z4 < (((d.Blocks).length:Nat):Int))/\z3/\z3)))))))) (2,(Lt.Phi.mk m []))) (λv=>KP v a)))else(KP (Lt.flt 3) a)))
def PS(a:Lt.Reader)(b:List (List UInt8))(KK:((Unit)×Lt.Reader)->Prop)(KP:Value->Lt.Reader->Prop):Prop:=have k:=(i64.wrap ((a.p.Funcs.length:Int) - 1));have g:=(a.p.Funcs.getD k.toNat default);have z4:=(i64.wrap (((g.Blocks).length:Int) - 1));have h:=(g.Blocks).getD z4.toNat default;if !(i9 [4,5,6,7] a.where_)then(KP (Lt.flt 3) a)else(aa (α:=List (List UInt8)×Lt.Instr) (λy=>aa (α:=Bool) (λx=>(b.length<=4611686018427387904->if decide (2 < (b.length:Int))then(((0:Int)<=1/\1<b.length)/\x (decide ((b.getD 1 default)=[61])))else(x false))) (λv4=>if v4 then(((0:Int)<=0/\0<b.length)/\True/\exQ (cU (b.getD 0 default)) (λz5=>(0:Int)<=2/\(2<=b.length/\b.length<=b.length)/\y (((b.drop 2).take (b.length - 2)),(Lt.Instr.mk 0 z5 ([]:List UInt8) [] [] []))) (λv=>KP v a))else(y (b,(Lt.Instr.mk 0 ([]:List UInt8) ([]:List UInt8) [] [] []))))) (λf=>have e:=Lt.yOp (f.1.getD 0 default);have z3:=(f.1.drop 1).take (f.1.length - 1);have i:=(z3.drop 0).take (1 - 0);((0:Int)<=0/\0<f.1.length)/\if !(e.2)then(KP (Lt.flt 3) a)else(if !(((Lt.Of (e.1)).1).Dst==(!decide (f.2.Dst=([]:List UInt8))))then(KP (Lt.flt 3) a)else((0:Int)<=1/\(1<=f.1.length/\f.1.length<=f.1.length)/\aa (α:=Lt.Instr) (λq=>aa (α:=Bool) (λB=>if decide (e.1=26)then(B true)else(B (decide (e.1=27)))) (λv9=>if v9 then((z3.length<=4611686018427387904->if !(decide (2<=(z3.length:Int)))then(KP (Lt.flt 3) a)else(((0:Int)<=1/\1<z3.length)/\True/\exQ (cU (z3.getD 1 default)) (λu=>(0:Int)<=1/\(0<=1/\1<=z3.length)/\(0:Int)<=2/\(2<=z3.length/\z3.length<=z3.length)/\(i.length<=4611686018427387904->ab (α:=List Lt.Arg×Int) (λt c=>if decide (c.2 < (i.length:Int))then((0<=c.2/\c.2.toNat<i.length)/\True/\exQ (BP (i.getD c.2.toNat default) false) (λj=>(c.1.length+([j]:List Lt.Arg).length<=4611686018427387904/\(c.1.length+([j]:List Lt.Arg).length)*32<=140737488355328)/\t ((c.1++([j]:List Lt.Arg)),(i64.wrap (c.2+1)))) (λv=>KP v a))else((dE ((z3.drop 2).take (z3.length - 2)) false)/\exQ (sL ((z3.drop 2).take (z3.length - 2)) false) (λl=>(c.1.length+l.length<=4611686018427387904/\(c.1.length+l.length)*32<=140737488355328)/\q (Lt.Instr.mk (e.1) f.2.Dst u (c.1++l) [] [])) (λv=>KP v a))) ([],0))) (λv=>KP v a))))else(if ((Lt.Of (e.1)).1).Named then((z3.length<=4611686018427387904->if !(decide (1<=(z3.length:Int)))then(KP (Lt.flt 3) a)else(((0:Int)<=0/\0<z3.length)/\True/\exQ (cU (z3.getD 0 default)) (λs=>(0:Int)<=1/\(1<=z3.length/\z3.length<=z3.length)/\(dE ((z3.drop 1).take (z3.length - 1)) false)/\exQ (sL ((z3.drop 1).take (z3.length - 1)) false) (λr=>q (Lt.Instr.mk (e.1) f.2.Dst s r [] [])) (λv=>KP v a)) (λv=>KP v a))))else((dE z3 false)/\exQ (sL z3 false) (λw=>q (Lt.Instr.mk (e.1) f.2.Dst f.2.Name w [] [])) (λv=>KP v a))))) (λm=>have z9:=([(Lt.Instr.mk m.Op m.Dst m.Name m.Args [] [])]:List Lt.Instr);(m.Args.length<=4611686018427387904->if decide (((Lt.Of (e.1)).1).Least<=(m.Args.length:Int))then(if !(decide ((m.Args.length:Int)<=((Lt.Of (e.1)).1).Most))then(KP (Lt.flt 3) a)else(if decide (1024<=a.long)then(KP (Lt.flt 2) a)else((a.p.Funcs.length<=4611686018427387904->((0:Int)<=k/\k < ((a.p.Funcs.length:Nat):Int))/\((g.Blocks).length<=4611686018427387904->((0:Int)<=z4/\z4 < (((g.Blocks).length:Nat):Int))/\aa (α:=Lt.Reader) (λo=>have z:=(((h.Code).length+z9.length<=4611686018427387904/\((h.Code).length+z9.length)*112<=140737488355328)/\k.toNat<a.p.Funcs.length/\z4.toNat < (g.Blocks).length/\k.toNat=k.toNat/\z4.toNat=z4.toNat/\o (Lt.Reader.mk (Lt.Program.mk a.p.SSA a.p.Classes a.p.Globals a.p.Externs (a.p.Funcs.set k.toNat (Lt.Func.mk (g.Name) (g.Result) (g.Params) (g.Vars) ((g.Blocks).set z4.toNat (Lt.Block.mk (h.Name) (h.Phis) ((h.Code)++z9) (Lt.Term.mk ((h.End).Kind) ((h.End).A) ((h.End).To) ((h.End).N))))))) a.at_ a.where_ a.first (i64.wrap (a.long+1))));z/\z) (λd=>aa (α:=Bool) (λn=>if decide (e.1=31)then(n true)else(n (decide (e.1=34)))) (λv21=>if v21 then(KK ((),(Lt.Reader.mk d.p d.at_ 6 d.first d.long)))else(KK ((),(Lt.Reader.mk d.p d.at_ 5 d.first d.long))))))))))else(KP (Lt.flt 3) a)))))))
def G7(a:Lt.Reader)(c:List (List UInt8))(KK:((Unit)×Lt.Reader)->Prop)(KP:Value->Lt.Reader->Prop):Prop:=have z24:=si (c.getD 3 default) 0 1024;have f:=(i64.wrap ((a.p.Funcs.length:Int) - 1));have e:=(a.p.Funcs.getD f.toNat default);have z21:=(i64.wrap (((e.Blocks).length:Int) - 1));have h:=((e.Blocks).getD z21.toNat default);have g:=(i64.wrap (((h.Code).length:Int) - 1));have d:=((h.Code).getD g.toNat default);if !(i9 [6] a.where_)then(KP (Lt.flt 3) a)else((c.length<=4611686018427387904->if decide (4<=(c.length:Int))then((2:Int)≠0/\if !(decide ((Int.tmod (c.length:Int) 2)=0))then(KP (Lt.flt 3) a)else(aa (α:=Lt.Frame) (λm=>((0:Int)<=1/\1<c.length)/\((0:Int)<=2/\2<c.length)/\((0:Int)<=3/\3<c.length)/\(True/\exQ (cU (c.getD 1 default)) (λo=>(True/\exQ (cU (c.getD 2 default)) (λz9=>(True/\exQ z24 (λq=>m (Lt.Frame.mk o z9 q [])) (λv=>KP v a))/\(True/\exQ z24 (λw=>m (Lt.Frame.mk o z9 w [])) (λv=>KP v a))) (λv=>KP v a))/\(True/\exQ (cU (c.getD 2 default)) (λz=>True/\exQ z24 (λB=>m (Lt.Frame.mk o z B [])) (λv=>KP v a)) (λv=>KP v a))) (λv=>KP v a))/\(True/\exQ (cU (c.getD 1 default)) (λz3=>True/\exQ (cU (c.getD 2 default)) (λz4=>True/\exQ z24 (λz5=>m (Lt.Frame.mk z3 z4 z5 [])) (λv=>KP v a)) (λv=>KP v a)) (λv=>KP v a))) (λs=>ab (α:=Int×Lt.Frame) (λt b=>have z23:=BP (c.getD (i64.wrap (b.1+1)).toNat default) true;have y:=(((d.Frames).length+([b.2]:List Lt.Frame).length<=4611686018427387904/\((d.Frames).length+([b.2]:List Lt.Frame).length)*64<=140737488355328)/\f.toNat<a.p.Funcs.length/\z21.toNat < (e.Blocks).length/\g.toNat < (h.Code).length/\f.toNat=f.toNat/\z21.toNat=z21.toNat/\g.toNat=g.toNat/\KK ((),(Lt.Reader.mk (Lt.Program.mk a.p.SSA a.p.Classes a.p.Globals a.p.Externs (a.p.Funcs.set f.toNat (Lt.Func.mk (e.Name) (e.Result) (e.Params) (e.Vars) ((e.Blocks).set z21.toNat (Lt.Block.mk (h.Name) (h.Phis) ((h.Code).set g.toNat (Lt.Instr.mk (d.Op) (d.Dst) (d.Name) (d.Args) ((d.Frames)++([b.2]:List Lt.Frame)) (d.Objs))) (Lt.Term.mk ((h.End).Kind) ((h.End).A) ((h.End).To) ((h.End).N))))))) a.at_ a.where_ a.first a.long)));(c.length<=4611686018427387904->if decide (b.1 < (c.length:Int))then(aa (α:=Lt.Frame) (λj=>(0<=b.1/\b.1.toNat<c.length)/\((0:Int)<=(i64.wrap (b.1+1))/\(i64.wrap (b.1+1)).toNat<c.length)/\(True/\exQ (cU (c.getD b.1.toNat default)) (λr=>True/\exQ z23 (λz20=>have i:=([(Lt.Bind.mk r z20)]:List Lt.Bind);(b.2.Vars.length+i.length<=4611686018427387904/\(b.2.Vars.length+i.length)*48<=140737488355328)/\j (Lt.Frame.mk b.2.Func b.2.Block b.2.At (b.2.Vars++i))) (λv=>KP v a)) (λv=>KP v a))/\(True/\exQ (cU (c.getD b.1.toNat default)) (λl=>(True/\exQ z23 (λn=>have z26:=([(Lt.Bind.mk l n)]:List Lt.Bind);(b.2.Vars.length+z26.length<=4611686018427387904/\(b.2.Vars.length+z26.length)*48<=140737488355328)/\j (Lt.Frame.mk b.2.Func b.2.Block b.2.At (b.2.Vars++z26))) (λv=>KP v a))/\(True/\exQ z23 (λx=>have z27:=([(Lt.Bind.mk l x)]:List Lt.Bind);have k:=((b.2.Vars.length+z27.length<=4611686018427387904/\(b.2.Vars.length+z27.length)*48<=140737488355328)/\j (Lt.Frame.mk b.2.Func b.2.Block b.2.At (b.2.Vars++z27)));k/\k) (λv=>KP v a))) (λv=>KP v a))) (λu=>t ((i64.wrap (b.1+2)),u)))else((b.2.Vars.length<=4611686018427387904->if decide (16<=(i64.wrap ((b.2.Vars.length:Int) - 1)))then(KP (Lt.flt 2) a)else((a.p.Funcs.length<=4611686018427387904->((0:Int)<=f/\f < ((a.p.Funcs.length:Nat):Int))/\((e.Blocks).length<=4611686018427387904->((0:Int)<=z21/\z21 < (((e.Blocks).length:Nat):Int))/\((h.Code).length<=4611686018427387904->((0:Int)<=g/\g < (((h.Code).length:Nat):Int))/\((d.Frames).length<=4611686018427387904->if decide (16<=((d.Frames).length:Int))then(KP (Lt.flt 2) a)else(y/\y)))))))))) (4,(Lt.Frame.mk s.Func s.Block s.At [])))))else(KP (Lt.flt 3) a)))
def C1(a:Lt.Reader)(b:List (List UInt8))(KK:((Unit)×Lt.Reader)->Prop)(KP:Value->Lt.Reader->Prop):Prop:=have f:=(b.drop 2).take (b.length - 2);have d:=(i64.wrap ((a.p.Funcs.length:Int) - 1));have h:=(a.p.Funcs.getD d.toNat default);have c:=(i64.wrap (((h.Blocks).length:Int) - 1));have g:=((h.Blocks).getD c.toNat default);have e:=(i64.wrap (((g.Code).length:Int) - 1));have z9:=((g.Code).getD e.toNat default);if !(i9 [6,7] a.where_)then(KP (Lt.flt 3) a)else((b.length<=4611686018427387904->if decide (2<=(b.length:Int))then(if !(decide ((b.length:Int)<=10))then(KP (Lt.flt 3) a)else(aa (α:=Lt.Virt) (λj=>((0:Int)<=1/\1<b.length)/\(0:Int)<=2/\(2<=b.length/\b.length<=b.length)/\(True/\exQ (cU (b.getD 1 default)) (λz5=>((dE f true)/\exQ (sL f true) (λn=>j (Lt.Virt.mk z5 n)) (λv=>KP v a))/\((dE f true)/\exQ (sL f true) (λm=>j (Lt.Virt.mk z5 m)) (λv=>KP v a))) (λv=>KP v a))/\(True/\exQ (cU (b.getD 1 default)) (λz3=>(dE f true)/\exQ (sL f true) (λz4=>j (Lt.Virt.mk z3 z4)) (λv=>KP v a)) (λv=>KP v a))) (λi=>(a.p.Funcs.length<=4611686018427387904->((0:Int)<=d/\d < ((a.p.Funcs.length:Nat):Int))/\((h.Blocks).length<=4611686018427387904->((0:Int)<=c/\c < (((h.Blocks).length:Nat):Int))/\((g.Code).length<=4611686018427387904->((0:Int)<=e/\e < (((g.Code).length:Nat):Int))/\((z9.Objs).length<=4611686018427387904->if decide (99<=((z9.Objs).length:Int))then(KP (Lt.flt 2) a)else(aa (α:=Lt.Reader) (λl=>have k:=(((z9.Objs).length+([i]:List Lt.Virt).length<=4611686018427387904/\((z9.Objs).length+([i]:List Lt.Virt).length)*40<=140737488355328)/\d.toNat<a.p.Funcs.length/\c.toNat < (h.Blocks).length/\e.toNat < (g.Code).length/\d.toNat=d.toNat/\c.toNat=c.toNat/\e.toNat=e.toNat/\l (Lt.Reader.mk (Lt.Program.mk a.p.SSA a.p.Classes a.p.Globals a.p.Externs (a.p.Funcs.set d.toNat (Lt.Func.mk (h.Name) (h.Result) (h.Params) (h.Vars) ((h.Blocks).set c.toNat (Lt.Block.mk (g.Name) (g.Phis) ((g.Code).set e.toNat (Lt.Instr.mk (z9.Op) (z9.Dst) (z9.Name) (z9.Args) (z9.Frames) ((z9.Objs)++([i]:List Lt.Virt)))) (Lt.Term.mk ((g.End).Kind) ((g.End).A) ((g.End).To) ((g.End).N))))))) a.at_ a.where_ a.first a.long));k/\k) (λv9=>KK ((),(Lt.Reader.mk v9.p v9.at_ 7 v9.first v9.long)))))))))))else(KP (Lt.flt 3) a)))
def Wa(a:Lt.Reader)(b:List (List UInt8))(KK:((Unit)×Lt.Reader)->Prop)(KP:Value->Lt.Reader->Prop):Prop:=have e:=(!(decide ((b.length:Int)=2)));have d:=((0:Int)<=1/\1<b.length);have z9:=(i64.wrap ((a.p.Funcs.length:Int) - 1));have c:=(a.p.Funcs.getD z9.toNat default);have g:=(i64.wrap (((c.Blocks).length:Int) - 1));have f:=(c.Blocks).getD g.toNat default;if !(i9 [4,5,6,7] a.where_)then(KP (Lt.flt 3) a)else(aa (α:=Lt.Term) (λh=>((0:Int)<=0/\0<b.length)/\if decide ((b.getD 0 default)=[106,117,109,112])then((b.length<=4611686018427387904->if e then(KP (Lt.flt 3) a)else(d/\True/\exQ (cU (b.getD 1 default)) (λz3=>h (Lt.Term.mk 1 (Lt.Arg.mk 0 ([]:List UInt8) 0) [z3] 0)) (λv=>KP v a))))else(if decide ((b.getD 0 default)=[98,114,97,110,99,104])then((b.length<=4611686018427387904->if !(decide ((b.length:Int)=4))then(KP (Lt.flt 3) a)else(d/\((0:Int)<=2/\2<b.length)/\((0:Int)<=3/\3<b.length)/\True/\exQ (BP (b.getD 1 default) false) (λz4=>True/\exQ (cU (b.getD 2 default)) (λz5=>True/\exQ (cU (b.getD 3 default)) (λk=>h (Lt.Term.mk 2 z4 [z5,k] 0)) (λv=>KP v a)) (λv=>KP v a)) (λv=>KP v a))))else(if decide ((b.getD 0 default)=[114,101,116])then((b.length<=4611686018427387904->if e then(KP (Lt.flt 3) a)else(d/\True/\exQ (BP (b.getD 1 default) false) (λl=>h (Lt.Term.mk 3 l [] 0)) (λv=>KP v a))))else((b.length<=4611686018427387904->if e then(KP (Lt.flt 3) a)else(d/\if !((fG (b.getD 1 default)).2)then(KP (Lt.flt 3) a)else(h (Lt.Term.mk 4 (Lt.Arg.mk 0 ([]:List UInt8) 0) [] ((fG (b.getD 1 default)).1))))))))) (λm=>aa (α:=Lt.Reader) (λj=>have i:=((a.p.Funcs.length<=4611686018427387904->((0:Int)<=z9/\z9 < ((a.p.Funcs.length:Nat):Int))/\((c.Blocks).length<=4611686018427387904->((0:Int)<=g/\g < (((c.Blocks).length:Nat):Int))/\z9.toNat<a.p.Funcs.length/\g.toNat < (c.Blocks).length/\j (Lt.Reader.mk (Lt.Program.mk a.p.SSA a.p.Classes a.p.Globals a.p.Externs (a.p.Funcs.set z9.toNat (Lt.Func.mk (c.Name) (c.Result) (c.Params) (c.Vars) ((c.Blocks).set g.toNat (Lt.Block.mk (f.Name) (f.Phis) (f.Code) m))))) a.at_ a.where_ a.first a.long))));i/\i) (λv9=>KK ((),(Lt.Reader.mk v9.p v9.at_ 0 v9.first v9.long)))))
def yGo(r:Lt.Reader)(l:List (List UInt8))(KK:((Unit)×Lt.Reader)->Prop)(KP:Value->Lt.Reader->Prop)(X:Except Value Unit×Lt.Reader):Prop:=(r.p.Classes.length<=4611686018427387904->(r.p.Globals.length<=4611686018427387904->(r.p.Externs.length<=4611686018427387904->bP r l/\exP X (λ_ x=>aa (α:=Lt.Reader) (λa=>(x.p.Classes.length<=4611686018427387904->(x.p.Globals.length<=4611686018427387904->(x.p.Externs.length<=4611686018427387904->if decide ((i64.wrap ((i64.wrap ((r.p.Classes.length:Int)+(r.p.Globals.length:Int)))+(r.p.Externs.length:Int))) < (i64.wrap ((i64.wrap ((x.p.Classes.length:Int)+(x.p.Globals.length:Int)))+(x.p.Externs.length:Int))))then(a (Lt.Reader.mk x.p x.at_ x.where_ x.first (-1)))else(a x))))) (λv=>KK ((),(Lt.Reader.mk v.p v.at_ v.where_ false v.long)))) (λv x=>KP v x))))
def pB(r:Lt.Reader)(l:List (List UInt8))(KK:((Unit)×Lt.Reader)->Prop)(KP:Value->Lt.Reader->Prop)(X:Except Value Unit×Lt.Reader):Prop:=aa (α:=Bool) (λa=>(l.length<=4611686018427387904->if decide (2 < (l.length:Int))then(((0:Int)<=1/\1<l.length)/\a (decide ((l.getD 1 default)=[61])))else(a false))) (λb=>if b then yGo r l KK KP (xY r l)else yGo r l KK KP X)
def PU(r:Lt.Reader)(l:List (List UInt8))(KK:((Unit)×Lt.Reader)->Prop)(KP:Value->Lt.Reader->Prop):Prop:=((0:Int)<=0/\0<l.length)/\if decide ((l.getD 0 default)=[115,115,97])=true then pB r l KK KP (aeQ r l)else if decide ((l.getD 0 default)=[99,108,97,115,115])=true then pB r l KK KP (Gc r l)else if decide ((l.getD 0 default)=[102,105,101,108,100])=true then pB r l KK KP (Gf r l)else if decide ((l.getD 0 default)=[103,108,111,98,97,108])=true then pB r l KK KP (yK r l)else if decide ((l.getD 0 default)=[101,120,116,101,114,110])=true then pB r l KK KP (yJ r l)else if decide ((l.getD 0 default)=[102,117,110,99])=true then pB r l KK KP (sg r l)else if decide ((l.getD 0 default)=[112,97,114,97,109])=true then pB r l KK KP (Gh r l)else if decide ((l.getD 0 default)=[118,97,114])=true then pB r l KK KP (so r l)else if decide ((l.getD 0 default)=[98,108,111,99,107])=true then pB r l KK KP (Gi r l)else if decide ((l.getD 0 default)=[112,104,105])=true then pB r l KK KP (aeP r l)else if decide ((l.getD 0 default)=[97,116])=true then pB r l KK KP (Gg r l)else if decide ((l.getD 0 default)=[111,98,106])=true then pB r l KK KP (sk r l)else if decide ((l.getD 0 default)=[106,117,109,112])=true then pB r l KK KP (Ge r l)else if decide ((l.getD 0 default)=[98,114,97,110,99,104])=true then pB r l KK KP (Ge r l)else if decide ((l.getD 0 default)=[114,101,116])=true then pB r l KK KP (Ge r l)else if decide ((l.getD 0 default)=[116,114,97,112])=true then pB r l KK KP (Ge r l)else pB r l KK KP (xY r l)
def zd(a:List UInt8)(KK:(Lt.Program×Int×Int)->Prop):Prop:=have b:=Lt.Program.mk false [] [] [] [];if !decide ((gz a).2.2=0)then(aa (α:=Lt.Program×Int×Int) (λg=>have h:=(g (b,(gz a).2.1,(gz a).2.2))/\(g (b,(gz a).2.1,(gz a).2.2));((g (b,(gz a).2.1,(gz a).2.2))/\h)/\h/\h) (λf=>KK ((Lt.Program.mk f.1.SSA [] [] [] []),f.2.1,f.2.2)))else((((gz a).1).length<=4611686018427387904->ab (α:=Int×Lt.Reader) (λi v4=>have z3:=((gz a).1).getD v4.1.toNat default;if decide (v4.1 < (((gz a).1).length:Int))then((0<=v4.1/\v4.1.toNat < ((gz a).1).length)/\(bP (Lt.Reader.mk v4.2.p (z3.N) v4.2.where_ v4.2.first v4.2.long) (z3.Words))/\exP (BQ (Lt.Reader.mk v4.2.p (z3.N) v4.2.where_ v4.2.first v4.2.long) (z3.Words)) (λz5 d=>i ((i64.wrap (v4.1+1)),d)) (λv d=>∃c:Int,v=Lt.flt c/\(Lit.int .i64 c).wf=true/\((KK (b,d.at_,c))/\((KK (b,d.at_,c))/\(KK (b,d.at_,c))))))else(if !(i9 [0,1] v4.2.where_)then(∃e:Int,(Lt.flt 3)=Lt.flt e/\(Lit.int .i64 e).wf=true/\((KK (b,0,e))/\((KK (b,0,e))/\(KK (b,0,e)))))else(KK (v4.2.p,0,0)))) (0,(Lt.Reader.mk b 0 0 true (-1)))))
def V1(a:List UInt8)(KK:(Int×Bool)->Prop):Prop:=ab (α:=Int×Int) (λj b=>aa (α:=Bool) (λg=>(a.length<=4611686018427387904->if decide (b.2 < (a.length:Int))then(g (decide (b.2 < 30)))else(g false))) (λv4=>if v4 then(aa (α:=Int) (λf=>aa (α:=Bool) (λh=>if decide (b.2=0)then(((0:Int)<=0/\0<a.length)/\h (decide ((((a.getD 0 0).toNat:Nat):Int)=(((45:UInt8).toNat:Nat):Int))))else(h false)) (λl=>if l then(f b.1)else((0<=b.2/\b.2.toNat<a.length)/\f (IntKind.u64.wrap ((IntKind.u64.wrap ((IntKind.u64.wrap (b.1*10))+(IntKind.u64.wrap (((a.getD b.2.toNat 0).toNat:Nat):Int)))) - 48))))) (λk=>j (k,(i64.wrap (b.2+1)))))else(aa (α:=Int) (λi=>aa (α:=Bool) (λd=>(a.length<=4611686018427387904->if decide (0 < (a.length:Int))then(((0:Int)<=0/\0<a.length)/\d (decide ((((a.getD 0 0).toNat:Nat):Int)=(((45:UInt8).toNat:Nat):Int))))else(d false))) (λe=>if e then(i (IntKind.u64.wrap (0-b.1)))else(i b.1))) (λc=>(gA (xN c))/\if !decide ((kA (xN c))=a)then(KK (0,false))else(KK ((xN c),true)))))) (0,0)
def VZ(a:List UInt8)(KK:(Int×Bool)->Prop):Prop:=(a.length<=4611686018427387904->if !decide ((a.length:Int)=18)then(KK (0,false))else(ab (α:=Int×Int) (λd b=>if decide (b.2 < 18)then((0<=b.2/\b.2.toNat<a.length)/\aa (α:=Int) (λc=>if decide (97<=(IntKind.u64.wrap (((a.getD b.2.toNat 0).toNat:Nat):Int)))then(c (IntKind.u64.wrap ((IntKind.u64.wrap (((a.getD b.2.toNat 0).toNat:Nat):Int)) - 87)))else(c (IntKind.u64.wrap ((IntKind.u64.wrap (((a.getD b.2.toNat 0).toNat:Nat):Int)) - 48)))) (λv4=>(16:Int)≠0/\d ((IntKind.u64.wrap ((IntKind.u64.wrap (b.1*16))+(Int.tmod v4 16))),(i64.wrap (b.2+1)))))else(if !decide ((mL (i64.wrap b.1))=a)then(KK (0,false))else(KK ((i64.wrap b.1),true)))) (0,2)))
def VY(a:List UInt8)(KK:(Lt.Arg×Bool)->Prop):Prop:=have z9:=((0:Int)<=4/\(4:Int) < ((5:Nat):Int));have i:=((0:Int)<=3/\(3:Int) < ((5:Nat):Int));have g:=((0:Int)<=2/\(2:Int) < ((5:Nat):Int));have f:=((0:Int)<=1/\(1:Int) < ((5:Nat):Int));have z5:=((0:Int)<=0/\(0:Int) < ((5:Nat):Int));have z4:=(Lt.Arg.mk 4 ([]:List UInt8) 0);have d:=(Lt.Arg.mk 3 ([]:List UInt8) ((gH a).1));have c:=(Lt.Arg.mk 2 ([]:List UInt8) ((bd a).1));aa (α:=List UInt8) (λm=>(a.length<=4611686018427387904->if decide (0 < (a.length:Int))then((0:Int)<=1/\(1<=a.length/\a.length<=a.length)/\m ((a.drop 1).take (a.length - 1)))else(m ([]:List UInt8)))) (λp=>have z3:=(Lt.Arg.mk 5 ([]:List UInt8) ((bd p).1));aa (α:=Bool) (λk=>z5/\if kc (Lt.Arg.mk 1 a 0)then(z5/\(fQ (Lt.Arg.mk 1 a 0))/\k (decide ((cv (Lt.Arg.mk 1 a 0))=a)))else(k false)) (λv4=>if v4 then(z5/\KK ((Lt.Arg.mk 1 a 0),true))else(aa (α:=Bool) (λj=>f/\if kc c then(f/\(fQ c)/\j (decide ((cv c)=a)))else(j false)) (λq=>if q then(f/\KK (c,true))else(aa (α:=Bool) (λl=>g/\if kc d then(g/\(fQ d)/\l (decide ((cv d)=a)))else(l false)) (λo=>if o then(g/\KK (d,true))else(aa (α:=Bool) (λn=>i/\if kc z4 then(i/\(fQ z4)/\n (decide ((cv z4)=a)))else(n false)) (λh=>if h then(i/\KK (z4,true))else(aa (α:=Bool) (λb=>z9/\if kc z3 then(z9/\(fQ z3)/\b (decide ((cv z3)=a)))else(b false)) (λe=>if e then(z9/\KK (z3,true))else(KK ((Lt.Arg.mk 0 ([]:List UInt8) 0),false))))))))))))
def V0(a:List (List UInt8))(KK:Bool->Prop):Prop:=ab (α:=Int) (λc b=>(a.length<=4611686018427387904->if decide (b < (a.length:Int))then((0<=b/\b.toNat<a.length)/\if !(be (a.getD b.toNat default))then(KK false)else(c (i64.wrap (b+1))))else(KK true))) 0
def PN(a:List UInt8)(KK:Bool->Prop):Prop:=aa (α:=Bool) (λb=>if decide (a=[105,110,116])then(b true)else(if decide (a=[102,108,111,97,116])then(b true)else(b (be a)))) (λc=>KK c)
def G0(a:List (List UInt8))(KK:Bool->Prop):Prop:=aa (α:=Bool) (λb=>(a.length<=4611686018427387904->if decide ((a.length:Int)=3)then(((0:Int)<=1/\1<a.length)/\if fT [(a.getD 1 default)] then(((0:Int)<=2/\2<a.length)/\b (mw (a.getD 2 default)))else(b false))else(b false))) (λc=>KK c)
def GU(b:Int)(a:Int)(KK:Int->Prop):Prop:=if decide (a<=b)then(KK 2)else(KK 0)
def aiL(a:List UInt8)(KK:(Int×Bool)->Prop):Prop:=ab (α:=Int) (λc b=>if decide (b<=34)then(((0:Int)<=b/\b < ((35:Nat):Int))/\b.toNat<gw.length/\if decide ((gw.getD b.toNat default)=a)then(KK (b,true))else(c (i64.wrap (b+1))))else(KK (0,false))) 1
def PM(a:List (List UInt8))(c:Bool)(KK:(List Lt.Arg×Bool)->Prop):Prop:=ab (α:=List Lt.Arg×Int) (λe b=>(a.length<=4611686018427387904->if decide (b.2 < (a.length:Int))then((0<=b.2/\b.2.toNat<a.length)/\aa (α:=Bool) (λd=>if !((dG (a.getD b.2.toNat default)).2)then(d true)else(if decide (((dG (a.getD b.2.toNat default)).1).Kind=5)then(d (!c))else(d false))) (λv4=>if v4 then(KK ([],false))else((b.1.length+([((dG (a.getD b.2.toNat default)).1)]:List Lt.Arg).length<=4611686018427387904/\(b.1.length+([((dG (a.getD b.2.toNat default)).1)]:List Lt.Arg).length)*32<=140737488355328)/\e ((b.1++([((dG (a.getD b.2.toNat default)).1)]:List Lt.Arg)),(i64.wrap (b.2+1))))))else(KK (b.1,true)))) ([],0)
def GW(a:List (List UInt8))(c:Int)(b:Bool)(KK:(List Lt.Bind×Bool)->Prop):Prop:=aa (α:=Bool) (λg=>(a.length<=4611686018427387904->if decide ((a.length:Int)<c)then(g true)else((2:Int)≠0/\g (!decide ((Int.tmod (i64.wrap ((a.length:Int)-c)) 2)=0))))) (λi=>if i then(KK ([],false))else(ab (α:=List Lt.Bind×Int) (λh v4=>have z4:=i64.wrap (v4.2+1);have z3:=i64.wrap (v4.2+2);have d:=(a.drop z4.toNat).take (z3.toNat-z4.toNat);have e:=([(Lt.Bind.mk (a.getD v4.2.toNat default) (((br d b).1).getD 0 default))]:List Lt.Bind);(a.length<=4611686018427387904->if decide (v4.2 < (a.length:Int))then((0:Int)<=z4/\(0:Int)<=z3/\(z4.toNat<=z3.toNat/\z3.toNat<=a.length)/\(dE d b)/\aa (α:=Bool) (λf=>(0<=v4.2/\v4.2.toNat<a.length)/\if !(fT [(a.getD v4.2.toNat default)])then(f true)else(f (!((br d b).2)))) (λj=>if j then(KK ([],false))else((0<=v4.2/\v4.2.toNat<a.length)/\((0:Int)<=0/\0 < ((br d b).1).length)/\(v4.1.length+e.length<=4611686018427387904/\(v4.1.length+e.length)*48<=140737488355328)/\h ((v4.1++e),z3))))else(KK (v4.1,true)))) ([],c)))
def GR(a:Lt.Read)(b:List (List UInt8))(KK:((Bool×Int)×Lt.Read)->Prop):Prop:=have z20:=decide (a.Where<=2);have h:=!(decide (a.Where=9));have g:=bd (b.getD 2 default);have j:=((0:Int)<=2/\2<b.length);have i:=!(fT [(b.getD 1 default)]);have p:=([(Lt.Class.mk (b.getD 1 default) [])]:List Lt.Class);have k:=([(Lt.Func.mk (b.getD 1 default) (b.getD 2 default) [] [] [])]:List Lt.Func);have m:=([(Lt.Extern.mk (b.getD 1 default) (g.1))]:List Lt.Extern);have c:=((0:Int)<=1/\1<b.length);have z3:=([(Lt.Var.mk (b.getD 1 default) (b.getD 2 default))]:List Lt.Var);have f:=(i64.wrap ((a.P.Classes.length:Int) - 1));have l:=((0:Int)<=f/\f < ((a.P.Classes.length:Nat):Int));have r:=(a.P.Classes.getD f.toNat default).Fields;have u:=r.length+z3.length<=4611686018427387904/\(r.length+z3.length)*32<=140737488355328;have t:=Lt.Read.mk (Lt.Program.mk a.P.SSA (a.P.Classes.set f.toNat (Lt.Class.mk ((a.P.Classes.getD f.toNat default).Name) (r++z3))) a.P.Globals a.P.Externs a.P.Funcs) a.Where a.Long;((0:Int)<=0/\0<b.length)/\if decide ((b.getD 0 default)=[99,108,97,115,115])then(aa (α:=Bool) (λs=>if z20 then(if !decide ((b.length:Int)=2)then(s true)else(c/\s i))else(if h then(s true)else(if !decide ((b.length:Int)=2)then(s true)else(c/\s i)))) (λK=>if K then(KK ((true,3),a))else((a.P.Classes.length<=4611686018427387904->aa (α:=Lt.Read) (λF=>if decide ((cP (a.P.Classes.length:Int) 8)=0)then(aa (α:=Lt.Read) (λJ=>have I:=((a.P.Classes.length+p.length<=4611686018427387904/\(a.P.Classes.length+p.length)*40<=140737488355328)/\J (Lt.Read.mk (Lt.Program.mk a.P.SSA (a.P.Classes++p) a.P.Globals a.P.Externs a.P.Funcs) a.Where a.Long));c/\I/\I) (λG=>F (Lt.Read.mk G.P 1 G.Long)))else(F a)) (λv4=>KK ((true,(cP (a.P.Classes.length:Int) 8)),v4))))))else(if decide ((b.getD 0 default)=[102,105,101,108,100])then(aa (α:=Bool) (λH=>if !decide (a.Where=1)then(H true)else(H (!(cx b)))) (λL=>if L then(KK ((true,3),a))else((a.P.Classes.length<=4611686018427387904->l/\(r.length<=4611686018427387904->aa (α:=Lt.Read) (λz=>have d:=(u/\l/\f.toNat<a.P.Classes.length/\f.toNat=f.toNat/\z t);if decide ((cP (r.length:Int) 8)=0)then(c/\j/\((l/\d/\d)/\(l/\u/\l/\f.toNat<a.P.Classes.length/\f.toNat=f.toNat/\z t))/\(l/\(d/\d)/\(d/\(d/\d))/\(d/\d))/\(l/\d/\d))else(z a)) (λD=>KK ((true,(cP (r.length:Int) 8)),D)))))))else(if decide ((b.getD 0 default)=[103,108,111,98,97,108])then(aa (α:=Bool) (λn=>if z20 then(n (!(cx b)))else(if h then(n true)else(n (!(cx b))))) (λA=>if A then(KK ((true,3),a))else((a.P.Globals.length<=4611686018427387904->aa (α:=Lt.Read) (λB=>have z9:=(a.P.Globals.length+z3.length<=4611686018427387904/\(a.P.Globals.length+z3.length)*32<=140737488355328)/\B (Lt.Read.mk (Lt.Program.mk a.P.SSA a.P.Classes (a.P.Globals++z3) a.P.Externs a.P.Funcs) a.Where a.Long);c/\j/\z9/\z9) (λv=>KK ((true,(cP (a.P.Globals.length:Int) 8)),(Lt.Read.mk v.P 2 v.Long)))))))else(if decide ((b.getD 0 default)=[101,120,116,101,114,110])then(aa (α:=Bool) (λe=>if z20 then(if !decide ((b.length:Int)=3)then(e true)else(c/\e i))else(if h then(e true)else(if !decide ((b.length:Int)=3)then(e true)else(c/\e i)))) (λC=>if C then(KK ((true,3),a))else(j/\aa (α:=Bool) (λq=>if !(g.2)then(q true)else(if decide (g.1 < 0)then(q true)else(q (decide (8<g.1))))) (λw=>if w then(KK ((true,3),a))else((a.P.Externs.length<=4611686018427387904->aa (α:=Lt.Read) (λy=>have z4:=((a.P.Externs.length+m.length<=4611686018427387904/\(a.P.Externs.length+m.length)*24<=140737488355328)/\y (Lt.Read.mk (Lt.Program.mk a.P.SSA a.P.Classes a.P.Globals (a.P.Externs++m) a.P.Funcs) a.Where a.Long));c/\z4/\z4) (λv20=>KK ((true,(cP (a.P.Externs.length:Int) 8)),(Lt.Read.mk v20.P 2 v20.Long)))))))))else(if decide ((b.getD 0 default)=[102,117,110,99])then(aa (α:=Bool) (λo=>if z20 then(o (!(cx b)))else(if h then(o true)else(o (!(cx b))))) (λE=>if E then(KK ((true,3),a))else((a.P.Funcs.length<=4611686018427387904->aa (α:=Lt.Read) (λx=>have z5:=((a.P.Funcs.length+k.length<=4611686018427387904/\(a.P.Funcs.length+k.length)*104<=140737488355328)/\x (Lt.Read.mk (Lt.Program.mk a.P.SSA a.P.Classes a.P.Globals a.P.Externs (a.P.Funcs++k)) a.Where a.Long));c/\j/\z5/\z5) (λv24=>KK ((true,(cP (a.P.Funcs.length:Int) 8)),(Lt.Read.mk v24.P 3 0)))))))else(KK ((false,0),a))))))
def GY(a:Lt.Read)(b:List (List UInt8))(KK:((Bool×Int)×Lt.Read)->Prop):Prop:=have z26:=!decide (a.Where=4);have o:=((0:Int)<=2/\2<b.length);have z24:=!decide (a.Where=3);have k:=(!decide ((b.length:Int)=2));have i:=!(fT [(b.getD 1 default)]);have d:=((0:Int)<=1/\1<b.length);have h:=(aA b 2 false).1;have z:=([(Lt.Block.mk (b.getD 1 default) [] [] (Lt.Term.mk 0 (Lt.Arg.mk 0 ([]:List UInt8) 0) [] 0))]:List Lt.Block);have z5:=([(Lt.Var.mk (b.getD 1 default) (b.getD 2 default))]:List Lt.Var);have q:=(([]:List Lt.Var).length+z5.length<=4611686018427387904/\(([]:List Lt.Var).length+z5.length)*32<=140737488355328);have z4:=(i64.wrap ((a.P.Funcs.length:Int) - 1));have c:=(a.P.Funcs.getD z4.toNat default);have z3:=(i64.wrap (((c.Blocks).length:Int) - 1));have l:=((0:Int)<=z3/\z3 < (((c.Blocks).length:Nat):Int));have g:=(c.Blocks).getD z3.toNat default;(a.P.Funcs.length<=4611686018427387904->if decide (0 < (a.P.Funcs.length:Int))then((a.P.Funcs.length<=4611686018427387904->((0:Int)<=z4/\z4 < ((a.P.Funcs.length:Nat):Int))/\((0:Int)<=0/\0<b.length)/\if decide ((b.getD 0 default)=[112,97,114,97,109])then(aa (α:=Bool) (λW=>if z24 then(W true)else(W (!(cx b)))) (λv2=>if v2 then(KK ((true,3),a))else(((c.Params).length<=4611686018427387904->aa (α:=Lt.Read) (λZ=>have w:=((c.Params).length+z5.length<=4611686018427387904/\((c.Params).length+z5.length)*32<=140737488355328)/\z4.toNat<a.P.Funcs.length/\z4.toNat=z4.toNat/\Z (Lt.Read.mk (Lt.Program.mk a.P.SSA a.P.Classes a.P.Globals a.P.Externs (a.P.Funcs.set z4.toNat (Lt.Func.mk (c.Name) (c.Result) ((c.Params)++z5) (c.Vars) (c.Blocks)))) a.Where a.Long);d/\o/\w/\w) (λv4=>KK ((true,(cP ((c.Params).length:Int) 6)),v4))))))else(if decide ((b.getD 0 default)=[118,97,114])then(aa (α:=Bool) (λQ=>if z24 then(if z26 then(Q true)else(Q (!(cx b))))else(Q (!(cx b)))) (λv6=>if v6 then(KK ((true,3),a))else(((c.Vars).length<=4611686018427387904->aa (α:=Lt.Read) (λJ7=>have E:=((c.Vars).length+z5.length<=4611686018427387904/\((c.Vars).length+z5.length)*32<=140737488355328)/\z4.toNat<a.P.Funcs.length/\z4.toNat=z4.toNat/\J7 (Lt.Read.mk (Lt.Program.mk a.P.SSA a.P.Classes a.P.Globals a.P.Externs (a.P.Funcs.set z4.toNat (Lt.Func.mk (c.Name) (c.Result) (c.Params) ((c.Vars)++z5) (c.Blocks)))) a.Where a.Long);d/\o/\E/\E) (λY=>KK ((true,(cP ((c.Vars).length:Int) 1024)),(Lt.Read.mk Y.P 4 Y.Long)))))))else(if decide ((b.getD 0 default)=[98,108,111,99,107])then(aa (α:=Bool) (λs=>if z24 then(if z26 then(if !decide (a.Where=9)then(s true)else(if k then(s true)else(d/\s i)))else(if k then(s true)else(d/\s i)))else(if k then(s true)else(d/\s i))) (λV=>if V then(KK ((true,3),a))else(((c.Blocks).length<=4611686018427387904->aa (α:=Lt.Read) (λR=>have x:=((c.Blocks).length+z.length<=4611686018427387904/\((c.Blocks).length+z.length)*136<=140737488355328)/\z4.toNat<a.P.Funcs.length/\z4.toNat=z4.toNat/\R (Lt.Read.mk (Lt.Program.mk a.P.SSA a.P.Classes a.P.Globals a.P.Externs (a.P.Funcs.set z4.toNat (Lt.Func.mk (c.Name) (c.Result) (c.Params) (c.Vars) ((c.Blocks)++z)))) a.Where a.Long);d/\x/\x) (λy=>KK ((true,(cP ((c.Blocks).length:Int) 256)),(Lt.Read.mk y.P 5 y.Long)))))))else(if decide ((b.getD 0 default)=[112,104,105])then((qy b 2 false)/\aa (α:=Bool) (λp=>if !decide (a.Where=5)then(p true)else(if !((aA b 2 false).2)then(p true)else(if decide ((h.length:Int)=0)then(p true)else(d/\p i)))) (λS=>if S then(KK ((true,3),a))else(aa (α:=Bool) (λB=>(h.length<=4611686018427387904->if decide (256 < (h.length:Int))then(B true)else(B (decide (1024<=a.Long))))) (λU=>if U then(KK ((true,2),a))else(d/\ab (α:=Int×Lt.Phi) (λO e=>have H:=((g.Phis).length+([e.2]:List Lt.Phi).length<=4611686018427387904/\((g.Phis).length+([e.2]:List Lt.Phi).length)*40<=140737488355328);have z9:=([(Lt.In.mk ((h.getD e.1.toNat default).Name) ((h.getD e.1.toNat default).A))]:List Lt.In);have X:=(Lt.Read.mk (Lt.Program.mk a.P.SSA a.P.Classes a.P.Globals a.P.Externs (a.P.Funcs.set z4.toNat (Lt.Func.mk (c.Name) (c.Result) (c.Params) (c.Vars) ((c.Blocks).set z3.toNat (Lt.Block.mk (g.Name) ((g.Phis)++([e.2]:List Lt.Phi)) (g.Code) (Lt.Term.mk ((g.End).Kind) ((g.End).A) ((g.End).To) ((g.End).N))))))) a.Where a.Long);(h.length<=4611686018427387904->if decide (e.1 < (h.length:Int))then(aa (α:=Lt.Phi) (λL=>have z21:=(e.2.Ins.length+z9.length<=4611686018427387904/\(e.2.Ins.length+z9.length)*48<=140737488355328)/\L (Lt.Phi.mk e.2.Dst (e.2.Ins++z9));(0<=e.1/\e.1.toNat<h.length)/\(0<=e.1/\e.1.toNat<h.length)/\z21/\z21) (λv20=>O ((i64.wrap (e.1+1)),v20)))else(((c.Blocks).length<=4611686018427387904->aa (α:=Lt.Read) (λD=>have m:=(H/\l/\z4.toNat<a.P.Funcs.length/\z3.toNat < (c.Blocks).length/\z4.toNat=z4.toNat/\z3.toNat=z3.toNat/\D X);((l/\m/\m)/\(l/\H/\l/\z4.toNat<a.P.Funcs.length/\z3.toNat < (c.Blocks).length/\z4.toNat=z4.toNat/\z3.toNat=z3.toNat/\D X))/\(l/\(m/\m)/\(m/\(m/\m))/\(m/\m))/\(l/\m/\m)) (λu=>KK ((true,0),(Lt.Read.mk u.P u.Where (i64.wrap (u.Long+1))))))))) (0,(Lt.Phi.mk (b.getD 1 default) [])))))))else(KK ((false,0),a)))))))else(((0:Int)<=0/\0<b.length)/\if decide ((b.getD 0 default)=[112,97,114,97,109])then(aa (α:=Bool) (λv=>if z24 then(v true)else(v (!(cx b)))) (λv24=>if v24 then(KK ((true,3),a))else(aa (α:=Unit) (λC=>d/\o/\(q/\C ())/\(q/\C ())) (λv26=>KK ((true,(cP 0 6)),a)))))else(if decide ((b.getD 0 default)=[118,97,114])then(aa (α:=Bool) (λr=>if z24 then(if z26 then(r true)else(r (!(cx b))))else(r (!(cx b)))) (λv28=>if v28 then(KK ((true,3),a))else(aa (α:=Unit) (λG=>d/\o/\(q/\G ())/\(q/\G ())) (λad=>KK ((true,(cP 0 1024)),(Lt.Read.mk a.P 4 a.Long))))))else(if decide ((b.getD 0 default)=[98,108,111,99,107])then(aa (α:=Bool) (λj=>if z24 then(if z26 then(if !decide (a.Where=9)then(j true)else(if k then(j true)else(d/\j i)))else(if k then(j true)else(d/\j i)))else(if k then(j true)else(d/\j i))) (λv32=>if v32 then(KK ((true,3),a))else(aa (α:=Unit) (λI=>have z23:=((([]:List Lt.Block).length+z.length<=4611686018427387904/\(([]:List Lt.Block).length+z.length)*136<=140737488355328)/\I ());d/\z23/\z23) (λac=>KK ((true,(cP 0 256)),(Lt.Read.mk a.P 5 a.Long))))))else(if decide ((b.getD 0 default)=[112,104,105])then((qy b 2 false)/\aa (α:=Bool) (λn=>if !decide (a.Where=5)then(n true)else(if !((aA b 2 false).2)then(n true)else(if decide ((h.length:Int)=0)then(n true)else(d/\n i)))) (λv36=>if v36 then(KK ((true,3),a))else(aa (α:=Bool) (λF=>(h.length<=4611686018427387904->if decide (256 < (h.length:Int))then(F true)else(F (decide (1024<=a.Long))))) (λK=>if K then(KK ((true,2),a))else(d/\ab (α:=Int×Lt.Phi) (λT f=>have t:=([(Lt.In.mk ((h.getD f.1.toNat default).Name) ((h.getD f.1.toNat default).A))]:List Lt.In);(h.length<=4611686018427387904->if decide (f.1 < (h.length:Int))then(aa (α:=Lt.Phi) (λM=>have z20:=(f.2.Ins.length+t.length<=4611686018427387904/\(f.2.Ins.length+t.length)*48<=140737488355328)/\M (Lt.Phi.mk f.2.Dst (f.2.Ins++t));(0<=f.1/\f.1.toNat<h.length)/\(0<=f.1/\f.1.toNat<h.length)/\z20/\z20) (λJ=>T ((i64.wrap (f.1+1)),J)))else(((False)/\(False))/\(False)/\(False)))) (0,(Lt.Phi.mk (b.getD 1 default) [])))))))else(KK ((false,0),a)))))))
def CR(a:Lt.Read)(b:List (List UInt8))(KK:((Bool×Int)×Lt.Read)->Prop):Prop:=have r:=((0:Int)<=3/\3<b.length);have z24:=(decide ((b.length:Int)=2));have v:=(b.drop 2).take (b.length - 2);have z21:=decide ((b.getD 0 default)=[97,116]);have z20:=bd (b.getD 3 default);have s:=br ((b.drop 1).take (2 - 1)) false;have k:=((0:Int)<=2/\2<b.length);have x:=decide ((b.getD 0 default)=[111,98,106]);have u:=decide ((b.getD 0 default)=[114,101,116]);have m:=(b.drop 1).take (b.length - 1);have t:=decide ((b.getD 0 default)=[106,117,109,112]);have q:=decide ((b.getD 0 default)=[98,114,97,110,99,104]);have i:=((0:Int)<=0/\0<b.length);have g:=((0:Int)<=1/\1<b.length);have w:=([(Lt.Virt.mk (b.getD 1 default) ((br v true).1))]:List Lt.Virt);have z9:=([(Lt.Frame.mk (b.getD 1 default) (b.getD 2 default) (z20.1) ((aA b 4 true).1))]:List Lt.Frame);have f:=(i64.wrap ((a.P.Funcs.length:Int) - 1));have c:=(a.P.Funcs.getD f.toNat default);have e:=(i64.wrap (((c.Blocks).length:Int) - 1));have d:=((c.Blocks).getD e.toNat default);have z23:=Lt.Term.mk ((d.End).Kind) ((d.End).A) ((d.End).To) ((d.End).N);have h:=(i64.wrap (((d.Code).length:Int) - 1));have z3:=((d.Code).getD h.toNat default);i/\aa (α:=Bool) (λy=>if z21 then(y z21)else(if x then(y x)else(if t then(y t)else(if q then(y q)else(if u then(y u)else(y (decide ((b.getD 0 default)=[116,114,97,112])))))))) (λT=>if T then(aa (α:=Bool) (λO=>if decide (5<=a.Where)then(O (!(decide (a.Where<=8))))else(O true)) (λv4=>if v4 then(KK ((true,3),a))else((a.P.Funcs.length<=4611686018427387904->((0:Int)<=f/\f < ((a.P.Funcs.length:Nat):Int))/\((c.Blocks).length<=4611686018427387904->((0:Int)<=e/\e < (((c.Blocks).length:Nat):Int))/\i/\if z21 then((qy b 4 true)/\aa (α:=Bool) (λI=>if !decide (a.Where=7)then(I true)else(if !((aA b 4 true).2)then(I true)else(g/\k/\I (!(fT [(b.getD 1 default),(b.getD 2 default)]))))) (λR=>if R then(KK ((true,3),a))else(r/\aa (α:=Bool) (λG=>if !(z20.2)then(G true)else(if decide (z20.1 < 0)then(G true)else(G (decide (1024<z20.1))))) (λV=>if V then(KK ((true,3),a))else(((d.Code).length<=4611686018427387904->((0:Int)<=h/\h < (((d.Code).length:Nat):Int))/\aa (α:=Bool) (λQ=>(((aA b 4 true).1).length<=4611686018427387904->if decide (16 < (((aA b 4 true).1).length:Int))then(Q true)else(Q (decide (16<=((z3.Frames).length:Int)))))) (λM=>if M then(KK ((true,2),a))else(aa (α:=Lt.Read) (λK=>have z4:=(((z3.Frames).length+z9.length<=4611686018427387904/\((z3.Frames).length+z9.length)*64<=140737488355328)/\f.toNat<a.P.Funcs.length/\e.toNat < (c.Blocks).length/\h.toNat < (d.Code).length/\f.toNat=f.toNat/\e.toNat=e.toNat/\h.toNat=h.toNat/\K (Lt.Read.mk (Lt.Program.mk a.P.SSA a.P.Classes a.P.Globals a.P.Externs (a.P.Funcs.set f.toNat (Lt.Func.mk (c.Name) (c.Result) (c.Params) (c.Vars) ((c.Blocks).set e.toNat (Lt.Block.mk (d.Name) (d.Phis) ((d.Code).set h.toNat (Lt.Instr.mk (z3.Op) (z3.Dst) (z3.Name) (z3.Args) ((z3.Frames)++z9) (z3.Objs))) z23))))) a.Where a.Long));g/\k/\z4/\z4) (λH=>KK ((true,0),H))))))))))else(if x then(aa (α:=Bool) (λl=>if decide (a.Where < 7)then(l true)else(if decide ((b.length:Int) < 2)then(l true)else(if decide (10 < (b.length:Int))then(l true)else(g/\l (!(fT [(b.getD 1 default)])))))) (λL=>if L then(KK ((true,3),a))else((0:Int)<=2/\(2<=b.length/\b.length<=b.length)/\(dE v true)/\if !((br v true).2)then(KK ((true,3),a))else(((d.Code).length<=4611686018427387904->((0:Int)<=h/\h < (((d.Code).length:Nat):Int))/\((z3.Objs).length<=4611686018427387904->aa (α:=Lt.Read) (λJ=>have z5:=(((z3.Objs).length+w.length<=4611686018427387904/\((z3.Objs).length+w.length)*40<=140737488355328)/\f.toNat<a.P.Funcs.length/\e.toNat < (c.Blocks).length/\h.toNat < (d.Code).length/\f.toNat=f.toNat/\e.toNat=e.toNat/\h.toNat=h.toNat/\J (Lt.Read.mk (Lt.Program.mk a.P.SSA a.P.Classes a.P.Globals a.P.Externs (a.P.Funcs.set f.toNat (Lt.Func.mk (c.Name) (c.Result) (c.Params) (c.Vars) ((c.Blocks).set e.toNat (Lt.Block.mk (d.Name) (d.Phis) ((d.Code).set h.toNat (Lt.Instr.mk (z3.Op) (z3.Dst) (z3.Name) (z3.Args) (z3.Frames) ((z3.Objs)++w))) z23))))) a.Where a.Long));g/\z5/\z5) (λF=>KK ((true,(cP ((z3.Objs).length:Int) 99)),(Lt.Read.mk F.P 8 F.Long)))))))))else(aa (α:=Bool×Int×Lt.Read) (λj=>aa (α:=Bool) (λp=>i/\if t then(if z24 then(g/\p (fT [(b.getD 1 default)]))else(p false))else(p false)) (λv20=>if v20 then(g/\f.toNat<a.P.Funcs.length/\e.toNat < (c.Blocks).length/\j (true,0,(Lt.Read.mk (Lt.Program.mk a.P.SSA a.P.Classes a.P.Globals a.P.Externs (a.P.Funcs.set f.toNat (Lt.Func.mk (c.Name) (c.Result) (c.Params) (c.Vars) ((c.Blocks).set e.toNat (Lt.Block.mk (d.Name) (d.Phis) (d.Code) (Lt.Term.mk 1 (Lt.Arg.mk 0 ([]:List UInt8) 0) [(b.getD 1 default)] 0)))))) 9 a.Long)))else(aa (α:=Unit) (λD=>aa (α:=Bool) (λo=>i/\if q then(if decide ((b.length:Int)=4)then(k/\r/\o (fT [(b.getD 2 default),(b.getD 3 default)]))else(o false))else(o false)) (λv24=>if v24 then((0:Int)<=1/\(0:Int)<=2/\(1<=2/\2<=b.length)/\(dE ((b.drop 1).take (2 - 1)) false)/\if s.2 then(((0:Int)<=0/\0 < (s.1).length)/\k/\r/\f.toNat<a.P.Funcs.length/\e.toNat < (c.Blocks).length/\j (true,0,(Lt.Read.mk (Lt.Program.mk a.P.SSA a.P.Classes a.P.Globals a.P.Externs (a.P.Funcs.set f.toNat (Lt.Func.mk (c.Name) (c.Result) (c.Params) (c.Vars) ((c.Blocks).set e.toNat (Lt.Block.mk (d.Name) (d.Phis) (d.Code) (Lt.Term.mk 2 ((s.1).getD 0 default) [(b.getD 2 default),(b.getD 3 default)] 0)))))) 9 a.Long)))else(D ()))else(D ()))) (λU=>aa (α:=Unit) (λC=>aa (α:=Bool) (λz=>i/\if u then(z z24)else(z false)) (λv28=>if v28 then((0:Int)<=1/\(1<=b.length/\b.length<=b.length)/\(dE m false)/\if (br m false).2 then(((0:Int)<=0/\0 < ((br m false).1).length)/\f.toNat<a.P.Funcs.length/\e.toNat < (c.Blocks).length/\j (true,0,(Lt.Read.mk (Lt.Program.mk a.P.SSA a.P.Classes a.P.Globals a.P.Externs (a.P.Funcs.set f.toNat (Lt.Func.mk (c.Name) (c.Result) (c.Params) (c.Vars) ((c.Blocks).set e.toNat (Lt.Block.mk (d.Name) (d.Phis) (d.Code) (Lt.Term.mk 3 (((br m false).1).getD 0 default) [] 0)))))) 9 a.Long)))else(C ()))else(C ()))) (λv26=>aa (α:=Unit) (λE=>aa (α:=Bool) (λB=>i/\if decide ((b.getD 0 default)=[116,114,97,112])then(B z24)else(B false)) (λv32=>if v32 then(g/\if (bd (b.getD 1 default)).2 then(f.toNat<a.P.Funcs.length/\e.toNat < (c.Blocks).length/\j (true,0,(Lt.Read.mk (Lt.Program.mk a.P.SSA a.P.Classes a.P.Globals a.P.Externs (a.P.Funcs.set f.toNat (Lt.Func.mk (c.Name) (c.Result) (c.Params) (c.Vars) ((c.Blocks).set e.toNat (Lt.Block.mk (d.Name) (d.Phis) (d.Code) (Lt.Term.mk 4 (Lt.Arg.mk 0 ([]:List UInt8) 0) [] ((bd (b.getD 1 default)).1))))))) 9 a.Long)))else(E ()))else(E ()))) (λS=>j (true,3,(Lt.Read.mk a.P 9 a.Long)))))))) (λn=>KK ((n.1,n.2.1),n.2.2)))))))))else(KK ((false,0),a)))
def GQ(a:Lt.Read)(b:List (List UInt8))(KK:((Int)×Lt.Read)->Prop):Prop:=have z5:=(i64.wrap ((a.P.Funcs.length:Int) - 1));have g:=(a.P.Funcs.getD z5.toNat default);have z3:=(i64.wrap (((g.Blocks).length:Int) - 1));have z9:=((0:Int)<=z3/\z3 < (((g.Blocks).length:Nat):Int));have i:=(g.Blocks).getD z3.toNat default;aa (α:=List (List UInt8)×Lt.Instr) (λz=>aa (α:=Bool) (λy=>(b.length<=4611686018427387904->if decide (2 < (b.length:Int))then(((0:Int)<=1/\1<b.length)/\y (decide ((b.getD 1 default)=[61])))else(y false))) (λv4=>if v4 then(((0:Int)<=0/\0<b.length)/\if !(fT [(b.getD 0 default)])then(KK (3,a))else(((0:Int)<=0/\0<b.length)/\(0:Int)<=2/\(2<=b.length/\b.length<=b.length)/\z (((b.drop 2).take (b.length - 2)),(Lt.Instr.mk 0 (b.getD 0 default) ([]:List UInt8) [] [] []))))else(z (b,(Lt.Instr.mk 0 ([]:List UInt8) ([]:List UInt8) [] [] []))))) (λc=>have m:=(c.1.drop 3).take (c.1.length - 3);have h:=([(c.1.getD 1 default)]:List (List UInt8));have d:=Lt.sOp (c.1.getD 0 default);((0:Int)<=0/\0<c.1.length)/\aa (α:=Bool) (λr=>if decide (5<=a.Where)then(if !(decide (a.Where<=8))then(r true)else(if !(d.2)then(r true)else(r (!(((Lt.rOf (d.1)).1).Dst==(!decide (c.2.Dst=([]:List UInt8))))))))else(r true)) (λC=>if C then(KK (3,a))else(aa (α:=List (List UInt8)×Lt.Instr) (λu=>aa (α:=Bool) (λB=>if decide (d.1=26)then(B true)else(B (decide (d.1=27)))) (λx=>if x then((c.1.length<=4611686018427387904->if decide ((c.1.length:Int) < 3)then(KK (3,a))else(((0:Int)<=2/\2<c.1.length)/\((0:Int)<=1/\1<c.1.length)/\(([]:List (List UInt8)).length+h.length<=4611686018427387904/\(([]:List (List UInt8)).length+h.length)*16<=140737488355328)/\(0:Int)<=3/\(3<=c.1.length/\c.1.length<=c.1.length)/\(h.length+m.length<=4611686018427387904/\(h.length+m.length)*16<=140737488355328)/\u ((h++m),(Lt.Instr.mk (d.1) c.2.Dst (c.1.getD 2 default) [] [] [])))))else(if ((Lt.rOf (d.1)).1).Named then((c.1.length<=4611686018427387904->if decide ((c.1.length:Int) < 2)then(KK (3,a))else(((0:Int)<=1/\1<c.1.length)/\(0:Int)<=2/\(2<=c.1.length/\c.1.length<=c.1.length)/\u (((c.1.drop 2).take (c.1.length - 2)),(Lt.Instr.mk (d.1) c.2.Dst (c.1.getD 1 default) [] [] [])))))else((0:Int)<=1/\(1<=c.1.length/\c.1.length<=c.1.length)/\u (((c.1.drop 1).take (c.1.length - 1)),(Lt.Instr.mk (d.1) c.2.Dst c.2.Name [] [] [])))))) (λl=>have j:=(((br l.1 false).1).length:Int);have s:=([(Lt.Instr.mk l.2.Op l.2.Dst l.2.Name ((br l.1 false).1) [] [])]:List Lt.Instr);have n:=(i.Code).length+s.length<=4611686018427387904/\((i.Code).length+s.length)*112<=140737488355328;have z4:=(Lt.Read.mk (Lt.Program.mk a.P.SSA a.P.Classes a.P.Globals a.P.Externs (a.P.Funcs.set z5.toNat (Lt.Func.mk (g.Name) (g.Result) (g.Params) (g.Vars) ((g.Blocks).set z3.toNat (Lt.Block.mk (i.Name) (i.Phis) ((i.Code)++s) (Lt.Term.mk ((i.End).Kind) ((i.End).A) ((i.End).To) ((i.End).N))))))) a.Where (i64.wrap (a.Long+1)));(dE l.1 false)/\aa (α:=Bool) (λe=>if !((br l.1 false).2)then(e true)else(if ((Lt.rOf (d.1)).1).Named then(if !(fT [l.2.Name])then(e true)else(if decide (j < ((Lt.rOf (d.1)).1).Least)then(e true)else(e (decide (((Lt.rOf (d.1)).1).Most<j)))))else(if decide (j < ((Lt.rOf (d.1)).1).Least)then(e true)else(e (decide (((Lt.rOf (d.1)).1).Most<j)))))) (λv=>if v then(KK (3,a))else(if decide (1024<=a.Long)then(KK (2,a))else((a.P.Funcs.length<=4611686018427387904->((0:Int)<=z5/\z5 < ((a.P.Funcs.length:Nat):Int))/\((g.Blocks).length<=4611686018427387904->aa (α:=Lt.Read) (λo=>have f:=(n/\z9/\z5.toNat<a.P.Funcs.length/\z3.toNat < (g.Blocks).length/\z5.toNat=z5.toNat/\z3.toNat=z3.toNat/\o z4);((z9/\f/\f)/\(z9/\n/\z9/\z5.toNat<a.P.Funcs.length/\z3.toNat < (g.Blocks).length/\z5.toNat=z5.toNat/\z3.toNat=z3.toNat/\o z4))/\(z9/\(f/\f)/\(f/\(f/\f))/\(f/\f))/\(z9/\f/\f)) (λk=>aa (α:=Lt.Read) (λp=>aa (α:=Bool) (λq=>if decide (d.1=31)then(q true)else(q (decide (d.1=34)))) (λt=>if t then(p (Lt.Read.mk k.P 7 k.Long))else(p (Lt.Read.mk k.P 6 k.Long)))) (λw=>KK (0,w))))))))))))
def GV(b:Lt.Read)(a:List (List UInt8))(c:Bool)(KK:((Int)×Lt.Read)->Prop):Prop:=have e:=Lt.Read.mk (((aV b a).2).P) (((aV b a).2).Where) (((aV b a).2).Long);aa (α:=Bool) (λl=>(a.length<=4611686018427387904->if decide (2 < (a.length:Int))then(((0:Int)<=1/\1<a.length)/\l (decide ((a.getD 1 default)=[61])))else(l false))) (λn=>if n then((iS b a)/\KK (((bD b a).1),(Lt.Read.mk (((bD b a).2).P) (((bD b a).2).Where) (((bD b a).2).Long))))else(((0:Int)<=0/\0<a.length)/\if decide ((a.getD 0 default)=[115,115,97])then(aa (α:=Bool) (λj=>if !c then(j true)else(j (!decide ((a.length:Int)=1)))) (λv4=>if v4 then(KK (3,b))else(KK (0,(Lt.Read.mk (Lt.Program.mk true b.P.Classes b.P.Globals b.P.Externs b.P.Funcs) b.Where b.Long)))))else((iS b a)/\aa (α:=Bool×Int×Lt.Read) (λi=>if !((aV b a).1.1)then((iS e a)/\i ((bg e a).1.1,(bg e a).1.2,(Lt.Read.mk (((bg e a).2).P) (((bg e a).2).Where) (((bg e a).2).Long))))else(i ((aV b a).1.1,(aV b a).1.2,e))) (λf=>have h:=aT f.2.2 a;aa (α:=Bool×Int×Lt.Read) (λk=>if !f.1 then((iS f.2.2 a)/\k (h.1.1,h.1.2,(Lt.Read.mk ((h.2).P) ((h.2).Where) ((h.2).Long))))else(k (f.1,f.2.1,f.2.2))) (λd=>aa (α:=Int×Lt.Read) (λm=>if !d.1 then((iS d.2.2 a)/\m ((bD d.2.2 a).1,(Lt.Read.mk (((bD d.2.2 a).2).P) (((bD d.2.2 a).2).Where) (((bD d.2.2 a).2).Long))))else(m (d.2.1,d.2.2))) (λg=>KK (g.1,g.2)))))))
def GZ(b:List UInt8)(KK:(List Lt.RLine×Int×Int)->Prop):Prop:=(b.length<=4611686018427387904->if decide (4194304 < (b.length:Int))then(KK ([],0,2))else(ab (α:=List Lt.RLine×List (List UInt8)×List UInt8×Int×Bool×Bool×Int) (λu a=>have z3:=([(b.getD a.2.2.2.2.2.2.toNat 0)]:List UInt8);have g:=(((b.getD a.2.2.2.2.2.2.toNat 0).toNat:Nat):Int);have e:=(0<=a.2.2.2.2.2.2/\a.2.2.2.2.2.2.toNat<b.length);(b.length<=4611686018427387904->if decide (a.2.2.2.2.2.2<=(b.length:Int))then(aa (α:=List Lt.RLine×List (List UInt8)×List UInt8×Int×Bool×Bool) (λp=>aa (α:=Bool) (λs=>(b.length<=4611686018427387904->if decide (a.2.2.2.2.2.2=(b.length:Int))then(s true)else(e/\s (decide (g=(((10:UInt8).toNat:Nat):Int)))))) (λl=>aa (α:=Bool) (λq=>aa (α:=Bool) (λr=>if !l then(e/\r (decide (g=(((59:UInt8).toNat:Nat):Int))))else(r false)) (λo=>if o then(q true)else(q a.2.2.2.2.1))) (λt=>aa (α:=List (List UInt8)×List UInt8×Bool) (λj=>aa (α:=Bool) (λd=>if l then(d true)else(if t then(d true)else(e/\if decide (g=(((32:UInt8).toNat:Nat):Int))then(d true)else(e/\d (decide (g=(((9:UInt8).toNat:Nat):Int))))))) (λm=>if m then(aa (α:=List (List UInt8)) (λi=>(a.2.2.1.length<=4611686018427387904->if decide (0 < (a.2.2.1.length:Int))then((a.2.1.length+([a.2.2.1]:List (List UInt8)).length<=4611686018427387904/\(a.2.1.length+([a.2.2.1]:List (List UInt8)).length)*16<=140737488355328)/\i (a.2.1++([a.2.2.1]:List (List UInt8))))else(i a.2.1))) (λn=>j (n,[],a.2.2.2.2.2.1)))else(aa (α:=Bool) (λf=>if a.2.2.2.2.2.1 then(f true)else(e/\if decide (g < (((33:UInt8).toNat:Nat):Int))then(f true)else(e/\f (decide ((((126:UInt8).toNat:Nat):Int)<g))))) (λk=>e/\(a.2.2.1.length+z3.length<=4611686018427387904/\(a.2.2.1.length+z3.length)*1<=140737488355328)/\j (a.2.1,(a.2.2.1++z3),k))))) (λc=>have z4:=([(Lt.RLine.mk a.2.2.2.1 c.1)]:List Lt.RLine);if l then(if c.2.2 then(KK ([],a.2.2.2.1,3))else(aa (α:=List Lt.RLine) (λh=>(c.1.length<=4611686018427387904->if decide (0 < (c.1.length:Int))then((a.1.length+z4.length<=4611686018427387904/\(a.1.length+z4.length)*32<=140737488355328)/\h (a.1++z4))else(h a.1))) (λv20=>p (v20,[],c.2.1,(i64.wrap (a.2.2.2.1+1)),false,c.2.2))))else(p (a.1,c.1,c.2.1,a.2.2.2.1,t,c.2.2)))))) (λv4=>u (v4.1,v4.2.1,v4.2.2.1,v4.2.2.2.1,v4.2.2.2.2.1,v4.2.2.2.2.2,(i64.wrap (a.2.2.2.2.2.2+1)))))else(KK (a.1,0,0)))) ([],[],[],1,false,false,0)))
def GX(a:List UInt8)(KK:(Lt.Program×Int×Int)->Prop):Prop:=have d:=Lt.Program.mk false [] [] [] [];if !decide ((bQ a).2.2=0)then(KK (d,(bQ a).2.1,(bQ a).2.2))else(ab (α:=Int×Lt.Read) (λf b=>have z3:=((bQ a).1).getD b.1.toNat default;have c:=aG b.2 (z3.Words) (decide (b.1=0));(((bQ a).1).length<=4611686018427387904->if decide (b.1 < (((bQ a).1).length:Int))then((0<=b.1/\b.1.toNat < ((bQ a).1).length)/\(KW b.2 (z3.Words) (decide (b.1=0)))/\if !decide (c.1=0)then((0<=b.1/\b.1.toNat < ((bQ a).1).length)/\KK (d,z3.N,c.1))else(f ((i64.wrap (b.1+1)),(Lt.Read.mk ((c.2).P) ((c.2).Where) ((c.2).Long)))))else(aa (α:=Bool) (λe=>if decide (b.2.Where<=2)then(e false)else(e (!(decide (b.2.Where=9))))) (λv4=>if v4 then(KK (d,0,3))else(KK (b.2.P,0,0)))))) (0,(Lt.Read.mk d 0 0)))
def aaG(a:Lt.Program)(KK:Bool->Prop):Prop:=(nP a)/\if decide ((dI (jx a)).2.2=0)then(KK (Lt.Same a ((dI (jx a)).1)))else(KK false)
def L6(a:List Lt.Var)(b:List Lt.Var)(KK:Bool->Prop):Prop:=(a.length<=4611686018427387904->(b.length<=4611686018427387904->if !decide ((a.length:Int)=(b.length:Int))then(KK false)else(ab (α:=Int) (λd c=>(a.length<=4611686018427387904->if decide (c < (a.length:Int))then((0<=c/\c.toNat<a.length)/\(0<=c/\c.toNat<b.length)/\if !(decide ((a.getD c.toNat default).Name=(b.getD c.toNat default).Name)&&decide ((a.getD c.toNat default).Type_=(b.getD c.toNat default).Type_))then(KK false)else(d (i64.wrap (c+1))))else(KK true))) 0)))
def L5(a:List Lt.Arg)(b:List Lt.Arg)(KK:Bool->Prop):Prop:=(a.length<=4611686018427387904->(b.length<=4611686018427387904->if !decide ((a.length:Int)=(b.length:Int))then(KK false)else(ab (α:=Int) (λd c=>(a.length<=4611686018427387904->if decide (c < (a.length:Int))then((0<=c/\c.toNat<a.length)/\(0<=c/\c.toNat<b.length)/\if !(decide ((a.getD c.toNat default).Kind=(b.getD c.toNat default).Kind)&&(decide ((a.getD c.toNat default).S=(b.getD c.toNat default).S)&&decide ((a.getD c.toNat default).N=(b.getD c.toNat default).N)))then(KK false)else(d (i64.wrap (c+1))))else(KK true))) 0)))
def xn(a:Lt.Instr)(b:Lt.Instr)(KK:Bool->Prop):Prop:=aa (α:=Bool) (λf=>if !decide (a.Op=b.Op)then(f true)else(if !decide (a.Dst=b.Dst)then(f true)else(if !decide (a.Name=b.Name)then(f true)else(if !(qG a.Args b.Args)then(f true)else(if !decide ((a.Frames.length:Int)=(b.Frames.length:Int))then(f true)else(f (!decide ((a.Objs.length:Int)=(b.Objs.length:Int))))))))) (λm=>if m then(KK false)else(ab (α:=Int) (λk v4=>have g:=b.Frames.getD v4.toNat default;have d:=a.Frames.getD v4.toNat default;(a.Frames.length<=4611686018427387904->if decide (v4 < (a.Frames.length:Int))then((0<=v4/\v4.toNat<a.Frames.length)/\(0<=v4/\v4.toNat<b.Frames.length)/\aa (α:=Bool) (λi=>if !decide (d.Func=g.Func)then(i true)else(if !decide (d.Block=g.Block)then(i true)else(if !decide (d.At=g.At)then(i true)else(i (!decide (((d.Vars).length:Int)=((g.Vars).length:Int))))))) (λn=>if n then(KK false)else(ab (α:=Int) (λo e=>have z4:=(g.Vars).getD e.toNat default;have z3:=(d.Vars).getD e.toNat default;((d.Vars).length<=4611686018427387904->if decide (e < ((d.Vars).length:Int))then((0<=e/\e.toNat < (d.Vars).length)/\(0<=e/\e.toNat < (g.Vars).length)/\if !(decide (z3.Name=z4.Name)&&(decide ((z3.A).Kind=(z4.A).Kind)&&(decide ((z3.A).S=(z4.A).S)&&decide ((z3.A).N=(z4.A).N))))then(KK false)else(o (i64.wrap (e+1))))else(k (i64.wrap (v4+1))))) 0)))else(ab (α:=Int) (λl c=>(a.Objs.length<=4611686018427387904->if decide (c < (a.Objs.length:Int))then(aa (α:=Bool) (λh=>(0<=c/\c.toNat<a.Objs.length)/\(0<=c/\c.toNat<b.Objs.length)/\if !decide ((a.Objs.getD c.toNat default).Class=(b.Objs.getD c.toNat default).Class)then(h true)else((0<=c/\c.toNat<a.Objs.length)/\(0<=c/\c.toNat<b.Objs.length)/\h (!(qG ((a.Objs.getD c.toNat default).Vals) ((b.Objs.getD c.toNat default).Vals))))) (λj=>if j then(KK false)else(l (i64.wrap (c+1)))))else(KK true))) 0))) 0))
def xq(a:Lt.Block)(b:Lt.Block)(KK:Bool->Prop):Prop:=aa (α:=Bool) (λf=>if !decide (a.Name=b.Name)then(f true)else(if !decide ((a.Phis.length:Int)=(b.Phis.length:Int))then(f true)else(if !decide ((a.Code.length:Int)=(b.Code.length:Int))then(f true)else(if !decide (a.End.Kind=b.End.Kind)then(f true)else(if !(decide (a.End.A.Kind=b.End.A.Kind)&&(decide (a.End.A.S=b.End.A.S)&&decide (a.End.A.N=b.End.A.N)))then(f true)else(if !decide (a.End.N=b.End.N)then(f true)else(f (!decide ((a.End.To.length:Int)=(b.End.To.length:Int)))))))))) (λn=>if n then(KK false)else(ab (α:=Int) (λl v4=>(a.End.To.length<=4611686018427387904->if decide (v4 < (a.End.To.length:Int))then((0<=v4/\v4.toNat<a.End.To.length)/\(0<=v4/\v4.toNat<b.End.To.length)/\if !decide ((a.End.To.getD v4.toNat default)=(b.End.To.getD v4.toNat default))then(KK false)else(l (i64.wrap (v4+1))))else(ab (α:=Int) (λp e=>have z5:=(0<=e/\e.toNat<b.Phis.length);have z4:=b.Phis.getD e.toNat default;have z3:=(0<=e/\e.toNat<a.Phis.length);have g:=(a.Phis.getD e.toNat default).Ins;(a.Phis.length<=4611686018427387904->if decide (e < (a.Phis.length:Int))then(aa (α:=Bool) (λk=>z3/\z5/\if !decide ((a.Phis.getD e.toNat default).Dst=z4.Dst)then(k true)else(z3/\z5/\k (!decide ((g.length:Int)=((z4.Ins).length:Int))))) (λo=>if o then(KK false)else(ab (α:=Int) (λm d=>have h:=g.getD d.toNat default;have i:=(z4.Ins).getD d.toNat default;z3/\(g.length<=4611686018427387904->if decide (d < (g.length:Int))then(z3/\(0<=d/\d.toNat<g.length)/\z5/\(0<=d/\d.toNat < (z4.Ins).length)/\if !(decide (h.Block=i.Block)&&(decide ((h.A).Kind=(i.A).Kind)&&(decide ((h.A).S=(i.A).S)&&decide ((h.A).N=(i.A).N))))then(KK false)else(m (i64.wrap (d+1))))else(p (i64.wrap (e+1))))) 0)))else(ab (α:=Int) (λj c=>(a.Code.length<=4611686018427387904->if decide (c < (a.Code.length:Int))then((0<=c/\c.toNat<a.Code.length)/\(0<=c/\c.toNat<b.Code.length)/\if !(qY (a.Code.getD c.toNat default) (b.Code.getD c.toNat default))then(KK false)else(j (i64.wrap (c+1))))else(KK true))) 0))) 0))) 0))
def yV(a:Lt.Func)(b:Lt.Func)(KK:Bool->Prop):Prop:=aa (α:=Bool) (λe=>if !decide (a.Name=b.Name)then(e true)else(if !decide (a.Result=b.Result)then(e true)else(if !(jW a.Params b.Params)then(e true)else(if !(jW a.Vars b.Vars)then(e true)else(e (!decide ((a.Blocks.length:Int)=(b.Blocks.length:Int)))))))) (λg=>if g then(KK false)else(ab (α:=Int) (λf v4=>have d:=b.Blocks.getD v4.toNat default;have c:=a.Blocks.getD v4.toNat default;(a.Blocks.length<=4611686018427387904->if decide (v4 < (a.Blocks.length:Int))then((0<=v4/\v4.toNat<a.Blocks.length)/\(0<=v4/\v4.toNat<b.Blocks.length)/\if !(r8 (Lt.Block.mk (c.Name) (c.Phis) (c.Code) (Lt.Term.mk ((c.End).Kind) ((c.End).A) ((c.End).To) ((c.End).N))) (Lt.Block.mk (d.Name) (d.Phis) (d.Code) (Lt.Term.mk ((d.End).Kind) ((d.End).A) ((d.End).To) ((d.End).N))))then(KK false)else(f (i64.wrap (v4+1))))else(KK true))) 0))
def VG(a:Lt.Program)(b:Lt.Program)(KK:Bool->Prop):Prop:=aa (α:=Bool) (λe=>if !(a.SSA==b.SSA)then(e true)else(if !decide ((a.Classes.length:Int)=(b.Classes.length:Int))then(e true)else(if !(jW a.Globals b.Globals)then(e true)else(if !decide ((a.Externs.length:Int)=(b.Externs.length:Int))then(e true)else(e (!decide ((a.Funcs.length:Int)=(b.Funcs.length:Int)))))))) (λi=>if i then(KK false)else(ab (α:=Int) (λg v4=>(a.Classes.length<=4611686018427387904->if decide (v4 < (a.Classes.length:Int))then(aa (α:=Bool) (λf=>(0<=v4/\v4.toNat<a.Classes.length)/\(0<=v4/\v4.toNat<b.Classes.length)/\if !decide ((a.Classes.getD v4.toNat default).Name=(b.Classes.getD v4.toNat default).Name)then(f true)else((0<=v4/\v4.toNat<a.Classes.length)/\(0<=v4/\v4.toNat<b.Classes.length)/\f (!(jW ((a.Classes.getD v4.toNat default).Fields) ((b.Classes.getD v4.toNat default).Fields))))) (λj=>if j then(KK false)else(g (i64.wrap (v4+1)))))else(ab (α:=Int) (λk d=>(a.Externs.length<=4611686018427387904->if decide (d < (a.Externs.length:Int))then((0<=d/\d.toNat<a.Externs.length)/\(0<=d/\d.toNat<b.Externs.length)/\if !(decide ((a.Externs.getD d.toNat default).Name=(b.Externs.getD d.toNat default).Name)&&decide ((a.Externs.getD d.toNat default).N=(b.Externs.getD d.toNat default).N))then(KK false)else(k (i64.wrap (d+1))))else(ab (α:=Int) (λh c=>(a.Funcs.length<=4611686018427387904->if decide (c < (a.Funcs.length:Int))then((0<=c/\c.toNat<a.Funcs.length)/\(0<=c/\c.toNat<b.Funcs.length)/\if !(ut (a.Funcs.getD c.toNat default) (b.Funcs.getD c.toNat default))then(KK false)else(h (i64.wrap (c+1))))else(KK true))) 0))) 0))) 0))
def VO(a:Lt.Func)(b:List UInt8)(KK:(Int×Bool)->Prop):Prop:=ab (α:=Int) (λd c=>(a.Blocks.length<=4611686018427387904->if decide (c < (a.Blocks.length:Int))then((0<=c/\c.toNat<a.Blocks.length)/\if decide ((a.Blocks.getD c.toNat default).Name=b)then(KK (c,true))else(d (i64.wrap (c+1))))else(KK (0,false)))) 0
def GD(b:Lt.Func)(a:Int)(c:Int)(KK:Bool->Prop):Prop:=ab (α:=Int) (λf d=>(0<=a/\a.toNat<b.Blocks.length)/\((((b.Blocks.getD a.toNat default).End).To).length<=4611686018427387904->if decide (d < ((((b.Blocks.getD a.toNat default).End).To).length:Int))then((0<=a/\a.toNat<b.Blocks.length)/\(0<=d/\d.toNat < (((b.Blocks.getD a.toNat default).End).To).length)/\aa (α:=Bool) (λe=>if (aR b ((((b.Blocks.getD a.toNat default).End).To).getD d.toNat default)).2 then(e (decide ((aR b ((((b.Blocks.getD a.toNat default).End).To).getD d.toNat default)).1=c)))else(e false)) (λv4=>if v4 then(KK true)else(f (i64.wrap (d+1)))))else(KK false))) 0
def Pt(b:Lt.Func)(KK:(List Bool)->Prop):Prop:=have c:=(b.Blocks.length:Int);(b.Blocks.length<=4611686018427387904->((0:Int)<=c/\c<=4611686018427387904/\1*c.toNat<=281474976710656)/\((List.replicate c.toNat (dflt .bo)).length<=4611686018427387904->ab (α:=List Bool×Bool) (λj d=>if d.2 then(((0:Int)<=0/\0 < ((d.1.length:Nat):Int))/\0<d.1.length/\ab (α:=List Bool×Bool×Int) (λk v4=>(v4.1.length<=4611686018427387904->if decide (v4.2.2 < (v4.1.length:Int))then(ab (α:=List Bool×Bool×Int) (λl a=>aa (α:=Bool) (λh=>(a.1.length<=4611686018427387904->if decide (a.2.2 < (a.1.length:Int))then(((0:Int)<=v4.2.2/\v4.2.2 < ((a.1.length:Nat):Int))/\h (a.1.getD v4.2.2.toNat default))else(h false))) (λm=>if m then(aa (α:=List Bool×Bool) (λi=>aa (α:=Bool) (λe=>((0:Int)<=a.2.2/\a.2.2 < ((a.1.length:Nat):Int))/\if !(a.1.getD a.2.2.toNat default)then((rV b v4.2.2 a.2.2)/\e (ql b v4.2.2 a.2.2))else(e false)) (λg=>if g then(((0:Int)<=a.2.2/\a.2.2 < ((a.1.length:Nat):Int))/\a.2.2.toNat<a.1.length/\i ((a.1.set a.2.2.toNat true),true))else(i (a.1,a.2.1)))) (λf=>l (f.1,f.2,(i64.wrap (a.2.2+1)))))else(k (a.1,a.2.1,(i64.wrap (v4.2.2+1)))))) (v4.1,v4.2.1,0))else(j (v4.1,v4.2.1)))) ((d.1.set 0 true),false,0))else(KK d.1)) ((List.replicate c.toNat (dflt .bo)),(decide (0 < ((List.replicate c.toNat (dflt .bo)).length:Int))))))
def GP(a:Lt.Func)(KK:Bool->Prop):Prop:=ab (α:=Int) (λi d=>have c:=((a.Blocks.getD d.toNat default).End).To;(a.Blocks.length<=4611686018427387904->if decide (d < (a.Blocks.length:Int))then((0<=d/\d.toNat<a.Blocks.length)/\if !decide ((aR a ((a.Blocks.getD d.toNat default).Name)).1=d)then(KK false)else((0<=d/\d.toNat<a.Blocks.length)/\ab (α:=Int) (λj v4=>(c.length<=4611686018427387904->if decide (v4 < (c.length:Int))then((0<=v4/\v4.toNat<c.length)/\aa (α:=Bool) (λh=>if !((aR a (c.getD v4.toNat default)).2)then(h true)else(h (decide ((aR a (c.getD v4.toNat default)).1=0)))) (λk=>if k then(KK false)else(ab (α:=Int) (λl f=>if decide (f<v4)then((0<=f/\f.toNat<c.length)/\(0<=v4/\v4.toNat<c.length)/\if decide ((c.getD f.toNat default)=(c.getD v4.toNat default))then(KK false)else(l (i64.wrap (f+1))))else(j (i64.wrap (v4+1)))) 0)))else(i (i64.wrap (d+1))))) 0))else((KU a)/\(∀e:List Bool,DW a e->ab (α:=Int) (λg b=>(e.length<=4611686018427387904->if decide (b < (e.length:Int))then((0<=b/\b.toNat<e.length)/\if !(e.getD b.toNat default)then(KK false)else(g (i64.wrap (b+1))))else((e.length<=4611686018427387904->KK (decide (0 < (e.length:Int))))))) 0)))) 0
def GJ(a:List (List UInt8))(b:List UInt8)(KK:(List (List UInt8))->Prop):Prop:=ab (α:=List (List UInt8)×Int) (λi c=>have f:=([(a.getD c.2.toNat default)]:List (List UInt8));(a.length<=4611686018427387904->if decide (c.2 < (a.length:Int))then(aa (α:=List (List UInt8)) (λg=>(0<=c.2/\c.2.toNat<a.length)/\if Op.bytesLess (a.getD c.2.toNat default) b then((0<=c.2/\c.2.toNat<a.length)/\(c.1.length+f.length<=4611686018427387904/\(c.1.length+f.length)*16<=140737488355328)/\g (c.1++f))else(g c.1)) (λv4=>i (v4,(i64.wrap (c.2+1)))))else((c.1.length+([b]:List (List UInt8)).length<=4611686018427387904/\(c.1.length+([b]:List (List UInt8)).length)*16<=140737488355328)/\ab (α:=List (List UInt8)×Int) (λk d=>have e:=a.getD d.2.toNat default;(a.length<=4611686018427387904->if decide (d.2 < (a.length:Int))then(aa (α:=List (List UInt8)) (λh=>(0<=d.2/\d.2.toNat<a.length)/\if !(Op.bytesLess e b||decide (e=b))then((0<=d.2/\d.2.toNat<a.length)/\(d.1.length+([e]:List (List UInt8)).length<=4611686018427387904/\(d.1.length+([e]:List (List UInt8)).length)*16<=140737488355328)/\h (d.1++([e]:List (List UInt8))))else(h d.1)) (λj=>k (j,(i64.wrap (d.2+1)))))else(KK d.1))) ((c.1++([b]:List (List UInt8))),0)))) ([],0)
def GI(a:List (List UInt8))(b:Lt.Arg)(KK:(List (List UInt8))->Prop):Prop:=if decide (b.Kind=1)then((Zk a b.S)/\(∀c:List (List UInt8),QS a b.S c->KK c))else(KK a)
def CM(a:Lt.Instr)(KK:(List (List UInt8))->Prop):Prop:=ab (α:=List (List UInt8)×Int) (λl d=>(a.Args.length<=4611686018427387904->if decide (d.2 < (a.Args.length:Int))then((0<=d.2/\d.2.toNat<a.Args.length)/\(yE d.1 (a.Args.getD d.2.toNat default))/\(∀j:List (List UInt8),rU d.1 (a.Args.getD d.2.toNat default) j->l (j,(i64.wrap (d.2+1)))))else(ab (α:=List (List UInt8)×Int) (λo v5=>have f:=(a.Frames.getD v5.2.toNat default).Vars;(a.Frames.length<=4611686018427387904->if decide (v5.2 < (a.Frames.length:Int))then(ab (α:=List (List UInt8)×Int) (λn e=>(0<=v5.2/\v5.2.toNat<a.Frames.length)/\(f.length<=4611686018427387904->if decide (e.2 < (f.length:Int))then((0<=v5.2/\v5.2.toNat<a.Frames.length)/\(0<=e.2/\e.2.toNat<f.length)/\(yE e.1 ((f.getD e.2.toNat default).A))/\(∀k:List (List UInt8),rU e.1 ((f.getD e.2.toNat default).A) k->n (k,(i64.wrap (e.2+1)))))else(o (e.1,(i64.wrap (v5.2+1)))))) (v5.1,0))else(ab (α:=List (List UInt8)×Int) (λm c=>have h:=(a.Objs.getD c.2.toNat default).Vals;(a.Objs.length<=4611686018427387904->if decide (c.2 < (a.Objs.length:Int))then(ab (α:=List (List UInt8)×Int) (λi b=>(0<=c.2/\c.2.toNat<a.Objs.length)/\(h.length<=4611686018427387904->if decide (b.2 < (h.length:Int))then((0<=c.2/\c.2.toNat<a.Objs.length)/\(0<=b.2/\b.2.toNat<h.length)/\(yE b.1 (h.getD b.2.toNat default))/\(∀g:List (List UInt8),rU b.1 (h.getD b.2.toNat default) g->i (g,(i64.wrap (b.2+1)))))else(m (b.1,(i64.wrap (c.2+1)))))) (c.1,0))else(KK c.1))) (v5.1,0)))) (d.1,0)))) ([],0)
def L2(a:Lt.Func)(c:List UInt8)(KK:Bool->Prop):Prop:=ab (α:=Int) (λd b=>(a.Params.length<=4611686018427387904->if decide (b < (a.Params.length:Int))then((0<=b/\b.toNat<a.Params.length)/\if decide ((a.Params.getD b.toNat default).Name=c)then(KK true)else(d (i64.wrap (b+1))))else(KK false))) 0
def CO(a:Lt.Block)(c:Int)(b:List UInt8)(KK:Bool->Prop):Prop:=ab (α:=Int) (λf d=>if decide (d<c)then(aa (α:=Bool) (λe=>if !decide (b=([]:List UInt8))then((0<=d/\d.toNat<a.Code.length)/\e (decide ((a.Code.getD d.toNat default).Dst=b)))else(e false)) (λv4=>if v4 then(KK true)else(f (i64.wrap (d+1)))))else(KK false)) 0
def VP(a:Lt.Block)(c:List UInt8)(KK:Bool->Prop):Prop:=ab (α:=Int) (λd b=>(a.Phis.length<=4611686018427387904->if decide (b < (a.Phis.length:Int))then((0<=b/\b.toNat<a.Phis.length)/\if decide ((a.Phis.getD b.toNat default).Dst=c)then(KK true)else(d (i64.wrap (b+1))))else(KK false))) 0
def CN(a:Lt.Func)(d:List UInt8)(KK:(List Bool)->Prop):Prop:=have z4:=a.Blocks.getD 0 default;have e:=(a.Blocks.length:Int);have p:=((0:Int)<=0/\0 < (((List.replicate e.toNat (dflt .bo)).length:Nat):Int));(a.Blocks.length<=4611686018427387904->((0:Int)<=e/\e<=4611686018427387904/\1*e.toNat<=281474976710656)/\aa (α:=List Bool) (λn=>if !(qA a d)then(((0:Int)<=0/\0<a.Blocks.length)/\p/\0 < (List.replicate e.toNat (dflt .bo)).length/\n ((List.replicate e.toNat (dflt .bo)).set 0 (!(wV (Lt.Block.mk (z4.Name) (z4.Phis) (z4.Code) (Lt.Term.mk ((z4.End).Kind) ((z4.End).A) ((z4.End).To) ((z4.End).N))) d))))else(p/\0 < (List.replicate e.toNat (dflt .bo)).length/\n ((List.replicate e.toNat (dflt .bo)).set 0 false))) (λs=>ab (α:=List Bool×Int) (λq v4=>(a.Blocks.length<=4611686018427387904->if decide (v4.2<e)then(ab (α:=List Bool×Int) (λr c=>have f:=a.Blocks.getD c.2.toNat default;have z5:=Lt.Block.mk (f.Name) (f.Phis) (f.Code) (Lt.Term.mk ((f.End).Kind) ((f.End).A) ((f.End).To) ((f.End).N));(a.Blocks.length<=4611686018427387904->if decide (c.2<e)then(aa (α:=List Bool) (λm=>aa (α:=Bool) (λo=>((0:Int)<=c.2/\c.2 < ((c.1.length:Nat):Int))/\if !(c.1.getD c.2.toNat default)then(o true)else((0<=c.2/\c.2.toNat<a.Blocks.length)/\(0<=c.2/\c.2.toNat<a.Blocks.length)/\(yF z5 ((f.Code).length:Int) d)/\o (rX z5 ((f.Code).length:Int) d))) (λl=>if l then(m c.1)else(ab (α:=List Bool×Int) (λk b=>have z3:=a.Blocks.getD b.2.toNat default;(a.Blocks.length<=4611686018427387904->if decide (b.2<e)then(aa (α:=List Bool) (λg=>aa (α:=Bool) (λh=>(rV a c.2 b.2)/\if ql a c.2 b.2 then((0<=b.2/\b.2.toNat<a.Blocks.length)/\h (!(wV (Lt.Block.mk (z3.Name) (z3.Phis) (z3.Code) (Lt.Term.mk ((z3.End).Kind) ((z3.End).A) ((z3.End).To) ((z3.End).N))) d)))else(h false)) (λj=>if j then(((0:Int)<=b.2/\b.2 < ((b.1.length:Nat):Int))/\b.2.toNat<b.1.length/\g (b.1.set b.2.toNat true))else(g b.1))) (λi=>k (i,(i64.wrap (b.2+1)))))else(m b.1))) (c.1,0)))) (λt=>r (t,(i64.wrap (c.2+1)))))else(q (c.1,(i64.wrap (v4.2+1)))))) (v4.1,0))else(KK v4.1))) (s,0)))
def L1(b:Lt.Func)(a:Int)(d:Int)(c:List UInt8)(KK:Bool->Prop):Prop:=(FO b c)/\(∀e:List Bool,KR b c e->(0<=a/\a.toNat<e.length)/\if !(e.getD a.toNat default)then(KK true)else((0<=a/\a.toNat<b.Blocks.length)/\(yF (Lt.Block.mk ((b.Blocks.getD a.toNat default).Name) ((b.Blocks.getD a.toNat default).Phis) ((b.Blocks.getD a.toNat default).Code) (Lt.Term.mk (((b.Blocks.getD a.toNat default).End).Kind) (((b.Blocks.getD a.toNat default).End).A) (((b.Blocks.getD a.toNat default).End).To) (((b.Blocks.getD a.toNat default).End).N))) d c)/\KK (rX (Lt.Block.mk ((b.Blocks.getD a.toNat default).Name) ((b.Blocks.getD a.toNat default).Phis) ((b.Blocks.getD a.toNat default).Code) (Lt.Term.mk (((b.Blocks.getD a.toNat default).End).Kind) (((b.Blocks.getD a.toNat default).End).A) (((b.Blocks.getD a.toNat default).End).To) (((b.Blocks.getD a.toNat default).End).N))) d c)))
def yZ(a:Lt.Func)(KK:Bool->Prop):Prop:=ab (α:=Int) (λn d=>have b:=a.Blocks.getD d.toNat default;(a.Blocks.length<=4611686018427387904->if decide (d < (a.Blocks.length:Int))then((0<=d/\d.toNat<a.Blocks.length)/\ab (α:=Int) (λo v4=>((b.Code).length<=4611686018427387904->if decide (v4 < ((b.Code).length:Int))then((0<=v4/\v4.toNat < (b.Code).length)/\(iT ((b.Code).getD v4.toNat default))/\(∀h:List (List UInt8),vj ((b.Code).getD v4.toNat default) h->ab (α:=Int) (λp i=>(h.length<=4611686018427387904->if decide (i < (h.length:Int))then((0<=i/\i.toNat<h.length)/\(qx a d v4 (h.getD i.toNat default))/\if !(gF a d v4 (h.getD i.toNat default))then(KK false)else(p (i64.wrap (i+1))))else(o (i64.wrap (v4+1))))) 0))else(aa (α:=Bool) (λj=>have z4:=((qx a d ((b.Code).length:Int) (((b.End).A).S))/\j (!(gF a d ((b.Code).length:Int) (((b.End).A).S))));if decide ((b.End).Kind=2)then(if decide (((b.End).A).Kind=1)then z4 else(j false))else(if decide ((b.End).Kind=3)then(if decide (((b.End).A).Kind=1)then z4 else(j false))else(j false))) (λv9=>if v9 then(KK false)else(ab (α:=Int) (λk c=>have z3:=((b.Phis).getD c.toNat default).Ins;((b.Phis).length<=4611686018427387904->if decide (c < ((b.Phis).length:Int))then(ab (α:=Int) (λl e=>have z5:=z3.getD e.toNat default;have g:=aR a (z5.Block);(0<=c/\c.toNat < (b.Phis).length)/\(z3.length<=4611686018427387904->if decide (e < (z3.length:Int))then((0<=c/\c.toNat < (b.Phis).length)/\(0<=e/\e.toNat<z3.length)/\aa (α:=Bool) (λf=>if g.2 then(if decide ((z5.A).Kind=1)then((rV a (g.1) d)/\if ql a (g.1) d then(((0:Int)<=g.1/\(g.1).toNat<a.Blocks.length)/\(qx a (g.1) (((a.Blocks.getD (g.1).toNat default).Code).length:Int) ((z5.A).S))/\f (!(gF a (g.1) (((a.Blocks.getD (g.1).toNat default).Code).length:Int) ((z5.A).S))))else(f false))else(f false))else(f false)) (λm=>if m then(KK false)else(l (i64.wrap (e+1)))))else(k (i64.wrap (c+1))))) 0)else(n (i64.wrap (d+1))))) 0))))) 0)else(KK true))) 0
def Ru(a:Lt.Func)(KK:Int->Prop):Prop:=ab (α:=Int×Int) (λc b=>(a.Blocks.length<=4611686018427387904->if decide (b.2 < (a.Blocks.length:Int))then((0<=b.2/\b.2.toNat<a.Blocks.length)/\(((a.Blocks.getD b.2.toNat default).Code).length<=4611686018427387904->c ((i64.wrap (b.1+(((a.Blocks.getD b.2.toNat default).Code).length:Int))),(i64.wrap (b.2+1)))))else(KK b.1))) (0,0)
def za(a:Lt.Func)(KK:Bool->Prop):Prop:=ab (α:=Int) (λe c=>have d:=(0<=c/\c.toNat<a.Blocks.length);have b:=a.Blocks.getD c.toNat default;(a.Blocks.length<=4611686018427387904->if decide (c < (a.Blocks.length:Int))then(d/\((b.Phis).length<=4611686018427387904->if decide (0 < ((b.Phis).length:Int))then(KK true)else(ab (α:=Int) (λf v4=>have z3:=(b.Code).getD v4.toNat default;d/\((b.Code).length<=4611686018427387904->if decide (v4 < ((b.Code).length:Int))then(d/\(0<=v4/\v4.toNat < (b.Code).length)/\((z3.Frames).length<=4611686018427387904->d/\(0<=v4/\v4.toNat < (b.Code).length)/\((z3.Objs).length<=4611686018427387904->if decide (0 < (i64.wrap (((z3.Frames).length:Int)+((z3.Objs).length:Int))))then(KK true)else(f (i64.wrap (v4+1))))))else(e (i64.wrap (c+1))))) 0)))else(KK false))) 0
def GK(c:Lt.Program)(a:Lt.Func)(KK:Int->Prop):Prop:=(afJ a)/\if !(dR a)then(KK 5)else(ab (α:=Int) (λd b=>(a.Blocks.length<=4611686018427387904->if decide (b < (a.Blocks.length:Int))then(ab (α:=Int) (λe v4=>(0<=b/\b.toNat<a.Blocks.length)/\(((a.Blocks.getD b.toNat default).Code).length<=4611686018427387904->if decide (v4 < (((a.Blocks.getD b.toNat default).Code).length:Int))then((0<=b/\b.toNat<a.Blocks.length)/\(0<=v4/\v4.toNat < ((a.Blocks.getD b.toNat default).Code).length)/\(Zl c a (((a.Blocks.getD b.toNat default).Code).getD v4.toNat default))/\if !(lP c a (((a.Blocks.getD b.toNat default).Code).getD v4.toNat default))then(KK 4)else(e (i64.wrap (v4+1))))else((0<=b/\b.toNat<a.Blocks.length)/\if !(vz a (Lt.Term.mk (((a.Blocks.getD b.toNat default).End).Kind) (((a.Blocks.getD b.toNat default).End).A) (((a.Blocks.getD b.toNat default).End).To) (((a.Blocks.getD b.toNat default).End).N)))then(KK 4)else(d (i64.wrap (b+1)))))) 0)else((QV a)/\if !(gO a)then(KK 4)else(KK 0)))) 0)
end Go.Am
end
