/-
  Part 16: AmLibC · AmE15 · AmE13 · AmE16 · AmE18r · AmRen · AmE19 · AmKeys · AmB2 · AmB3 · AmSw · AmPan.
-/
import Derived.Test.YthhkhcolidkemaaGreatDoorCs15
import Derived.Test.YthhkhcolidkemaaGreatDoorChecked
set_option linter.unusedSimpArgs false
set_option linter.unusedVariables false
set_option linter.unusedSectionVars false
set_option linter.unnecessarySimpa false
open Lt
open Go.Proofs.Tryz
section
namespace Go.Am
open Go Go.RowKit Go.Proofs
theorem zh(w:World):Below w.heap.size w w:=Below.refl _ w
theorem Jj(c:UInt8):∀l:a8,-1<=Lib.indexByte l c/\Lib.indexByte l c<=(l.length:Int)
 |[]=>by simp[Lib.indexByte]
 |b::l=>by
  have:=Jj c l
  grind [Lib.indexByte]
theorem yp{w:World}{H:FH}{γ:Gam}{m:Mm}{l:a8}(h:l.length<=BIG):AR1 w H γ m (.c (.d (.str l))) (.string ⟨l.toArray⟩):=⟨fun _=>rfl,0,rfl,h⟩
theorem Um{w:World}{H:FH}{γ:Gam}{k:IntKind}{n:Int}{y:Value}(h:AR w H γ [] (.one (.c (.d (.int k n)))) y):y=.int k n:=by
 obtain⟨_,m,h⟩:=h;cases m<;>exact h.1
def Uu:CKt:=sW [.s,.b8] [.i .i64] (fun x=>WL x.1 x.2)
theorem VS:Cont prog 265 Uu:=ON (kz (mj (fn:=f265) kQ0 (by rfl) (by rfl)) (fun x args w H γ _ hl g i a=>by
 obtain⟨s,c⟩:=x;obtain⟨u,v,rfl,h1,h2⟩:=PE (x:=.one (.c (.d (.str s)))) (y:=.one (.c (.d (.int .u8 (UInt8.toNat c:Int))))) hl g;obtain⟨rfl,hs⟩:=lH h1;have hs:List.length (α:=UInt8) s<=BIG:=hs
 obtain rfl:=Um h2;refine(Tryz.strings_IndexByte ⟨s.toArray⟩ (c.toNat:Int) w).mono ?_;rintro e w' ⟨rfl,hw⟩
 rw[hw];refine⟨_,H,rfl,zh w,fun _ _ _ h=>h,fun b o h1 h2=>absurd h2 h1,fun b o x l c h1 h2=>by grind,a,?_⟩;have f:((c.toNat:Int).toNat).toUInt8=c:=by simp
 have hi:=Jj c s
 rw[qJ,f];unfold BIG at hs;show AR w H γ [] (.one (.c (.d (.int .i64 (Lib.indexByte s c))))) (.int .i64 (Lib.indexByte s c))
 refine⟨fun _=>rfl,0,rfl,?_⟩;simp only[Lit.wf,ai9,decide_eq_true_eq,show IntKind.i64.min=-9223372036854775808 from rfl,show IntKind.i64.max=9223372036854775807 from rfl];omega))
def Y4:CKt:=sW [.s,.s] [.s,.bo] (fun x=>adM x.1 x.2)
theorem ZN:Cont prog 264 Y4:=ON (kz (mj (fn:=f264) kQ0 (by rfl) (by rfl)) (fun x args w H γ _ hl f g a=>by
 obtain⟨s,p⟩:=x;obtain⟨u,v,rfl,h1,h2⟩:=PE (x:=.one (.c (.d (.str s)))) (y:=.one (.c (.d (.str p)))) hl f;obtain⟨rfl,hs⟩:=lH h1;have hs:List.length (α:=UInt8) s<=BIG:=hs
 obtain⟨rfl,hp⟩:=lH h2;refine(Tryz.strings_CutPrefix ⟨s.toArray⟩ ⟨p.toArray⟩ w).mono ?_;rintro e w' ⟨rfl,hw⟩
 rw[hw];refine⟨_,H,rfl,zh w,fun _ _ _ h=>h,fun b o h1 h2=>absurd h2 h1,fun b o x l c h1 h2=>by grind,a,_,rfl,?_⟩;rw[qJ,qJ];have hl:(Lib.trimPrefix s p).length<=BIG:=by
  grind [Lib.trimPrefix]
 show ARs w H γ [] [.c (.d (.str (Lib.trimPrefix s p))),.c (.d (.bool (Lib.hasPrefix s p)))] [_,_]
 exact⟨(yp hl:AR1 w H γ [] _ _),⟨fun _=>rfl,0,rfl⟩,trivial⟩))
def aeB:CKt:=lg [.s,.s] [.s,.s,.bo] (fun x=>af5 x.1 x.2) (fun x=>ahL x.1 x.2)
theorem ae5:Cont prog 76 aeB:=kz (mj (fn:=f76) kQ0 (by rfl) (by rfl)) (fun x args w H γ a hl i g f=>by
 obtain⟨s,p⟩:=x;obtain⟨u,v,rfl,h1,h2⟩:=PE (x:=.one (.c (.d (.str s)))) (y:=.one (.c (.d (.str p)))) hl i;obtain⟨rfl,hs⟩:=lH h1;have hs:List.length (α:=UInt8) s<=BIG:=hs
 obtain⟨rfl,hp⟩:=lH h2;have a:s.length < 4294967281:=a
 obtain⟨m,hm⟩:=Di g f (k:=1) (by rfl);refine(Tryz.strings_Cut ⟨s.toArray⟩ ⟨p.toArray⟩ m w (by grind [tZ]) hm).mono ?_;rintro e w' ⟨rfl,n,rfl⟩
 refine⟨_,H,rfl,Ii _ _ _,fun _ _ _ h=>h,fun b o h1 h2=>absurd h2 h1,fun b o x l c h1 h2=>by grind,f,_,rfl,?_⟩;rw[qJ,qJ];have hl:(Lib.cut s p).1.length<=BIG/\(Lib.cut s p).2.1.length<=BIG:=by
  grind [Lib.cut]
 show ARs _ H γ [] [.c (.d (.str (Lib.cut s p).1)),.c (.d (.str (Lib.cut s p).2.1)),.c (.d (.bool (Lib.cut s p).2.2))] [_,_,_]
 exact⟨(yp hl.1:AR1 (w.drewN n) H γ [] _ _),(yp hl.2:AR1 (w.drewN n) H γ [] _ _),⟨fun _=>rfl,0,rfl⟩,trivial⟩)
theorem xw(p:ByteArray):∀(k:Nat)(s:ByteArray),∀x∈Lib.splitB p 0 k s,x.size<=s.size
 |0,s,x,hx=>by grind [Lib.splitB_zero]
 |k+1,s,x,hx=>by
  unfold Lib.splitB at hx;split at hx
  ·grind
  rcases ajI.1 hx with rfl|hx
  ·grind [ByteArray.size_extract]
  have:=xw p k _ x hx
  grind [ByteArray.size_extract]
def Uv:CKt:=lg [.s,.s] [.sl .s] (fun x=>X4 x.1 x.2) (fun x=>EG x.1 x.2)
theorem VT:Cont prog 75 Uv:=kz (mj (fn:=f75) kQ0 (by rfl) (by rfl)) (fun x args w H γ g hl A B a=>by
 obtain⟨s,p⟩:=x;obtain⟨u,v,rfl,h1,h2⟩:=PE (x:=.one (.c (.d (.str s)))) (y:=.one (.c (.d (.str p)))) hl A;obtain⟨rfl,hs⟩:=lH h1;have hs:List.length (α:=UInt8) s<=BIG:=hs
 obtain⟨rfl,hp⟩:=lH h2;obtain⟨g,C⟩:s.length < 4294967281/\1<=p.length:=g;obtain⟨m,hm⟩:=Di B a (k:=1) (by rfl);have r:=tZ s
 refine(Tryz.strings_Split ⟨s.toArray⟩ ⟨p.toArray⟩ m w kQ1 hm (by grind [tZ])).mono ?_;rintro e w' ⟨rfl,rfl⟩
 have f:=Lib.splitB_all ⟨p.toArray⟩ (by grind [tZ]) 0 _ ⟨s.toArray⟩ rfl
 have q:=Lib.countB_le ⟨p.toArray⟩ (by grind [tZ]) _ ⟨s.toArray⟩ (ajB _)
 have n:=xw ⟨p.toArray⟩ (Lib.countB ⟨s.toArray⟩ ⟨p.toArray⟩) ⟨s.toArray⟩
 have t:EG s p=(Lib.splitB ⟨p.toArray⟩ 0 (Lib.countB ⟨s.toArray⟩ ⟨p.toArray⟩) ⟨s.toArray⟩).map (·.data.toList):=rfl
 generalize Lib.splitB ⟨p.toArray⟩ 0 (Lib.countB ⟨s.toArray⟩ ⟨p.toArray⟩) ⟨s.toArray⟩=L at f n t⊢;rw[<- f];rw[r]at q n;refine⟨_,fun b o=>if b=w.heap.size then((L.map Value.string).toArray[o]?).map HV.c else H b o,rfl,(Below.refl _ w).alloc (ajB _) _,fun b o y h=>?_,fun b o h1 h2=>?_,fun b o x l c h1 h2=>?_,fun b o y h=>?_,fun _=>rfl,1,?_⟩
 ·have:=(a b o y h).lt
  grind
 ·grind
 ·grind
 ·dsimp only at h;split at h
  ·rename_i hb;subst hb;obtain⟨z,D,rfl⟩:=ajL.1 h;show World.cell? _ _=some z
   grind [World.cell?_alloc_new]
  exact(a b o y h).frame (cP (a b o y h).lt)
 show FD _ 1 (.li ((EG s p).map (ap .s))) _
 rw[t,mO];unfold BIG at hs⊢;refine⟨_,_,by rw[ajH,ajH],by simp,by grind,.inr ⟨w.heap.size,0,1,rfl,fun i hi=>?_⟩⟩;have hi:i<L.length:=by grind
 have e:((L.map (·.data.toList)).map (ap .s)).getD i []=[.str L[i].data.toList]:=by
  rw[List.getD,ajD,ajD,ajA hi];rfl
 rw[e];refine⟨rfl,fun j hj=>?_⟩;have hj:j=0:=by omega
 subst hj;refine⟨.string L[i],?_,?_⟩
 ·grind
 refine⟨by simp,?_⟩
 grind [ak1,Lib.size_eq])
end Go.Am
end

section
namespace Go.Am
variable{j:Nat}
section
variable {g:G} {s1:S} {a:Act} {w:World} {H1:FH} {γ:Gam} {F1:Nm->Fp}
theorem N3(h1:RX g s1 a w H1 γ F1){o:Operand}{os:List Operand}{r:Nm}{cells:List T}(k:aF o=true/\os.all aF=true)(B:ev s1 o=.one (.c (.pl ⟨r,0,[]⟩)))(d:af s1.m r=some ⟨true,cells⟩)
  (z:(Nm.out j).tyd=r.tyd) (t:cells.all (T.self r)=true) (hfz:(os.map (ev s1)).all AV.isFz=true) {nt:Nat} (J:os.length+1<=nt) :
  ∃b f,γ r=.blk b/\RX ⟨nt,w,H1,F1 r,fun i=>if i=j then some b else none,none,[]⟩ ⟨cJ 0 (.one (.c (.pl ⟨.out j,0,[]⟩))::os.map fun x=>(ev s1 x).map T.canon),[(.out j,⟨true,cells.map (T.ren r (.out j))⟩)]⟩
   ⟨((o::os).map a.eval).toArray++Array.replicate (nt - ((o::os).map a.eval).toArray.size) undef,[]⟩ w H1 f (fun _=>F1 r):=by
 have l:=aH h1 k.1
 rw[B]at l;obtain⟨_,p,ad,K,y⟩:=l;have L:=h1.mem.roots _ (ah d)
 obtain⟨b,hγr⟩:∃b,γ r=.blk b:=by
  grind [bv]
 have u:ad=⟨b,0,none⟩:=by
  grind [plA]
 subst u;have I:0<cells.length:=by
  rw[ax]at p;obtain⟨r0,E,q2⟩:=p;dsimp only at E;rw[d]at E;obtain rfl:=Option.some.inj E;exact q2
 let f:Gam:=fun n=>if n=.out j then .blk b else γ n
 let q:Mm:=[(.out j,⟨true,cells.map (T.ren r (.out j))⟩)]
 let g1:G:=⟨nt,w,H1,F1 r,fun i=>if i=j then some b else none,none,[]⟩
 have A:f (.out j)=.blk b:=by grind
 have N:bv w H1 f q (.out j) ⟨true,cells.map (T.ren r (.out j))⟩ (F1 r):=
  vD L z t hγr d A ⟨cells.map (T.ren r (.out j)),by simp[q,af],by simp⟩
 have D:∀c,F1 r c<=tot F1 s1.m c:=fun c=>bC (F:=F1) (ah d) c
 let H:Nm->Fp:=fun _=>F1 r
 have s:∀c,tot H q c=F1 r c:=fun c=>(alO (F1 r c))
 have C:Mem w H1 f q H:=by
  refine⟨h1.mem.agree,fun x hx=>?_,by simp[q],fun c=>by rw[s];exact akQ (D c) (h1.mem.le1 c),fun c hc=>by rw[s]at hc;exact h1.mem.lt c (by grind),fun c hc=>by rw[s]at hc;exact h1.mem.nofz c (by grind)⟩
  grind
 refine⟨b,f,hγr,?_⟩;refine⟨C,⟨ajB _,rfl,rfl,rfl,fun _ _ _=>rfl,fun _ _ _ h=>h,fun b o h2 h3=>absurd h3 h2,fun c hc=>.inl (by grind),oF⟩,?_,⟨rfl,fun i b' e=>?_,jb h1⟩,fun i=>?_⟩
 ·grind
 ·grind
 have hget:∀x,(o::os)[i]? = some x->(((o::os).map a.eval).toArray++Array.replicate (nt - ((o::os).map a.eval).toArray.size) undef).getD i undef=a.eval x:=by
  intro x hx;rw[akK,akL (by grind)]
  grind
 cases i with
 |zero=>
  rw[G.tv_none rfl,hget o rfl,y];simp only[cJ,aV,if_true];refine⟨fun _=>rfl,?_,⟨b,0,none⟩,?_,rfl⟩
  ·rw[ax];refine⟨⟨true,cells.map (T.ren r (.out j))⟩,by simp[q,af],?_⟩;show 0 < (cells.map (T.ren r (.out j))).length
   grind
  grind [plA]
 |succ i=>
  have v:aV (cJ 0 (.one (.c (.pl ⟨.out j,0,[]⟩))::os.map fun x=>(ev s1 x).map T.canon)) (i+1)=((os.map fun x=>(ev s1 x).map T.canon)[i]?).getD .any:=by
   grind [gN]
  show AR w H1 f q (aV (cJ 0 (.one (.c (.pl ⟨.out j,0,[]⟩))::os.map fun x=>(ev s1 x).map T.canon)) (i+1)) _
  rw[v,ajD];cases hi:os[i]? with
  |none=>simp only[Option.map_none,Option.getD_none];trivial
  |some x=>
   have hx:=aH h1 (ajM.1 k.2 x (akB hi))
   simp only[Option.map_some,akP];have M:(ev s1 x).isFz=true:=ajM.1 hfz (ev s1 x) (List.mem_map_of_mem (akB hi))
   rw[G.tv_none rfl,hget x (by grind)];exact iC fe (wK (fun _ _ _ h=>h) M hx)
theorem TE(h1:RX g s1 a w H1 γ F1){r:Nm}{cells:List T}(z:af s1.m r=some ⟨true,cells⟩)(O:(Nm.out j).tyd=r.tyd){b:Nat}(hγr:γ r=.blk b){nt:Nat}{s2:S}{a':Act}{w':World}{E:FH}{γ':Gam}{v:Nm->Fp}
  (L:RX ⟨nt,w,H1,F1 r,fun i=>if i=j then some b else none,none,[]⟩ s2 a' w' E γ' v) {d:List T} (B:af s2.m (.out j)=some ⟨true,d⟩) (al:d.length=cells.length) (hs2:d.all (T.self (.out j))=true) :
  ∃F3,RX g ⟨nj (ms r) s1.t,(r,⟨true,d.map (T.ren (.out j) r)⟩)::aJ (ms r) (bP s1.m r)⟩ a w' E γ F3:=by
 have am:∀c,F1 r c<=tot F1 s1.m c:=fun c=>bC (F:=F1) (ah z) c
 have k:=L.fr
 dsimp only at k;have hd:=tK h1 r
 have N:(s1.drop r).m=aJ (bq r) (bP s1.m r):=rfl
 have l:=hd.mem
 rw[N]at l;generalize hmd0:aJ (bq r) (bP s1.m r)=md at l;have u:∀c,tot F1 md c+F1 r c=tot F1 s1.m c:=fun c=>by
  grind [bh,mm]
 have s:∀c,tot F1 md c≠0->w'.heap[c]? = w.heap[c]? := fun c hc=>
  k.block c (h1.mem.lt c (by grind)) (by have:=u c;have:=h1.mem.le1 c;omega)
 have I:∀c,c<w.heap.size->F1 r c=0->H1 c=E c:=by
  intro c hc h0
  funext o
  cases hh:H1 c o with
  |some y=>rw[k.hold c o y hh]
  |none=>
   cases ak:E c o with
   |none=>rfl
   |some y=>
    rcases k.hnew c o (by grind) hh with h'|h'
    all_goals omega
 have aa:=fa (w':=w') l s
 have U:Mem w' E γ md F1:=by
  refine⟨L.mem.agree,fun x hx=>aZ aa k.hold rfl (fun c hc=>s c (by grind [bC])) (l.roots x hx),l.keys,l.le1,fun c hc=>by grind [Mem.lt],fun c hc o=>?_⟩;rw[<- I c (l.lt c hc) (by have:=u c;have:=h1.mem.le1 c;omega)];exact l.nofz c hc o
 have H:=L.mem.roots _ (ah B)
 have P:γ' (.out j)=.blk b:=L.df.2.1 j b (by simp)
 have A:af md r=none:=by rw[<- hmd0];exact Jc h1.mem.keys
 have D:upd γ r (.blk b)=γ:=by
  grind [dT,mK]
 have ab:bv w' E (upd γ r (.blk b)) ((r,⟨true,d.map (T.ren (.out j) r)⟩)::md) r ⟨true,d.map (T.ren (.out j) r)⟩ (v (.out j)):=
  vD H O.symm hs2 P B dT ⟨d.map (T.ren (.out j) r),by grind [af],by simp⟩
 have ag:∀c,v (.out j) c<=tot v s2.m c:=fun c=>bC (F:=v) (ah B) c
 have R:∀c,v (.out j) c≠0->F1 r c≠0\/w.heap.size<=c:=fun c hc=>k.tt c (by grind)
 have J:∀c,v (.out j) c≠0->tot F1 md c=0:=fun c hc=>by
  rcases R c hc with h'|h'
  ·have:=u c;have:=h1.mem.le1 c;omega
  grind [Mem.lt]
 obtain⟨M,ad⟩:=xS U (n:=r) (rc:=.blk b) (r:=⟨true,d.map (T.ren (.out j) r)⟩) (f:=v (.out j)) A ab (fun c=>by
   by_cases hc:v (.out j) c=0
   ·grind [Mem.le1]
   have:=J c hc;have:=L.mem.le1 c;grind)
  (fun c hc=>⟨L.mem.lt c (by grind),L.mem.nofz c (by grind)⟩)
 rw[D]at M;have aj:Fr w H1 (tot F1 s1.m) w' E (tot (upd F1 r (v (.out j))) ((r,⟨true,d.map (T.ren (.out j) r)⟩)::md)):=by
  refine⟨k.size,k.os,k.tape,k.output,fun c hc h0=>k.block c hc (by grind),k.hold,fun c o h2 h3=>?_,fun c hc=>?_,k.nz⟩
  all_goals grind
 have K:KeepsB (ms r) w γ s1.m w' γ ((r,⟨true,d.map (T.ren (.out j) r)⟩)::md):=by
  have V:=mQ (w:=w') (γ:=γ) (rc:=.blk b) (r:=⟨true,d.map (T.ren (.out j) r)⟩) A
  rw[D]at V;have ai:KeepsB (bq r) w γ s1.m w γ md:=by grind [ea]
  constructor
  ·intro q p hq;by_cases C:q.root=r
   ·obtain⟨qr,qo,qp⟩:=q;dsimp only at C;subst C;simp only[ms,decide_true,aj3,Bool.false_or,Bool.not_eq_false',List.isEmpty_iff]at p;subst p;refine⟨?_,by rfl⟩;rw[ax]at hq⊢;obtain⟨r0,q1,q2⟩:=hq;dsimp only at q1 q2;rw[z]at q1;obtain rfl:=Option.some.inj q1;refine⟨⟨true,d.map (T.ren (.out j) qr)⟩,by grind [af],?_⟩;have ae:qo<cells.length:=q2
    show qo < (d.map (T.ren (.out j) qr)).length
    grind
   grind [KeepsB.pl,bq,Keeps.pl,Keeps.pl]
  grind [ms,KeepsB.rf,bq,Keeps.rf,Keeps.rf]
 have ac:af ((r,(⟨true,d.map (T.ren (.out j) r)⟩:Root))::aJ (ms r) (bP s1.m r)) r=some ⟨true,d.map (T.ren (.out j) r)⟩:=by grind [af]
 have G:KeepsB (ms r) w γ s1.m w' γ ((r,⟨true,d.map (T.ren (.out j) r)⟩)::aJ (ms r) (bP s1.m r)):=by
  constructor
  ·intro q p hq;refine⟨?_,(K.pl q p hq).2⟩;by_cases C:q.root=r
   ·have h:=(K.pl q p hq).1
    grind [ax,af]
   have h2:bU (aJ (ms r) (bP s1.m r)) q:=sR (by grind [ax,m0])
   grind [ax,af]
  intro q p hq;have C:q.root≠r:=by
   grind [ms]
  refine⟨?_,(K.rf q p hq).2⟩;have h2:gU (aJ (ms r) (bP s1.m r)) q:=sS (by grind [gU,m0])
  grind [gU,af]
 have Y:∀Z:Nm->Fp,tot Z ((r,(⟨true,d.map (T.ren (.out j) r)⟩:Root))::aJ (ms r) (bP s1.m r))=tot Z ((r,⟨true,d.map (T.ren (.out j) r)⟩)::md):=fun Z=>by
  grind [eK,bh]
 have W:Mem w' E γ ((r,⟨true,d.map (T.ren (.out j) r)⟩)::aJ (ms r) (bP s1.m r)) (upd F1 r (v (.out j))):=by
  refine⟨M.agree,fun x hx=>?_,?_,fun b=>by rw[Y];exact M.le1 b,fun b hb=>M.lt b (by simp_all),fun b hb=>M.nofz b (by simp_all)⟩
  ·rcases ajI.1 hx with rfl|hx
   ·grind [dT,vD]
   simp only[aJ,ajX]at hx;obtain⟨x0,Q,rfl⟩:=hx;dsimp only;have X:x0.1≠r:=fun e=>ra (n:=r) h1.mem.keys (by grind)
   rw[mK X];refine sr G k.hold rfl (fun c hc=>s c ?_) (h1.mem.roots x0 (Ax Q))
   grind [bC,bh]
  have:=M.keys
  grind [oB]
 refine⟨_,jS h1 W (by grind) (fun i=>?_) (fun _=>rfl)⟩;rw[oq];exact tu G k.hold (h1.t i)
end
theorem aaH{α β:Type}{r:Except Value α×β}{K K':α->β->Prop}{a:Value->β->Prop}(h:∀x y,K x y->K' x y)(hr:exP r K a):exP r K' a:=by
 grind [exP]
variable{an:An}{fn:Func}{ps rs:List U}{sh:List Sh}{u:U}
theorem yy{e:En}(he:e.ok)(hm:e.P.follows .mixedOrders=true){f:Nat}(hf:e.P.funcs[f]? = some fn) (Q:(fn.name == "runtime.NumGoroutine")=false) (hb:fn.body.isSome=true)    
  (ag:Nat.ble (ps.length+1) fn.ntmps=true) (hc:gS fn.ntmps (fn.body.getD .skip)=true):Cont e.P f (AY e fn an sh u ps rs):=by
 have ap:fn.body=some (fn.body.getD .skip):=by cases h:fn.body<;>grind
 refine⟨s6 hf Q hb,fun pk s ops k k' hk l=>?_,fun g pk s a w H γ F1 ops k hX az l=>?_⟩
 ·unfold AY at l⊢;split at l
  ·omega
  dsimp only at l⊢;split at l
  ·split at l
   ·split at l
    ·split at l
     ·split at l
      ·obtain⟨KK,KP,b1,b2,b3⟩:=l;refine⟨KK,KP,b1,fun z x' hz=>hk _ _ ?_ (b2 z x' hz),b3⟩;exact((d9 _ _).trans (dF _ _ _ _ _)).trans ⟨aj2 _,gH (ajB _),((mN _).trans (dM (ajB _))).trans (kf _ _ _ (ajB _))⟩
      omega
     omega
    omega
   omega
  omega
 unfold AY at l;cases ops with
 |nil=>grind
 |cons o os=>
  dsimp only at l;have I:aF o=true/\os.all aF=true:=by grind
  obtain⟨H1,F2,h1⟩:=iE (os.map (evA s)) s H F1 hX;generalize cN s (os.map (evA s))=s1 at l h1;split at l
  ·rename_i r aC;obtain⟨H2,W,F3,h2⟩:=dU (g:=g) r (iK u) sh 0 (Vo h1);generalize br s1 r (iK u) sh 0=s2 at l h2;split at l
   ·rename_i n ac;split at l
    ·rename_i cells aA ae R;have aw:n=r:=by grind
     subst aw;split at l
     ·rename_i ts V;split at l
      ·rename_i x y hx hy;have ax:=fT h2
       obtain⟨c1,c2,c3⟩:=kL hy;obtain⟨k1,_⟩:=yj V (nX hx);have p:af s2.toS.m n=some ⟨true,cells.map Tt.toT⟩:=by
        have:=bi R
        exact this
       have U:os.length=ps.length:=by
        grind [gJ]
       obtain⟨b,ai,hγr,Y⟩:=N3 (j:=0) h2 I (by rw[aj I.1,ac];rfl) p (by rw[ae];rfl) (sA V).1 (by grind [uE]) (nt:=fn.ntmps) (by rw[U];exact ajG ag);have D:=CR Y (.out 0)
       have e0:(⟨1,(0,0,.one (.c (.pl ⟨.out 0,0,[]⟩)))::BJ 1 ps y,[(.out 0,0,⟨true,bg sh (flat u x),none⟩)]⟩:St).toS=⟨cJ 0 (.one (.c (.pl ⟨.out 0,0,[]⟩))::os.map fun x=>(ev s2.toS x).map T.canon),[(Nm.out 0,(⟨true,(cells.map Tt.toT).map (T.ren n (.out 0))⟩:Root))].map fun x=>(x.1,if x.1=.out 0 then mA x.2 else x.2)⟩:=by
        have L:(os.map fun x=>(ev s2.toS x).map T.canon)=jU ps y:=by
         have e:(os.map fun x=>(ev s2.toS x).map T.canon)=(os.map (ev s2.toS)).map (AV.map T.canon):=by rw[akA];rfl
         grind [uE]
        rw[L];refine bE.S_ext ?_ ?_
        ·simp only[St.toS,List.map_cons,cJ,pF];rfl
        rw[(sA V).2]
        grind [Rt.toR,holed,mA]
       rw[<- e0]at D;obtain⟨KK,KP,h,am,ao⟩:=l;have M:∀{s':S}{a':Act}{w':World}{H':FH}{γ':Gam}{F':Nm->Fp}{d G:List Tt}{q:El u},RX ⟨fn.ntmps,w,H2,F3 n,fun i=>if i=0 then some b else none,none,[]⟩ s' a' w' H' γ' F' ->
         af s'.m (.out 0)=some ⟨true,d.map Tt.toT⟩->gW sh d=some G->lF u G=some q ->
         ∃F4,RX g (⟨s2.nx+1,kX (je n) s2.nx s2.t,(n,s2.nx,⟨true,bg sh (flat u q),none⟩)::b9 (je n) s2.nx (eM s2.m n)⟩:St).toS a w' H' W F4:=by
        intro s' a' w' H' γ' F' d G q X ad q2 Z;obtain⟨k3,_⟩:=yj q2 (nX Z);have hl:(d.map Tt.toT).length=(cells.map Tt.toT).length:=by
         have l2:∀(sh:List Sh)(a b:List C),a.length=b.length->(bg sh a).length=(bg sh b).length:=by
          intro sh;induction sh with
          |nil=>intro a b _;rfl
          |cons s r ih=>
           intro a b aB;have av:∀(c:C)(cs:List C),(bg (s::r) (c::cs)).length=(bg r cs).length+1:=by
            intro c cs;cases s<;>cases c<;>rfl
           cases a with
           |nil=>grind
           |cons c cs=>cases b<;>grind
         grind [xd,ajH]
        obtain⟨F4,hX'⟩:=TE (j:=0) h2 p (by rw[ae];rfl) hγr X ad hl (sA q2).1;refine⟨F4,?_⟩;have aE:=CR hX' n
        have al:((n,(⟨true,(d.map Tt.toT).map (T.ren (.out 0) n)⟩:Root))::aJ (ms n) (bP s2.toS.m n)).map (fun x=>(x.1,if x.1=n then mA x.2 else x.2))=(n,⟨true,(bg sh (flat u q)).map Tt.toT⟩)::aJ (ms n) (bP s2.toS.m n):=by
         simp only[List.map_cons,if_true]
         congr 1
         ·grind [DL,mA]
         refine(ajN fun z hz=>?_).trans (List.map_id _);have aD:z.1≠n:=by
          intro e;have aa:z.1∈(aJ (ms n) (bP s2.toS.m n)).map (·.1):=List.mem_map_of_mem (f:=(·.1)) hz
          have X:(aJ (ms n) (bP s2.toS.m n)).map (·.1)=(bP s2.toS.m n).map (·.1):=by simp only[aJ,akA];rfl
          rw[X,e]at aa;exact ra h2.mem.keys aa
         grind
        have ay:(⟨s2.nx+1,kX (je n) s2.nx s2.t,(n,s2.nx,⟨true,bg sh (flat u q),none⟩)::b9 (je n) s2.nx (eM s2.m n)⟩:St).toS=⟨nj (ms n) s2.toS.t,(n,⟨true,(bg sh (flat u q)).map Tt.toT⟩)::aJ (ms n) (bP s2.toS.m n)⟩:=by
         refine bE.S_ext (ni _ _ _) ?_;simp only[St.toS,List.map_cons]
         congr 1
         have:=eB (je n) s2.nx (eM s2.m n)
         rw[mY _ _ ax]at this;exact this
        grind
       refine calls_of_wp hf ap (Code.wp_mono (fun ex a' w' hl=>?_) (o7 (e:=⟨e.P,e.E,e.cs,e.sh,Qr sh u KP⟩) he hm (g:=⟨fn.ntmps,w,H2,F3 n,fun i=>if i=0 then some b else none,none,[]⟩) _ an _ _ hc h _ w ⟨H2,ai,_,D⟩));obtain⟨s',hq,hR⟩:=hl;have fin:∀t:St,s'=t.toS->uY e.P fn.results.toList sh u rs KK t ->
         a'.defers=[]/\∃v,(results fn a'.tmps).run e.P w'=.ok v w'/\mX g a pk k (.returned v) w':=by
        rintro t rfl J
        unfold uY at J;dsimp only at J;have A:=dU (.out 0) (iK u) sh 0 (sq fn.results.toList hR)
        generalize br (kR t fn.results.toList) (.out 0) (iK u) sh 0=s3 at J A;have ab:=sE (us:=rs) (k:=fun vs=>match cC rs vs,bJ s3.m (.out 0)with
         |some ah,some ⟨true,cells,none⟩=>match gW sh cells with
          |some ts=>match lF u ts with
           |some ar=>KK (ah,ar)
           |none=>False
          |none=>False
         |_,_=>False) (by
          intro vs B;split at B
          all_goals grind) J
        have aq:=mi (us:=rs) (K:=fun r=>∃cells ts q,bJ s3.m (.out 0)=some ⟨true,cells,none⟩/\gW sh cells=some ts/\lF u ts=some q/\KK (r,q)) (adW A) (by
          intro vs B;split at B
          ·rename_i x1 d h1 h2;split at B
           ·rename_i ts h3;split at B
            all_goals grind
           grind
          grind) J
        obtain⟨Hs,ak,Fs,N⟩:=A;obtain⟨y0,v,H4,F4,L,X,e3,e4,r0,e5,d,G,q,q1,q2,Z,q4⟩:=Yj N rfl (Qp ab (K:=fun v=>∃r,v=(dh rs r).toV/\∃cells ts q,bJ s3.m (.out 0)=some ⟨true,cells,none⟩/\gW sh cells=some ts/\lF u ts=some q/\KK (r,q)) (fun r hr=>⟨r,rfl,hr⟩) aq);rw[ab]at X e3;obtain⟨F5,O⟩:=M X (bi q1) q2 Z;refine⟨X.df.1,y0,L,.inl ⟨y0,_,dh rs r0,H4,W,F5,rfl,am _ _ q4,?_,O⟩⟩;rw[<- e5];exact iC fe (wK (fun _ _ _ h=>h) e4 e3)
       cases ex with
       |normal=>obtain⟨t,L,J⟩:=hq;exact fin t L J
       |ret=>obtain⟨t,L,J⟩:=hq;exact fin t L J
       |exit i=>obtain⟨t,L,J⟩:=hq;grind
       |panic c=>
        obtain⟨v,t,rfl,rfl,hv⟩:=hq;unfold Qr at hv;dsimp only at hv;have A:=dU (.out 0) (iK u) sh 0 hR
        have au:a'.defers=[]:=by obtain⟨_,_,_,hX'⟩:=hR;exact hX'.df.1
        generalize br t (.out 0) (iK u) sh 0=s3 at hv A;split at hv
        ·rename_i d q1;split at hv
         ·rename_i G q2;split at hv
          ·rename_i q Z;obtain⟨Hs,ak,Fs,N⟩:=A;obtain⟨F5,O⟩:=M N (bi q1) q2 Z;exact⟨au,.inr ⟨v,_,rfl,ao _ _ hv,Hs,W,F5,O⟩⟩
          grind
         grind
        grind
       |_=>exact hq.elim
      grind
     grind
    grind
   grind
  grind
variable{e:En}{f:Nat}
theorem QJ(n:e.ok)(hm:e.P.follows .mixedOrders=true)(hf:e.P.funcs[f]? = some fn) (c:(fn.name == "runtime.NumGoroutine")=false) (hb:fn.body.isSome=true) {an:An} {sh:List Sh} {u:U} {ps rs:List U} {pre:El u->Fl ps->Prop} {Fn:El u->Fl ps->Except Value (Fl rs)×El u}
  (d:Nat.ble (ps.length+1) fn.ntmps=true) (hc:gS fn.ntmps (fn.body.getD .skip)=true) (j:∀x y,pre x y->∀(KK:Fl rs×El u->Prop)(m:Value->El u->Prop),exP (Fn x y) (fun z x'=>KK (z,x')) m->xW e fn an sh u ps rs x y KK m):Cont e.P f (Qm sh u ps rs pre Fn):=by
 have h:=yy n hm hf c hb (an:=an) (sh:=sh) (u:=u) (ps:=ps) (rs:=rs) d hc
 refine⟨h.run,fun pk s ops k k' hk b=>?_,fun g pk s a w H γ F ops k o i b=>h.call g pk s a w H γ F ops k o i ?_⟩
 ·unfold Qm at b⊢;split at b
  ·omega
  dsimp only at b⊢
  (repeat' split at b)<;>first|exact b.elim|skip
  refine⟨b.1,aaH (fun z x' l=>hk _ _ ?_ l) b.2⟩;exact((d9 _ _).trans (dF _ _ _ _ _)).trans ⟨aj2 _,gH (ajB _),((mN _).trans (dM (ajB _))).trans (kf _ _ _ (ajB _))⟩
 unfold Qm at b;unfold AY;split at b
 ·omega
 dsimp only at b⊢
 (repeat' split at b)<;>first|exact b.elim|skip
 rename_i x y _ _;refine⟨fun z=>Fn x y=(.ok z.1,z.2),fun v x'=>Fn x y=(.error v,x'),j _ _ b.1 _ _ ?_,fun z x' l=>?_,fun v x' hv=>?_⟩
 ·generalize Fn x y=r;obtain⟨r1,r2⟩:=r;cases r1<;>rfl
 ·have h2:=b.2;rw[show Fn x y=(.ok z,x')from l]at h2;exact h2
 have h2:=b.2;rw[hv]at h2;exact h2
theorem FZ{e:En}(j:e.ok)(hm:e.P.follows .mixedOrders=true){g:G}(k:g.nt=fn.ntmps)(hc:gS fn.ntmps (fn.body.getD .skip)=true){x:Fl ps}{KK:Fl rs->Prop}{K:AV->Prop}
  (f:∀r,KK r->K (dh rs r).toV) (h:tY e fn an ps rs x KK):AW e.P g (fn.body.getD .skip) (agB e.P fn.results.toList K) ⟨cJ 0 (jU ps x),[]⟩:=by
 have h1:=o7 (e:=⟨e.P,e.E,e.cs,e.sh,fun _ _=>False⟩) j hm (g:=g) _ an (EB ps x) _ (by grind) h
 have e0:(EB ps x).toS=⟨cJ 0 (jU ps x),[]⟩:=bE.S_ext (pF 0 ps x) rfl
 rw[e0]at h1;refine yr h1 (fun ex s' a w h' d=>?_);cases ex with
 |normal=>
  obtain⟨t,rfl,b⟩:=h';exact FK f b d
 |ret=>
  obtain⟨t,rfl,b⟩:=h';exact FK f b d
 |exit i=>exact h'.elim (fun t b=>b.2.elim)
 |panic c=>obtain⟨_,_,_,_,hf⟩:=h';grind
 |_=>exact h'.elim
theorem ahS(a:scU u=true)(x:El u):∀{H H':FH}{y:Value},FDx H (ao u x).toD y->FDx H' (ao u x).toD y:=by
 intro H H' y h;cases u with
 |i k=>obtain⟨rfl,h2⟩:=fC h;exact⟨0,rfl,h2⟩
 |b8=>obtain⟨rfl,h2⟩:=fC h;exact⟨0,rfl,h2⟩
 |bo=>obtain rfl:=ja h;exact⟨0,rfl⟩
 |s=>obtain⟨rfl,h2⟩:=gZ h;exact⟨0,rfl,h2⟩
 |_=>cases a
theorem acB(a:scU u=true)(x:El u):Ce u x=.c (.d (ao u x)):=by cases u<;>first|rfl|cases a
theorem ahR{w w':World}{H H':FH}{γ γ':Gam}{m m':Mm}:∀{rs:List U}{y:Fl rs}{z:Value},rs.all scU=true->AR w H γ m (dh rs y).toV z->AR w' H' γ' m' (dh rs y).toV z:=by
 have one:∀{u:U}{x:El u}{z:Value},scU u=true->AR1 w H γ m (Ce u x).toV z->AR1 w' H' γ' m' (Ce u x).toV z:=by
  intro u x z a h;rw[acB a]at h⊢;exact⟨h.1,ahS a x h.2⟩
 have all:∀(rs:List U)(y:Fl rs)(zs:List Value),rs.all scU=true->ARs w H γ m ((dh.resL rs y).map A1.toV) zs->ARs w' H' γ' m' ((dh.resL rs y).map A1.toV) zs:=by
  intro rs;induction rs with
  |nil=>intro y zs _ h;cases zs with
   |nil=>trivial
   |cons _ _=>exact h.elim
  |cons u r ih=>
   intro y zs hs h;simp only[ajJ,ai9]at hs;cases zs with
   |nil=>exact h.elim
   |cons z zs=>exact⟨one hs.1 h.1,ih _ zs hs.2 h.2⟩
 intro rs y z hs h
 match rs,y with
 |[],_=>obtain⟨l,h1,h2⟩:=h;exact⟨l,h1,all [] () _ rfl h2⟩
 |[u],y=>
  simp only[ajJ,alH,alJ]at hs;have e:(dh [u] y).toV=.one (Ce u y).toV:=by show(Bv u y).toV=_;rw[vg];rfl
  rw[e]at h⊢;exact one hs h
 |u::v::r,y=>obtain⟨l,h1,h2⟩:=h;exact⟨l,h1,all (u::v::r) y _ hs h2⟩
section
variable {P:Program} {g:G} {a:Act} {w:World} {H:FH} {γ:Gam} {F:Nm->Fp}
theorem K0{s:St}{p:Pl}{l:List (El u)}{r:Rt}(hr:bJ s.m p.root=some r)(k:r.hole=none)(h:sliceAt s.m p=some ⟨sh,u,l⟩)(hp:okP s.toS.m p):aT s.toS.m p=some (.ow sh (l.map (ap u))):=by
 unfold sliceAt at h;split at h
 ·rename_i o u' l' b;cases h;have e:r.toR=⟨r.blk,r.cells.map Tt.toT⟩:=by unfold Rt.toR;rw[k];rfl
  have j:af s.toS.m p.root=some ⟨r.blk,r.cells.map Tt.toT⟩:=by rw[<- e];exact bi hr
  unfold atT at b;rw[hr]at b;dsimp only at b;unfold aT;rw[j];dsimp only;cases a:p.path with
  |nil=>
   rw[a]at b;dsimp only at b⊢;split at b
   ·simp only[ai8]at b;have:(r.cells.drop p.off)[0]? = some (.ow sh u l):=by
     grind [akO]
    rw[ak3,alO]at this;rw[ajD,this];rfl
   grind
  |cons st q=>
   rw[a]at b;dsimp only at b⊢;split at b
   ·rename_i sub t l2 _ hc;unfold okP at hp;rw[a]at hp;obtain⟨v,g,l',i,f,n⟩:=hp;rw[j]at i;obtain rfl:=Option.some.inj i;dsimp only at f;have c:(r.cells.map Tt.toT)[p.off]? = some (.ow sub (l2.map (ap t))):=by rw[ajD,hc];rfl
    rw[c]at f;have d:=Option.some.inj f
    simp only[T.ow.injEq]at d;obtain⟨rfl,rfl⟩:=d;rw[c];dsimp only;rw[Ad n b]
   grind
 grind
def nl(w:World)(H:FH)(t:Fp):FH:=fun b o=>if t b≠0 then(w.cell? ⟨b,o,none⟩).map HV.c else H b o
theorem ur{s:S}(h:RX g s a w H γ F):∀b o y,H b o=some y->nl w H (tot F s.m) b o=some y:=by
 intro b o y hy;unfold nl;split
 ·rename_i hb;rw[h.mem.nofz b hb o]at hy;cases hy
 omega
theorem JV{s:S}(h:RX g s a w H γ F):∀b o y,nl w H (tot F s.m) b o=some y->RdV w b o y:=by
 intro b o y hy;unfold nl at hy;split at hy
 ·obtain⟨z,c,rfl⟩:=ajL.1 hy;exact c
 exact h.mem.agree b o y hy
theorem Nu(s:St)(v:At):lent s v=v\/∃p r sh u l,v=.one (.c (.rf p))/\lent s v=sct (.li u l)/\bJ s.m p.root=some r/\r.hole=none/\sliceAt s.m p=some ⟨sh,u,l⟩:=by
 unfold lent
 grind
theorem abH{s:St}(h:RX g s.toS a w H γ F){v:At}{z:Value}(hv:AR w H γ s.toS.m v.toV z)(q:(lent s v).toV.isFz=true):AR w (nl w H (tot F s.toS.m)) γ [] (lent s v).toV z:=by
 rcases Nu s v with e|⟨p,r,sh,u,l,rfl,e,hr,j,hs⟩
 ·grind [wK,ur]
 rw[e];have d:=K0 hr j hs (pY hv.2.1)
 obtain⟨f,y,c,⟨k,i⟩,n,_⟩:=yR h.mem (fj hv.2.1) d;rw[hv.2.2]at c;obtain rfl:=Option.some.inj c;refine⟨fun _=>rfl,U9 (ur h) k _ _ f _ i (fun b hb o x hx=>?_)⟩
 grind [nl]
theorem Xq{s:St}(h:RX g s.toS a w H γ F){ops:List Operand}(c:ops.all aF=true){x:Fl ps}(hx:cC ps (ops.map fun x=>lent s (evA s x))=some x){nt:Nat}(d:ops.length<=nt) :
  RX ⟨nt,w,nl w H (tot F s.toS.m),fun _=>0,fun _=>none,none,[]⟩ ⟨cJ 0 (jU ps x),[]⟩ ⟨(ops.map a.eval).toArray++Array.replicate (nt - (ops.map a.eval).toArray.size) undef,[]⟩ w (nl w H (tot F s.toS.m)) γ F:=by
 obtain⟨l,n,f⟩:=kL hx;refine⟨⟨JV h,fun x hx=>by grind,by simp,fun b=>aj0 _,fun b hb=>absurd rfl hb,fun b hb=>absurd rfl hb⟩,⟨ajB _,rfl,rfl,rfl,fun _ _ _=>rfl,fun _ _ _ h=>h,fun b o h2 h3=>absurd h3 h2,fun b hb=>absurd rfl hb,oF⟩,?_,⟨rfl,fun j b e=>by simp at e,yO (ur h) (jb h)⟩,fun i=>?_⟩
 ·grind
 show AR w _ γ [] (aV (cJ 0 (jU ps x)) i) (Array.getD _ i undef)
 rw[<- f,gN];simp only[aj0,if_true,Nat.sub_zero,ajD];cases hi:ops[i]? with
 |none=>simp only[Option.map_none,Option.getD_none];trivial
 |some y=>
  have hop:=ajM.1 c y (akB hi)
  have hy:=aH h hop
  rw[aj hop]at hy;simp only[Option.map_some,akP];have k:(lent s (evA s y)).toV.isFz=true:=by
   grind
  have hget:((ops.map a.eval).toArray++Array.replicate (nt - (ops.map a.eval).toArray.size) undef).getD i undef=a.eval y:=by
   rw[akK,akL (by grind)];simp[hi]
  rw[hget];exact iC fe (abH h hy k)
theorem QZ{s1:S}(h1:RX g s1 a w H γ F){w':World}{j:FH}{tt:Fp}(d:Fr w (nl w H (tot F s1.m)) (fun _=>0) w' j tt)(q:∀b o y,j b o=some y->RdV w' b o y) :
  RX g s1 a w' (fun b o=>if tot F s1.m b≠0 then none else j b o) γ F:=by
 have hold:∀b,b<w.heap.size->w'.heap[b]? = w.heap[b]? := fun b hb=>d.block b hb rfl
 have e:∀b,tot F s1.m b≠0->w'.heap[b]? = w.heap[b]? := fun b hb=>hold b (h1.mem.lt b hb)
 have n:=fa (w':=w') h1.mem e
 have f:∀b o y,H b o=some y->(if tot F s1.m b≠0 then none else j b o)=some y:=by
  intro b o y hy;split
  ·rename_i hb;rw[h1.mem.nofz b hb o]at hy;cases hy
  exact d.hold b o y (ur h1 b o y hy)
 have hnew:∀b o,(if tot F s1.m b≠0 then none else j b o)≠none->H b o=none->w.heap.size<=b:=by
  intro b o h2 h3;split at h2
  ·grind
  rename_i hb;have h4:nl w H (tot F s1.m) b o=none:=by grind [nl]
  rcases d.hnew b o h2 h4 with h'|h'
  all_goals omega
 have k:Mem w' (fun b o=>if tot F s1.m b≠0 then none else j b o) γ s1.m F:=by
  refine⟨fun b o y hy=>?_,fun x hx=>aZ n f rfl (fun b hb=>e b (by grind [bC])) (h1.mem.roots x hx),h1.mem.keys,h1.mem.le1,fun b hb=>by have:=h1.mem.lt b hb;grind,fun b hb o=>?_⟩
  all_goals grind
 have p:Fr w H (tot F s1.m) w' (fun b o=>if tot F s1.m b≠0 then none else j b o) (tot F s1.m):=
  ⟨d.size,d.os,d.tape,d.output,fun b hb _=>hold b hb,f,fun b o h2 h3=>.inr (hnew b o h2 h3),fun b hb=>.inl hb,d.nz.1,fun b o x l c h2 h3=>by
   grind [Fr.nz,nl]⟩
 exact jS h1 k p (fun i=>dp n f (h1.t i)) (fun _=>rfl)
theorem yu(A:e.ok)(hm:e.P.follows .mixedOrders=true)(hf:e.P.funcs[f]? = some fn) (c:(fn.name == "runtime.NumGoroutine")=false) (hb:fn.body.isSome=true)   {Φ:Fl ps->(Fl rs->Prop)->Prop}
  (d:Nat.ble ps.length fn.ntmps=true) (hc:gS fn.ntmps (fn.body.getD .skip)=true) (l:∀x KK,Φ x KK->tY e fn an ps rs x KK):Cont e.P f (Ao ps rs Φ):=by
 have n:fn.body=some (fn.body.getD .skip):=by cases h:fn.body<;>grind
 refine⟨s6 hf c hb,fun pk s ops k k' hk b=>?_,fun g pk s a w H γ F ops k p i b=>?_⟩
 ·grind [Ao,Ext.refl]
 unfold Ao at b;split at b
 rotate_left
 ·grind
 rename_i x hx hs;obtain⟨KK,h1,hk⟩:=b;have j:ops.length=ps.length:=by
  obtain⟨_,_,C⟩:=kL hx
  grind [gJ]
 have t:=FZ (g:=⟨fn.ntmps,w,nl w H (tot F s.toS.m),fun _=>0,fun _=>none,none,[]⟩) A hm rfl hc (K:=fun r=>∃y,KK y/\r=(dh rs y).toV) (fun r hr=>⟨r,hr,rfl⟩) (l x KK h1)
 refine calls_of_wp hf n (Code.wp_mono (fun ex a' w' hl=>?_) (t _ w ⟨_,γ,F,Xq p i hx (nt:=fn.ntmps) (by rw[j];exact ajG d)⟩));obtain⟨s',hq,H',γ',F',hX'⟩:=hl;have fin:wA e.P s' fn.results.toList (fun r=>∃y,KK y/\r=(dh rs y).toV)->a'.defers=[]/\∃v,(results fn a'.tmps).run e.P w'=.ok v w'/\mX g a pk k (.returned v) w':=by
  intro hq;obtain⟨z,v,s2,I,D,u,o,q,E,y,B,G⟩:=FF hX' rfl hq;refine⟨o.df.1,z,u,.inl ⟨z,s,dh rs y,_,γ,F,rfl,hk y B,?_,QZ p o.fr o.mem.agree⟩⟩;have:=iC fe q
  grind [ahR]
 cases ex with
 |normal=>exact fin hq
 |ret=>exact fin hq
 |_=>exact hq.elim
theorem QI(l:e.ok)(hm:e.P.follows .mixedOrders=true)(hf:e.P.funcs[f]? = some fn) (b:(fn.name == "runtime.NumGoroutine")=false) (hb:fn.body.isSome=true)  {rs:List U} {pre:Fl ps->Prop} {Fn:Fl ps->Fl rs}
  (c:Nat.ble ps.length fn.ntmps=true) (hc:gS fn.ntmps (fn.body.getD .skip)=true) (i:∀x,pre x->∀KK:Fl rs->Prop,KK (Fn x)->tY e fn an ps rs x KK):Cont e.P f (Xp ps rs pre Fn):=by
 have h:=yu l hm hf b hb (rs:=rs) (Φ:=fun x KK=>pre x/\KK=fun y=>y=Fn x) c hc (fun x KK⟨h1,h2⟩=>i x h1 KK (by rw[h2]))
 refine⟨h.run,fun pk s ops k k' hk j=>?_,fun g pk s a w H γ F ops k m d j=>h.call g pk s a w H γ F ops k m d ?_⟩
 all_goals grind [Xp,Ext.refl,Ao]
end
abbrev ad2(ps rs:List U)(pre:Fl ps->Prop)(post:Fl ps->Fl rs->Prop):CKt:=phT ps rs fun x K _=>pre x/\∀y,post x y->K y
structure NmR (σ:Nm->Nm):Prop where
 inv:∀n,σ (σ n)=n
 tyd:∀n,(σ n).tyd=n.tyd
theorem NmR.inj{σ:Nm->Nm}(h:NmR σ){n n':Nm}(e:σ n=σ n'):n=n':=by rw[<- h.inv n,<- h.inv n',e]
def Pl.rn(σ:Nm->Nm)(p:Pl):Pl:=⟨σ p.root,p.off,p.path⟩
def T.rn(σ:Nm->Nm):T->T
 |.pl p=>.pl (p.rn σ)
 |.rf p=>.rf (p.rn σ)
 |t=>t
def AV1.rn(σ:Nm->Nm):AV1->AV1
 |.c t=>.c (t.rn σ)
 |.agg ts=>.agg (ts.map (T.rn σ))
def AV.rn(σ:Nm->Nm):AV->AV
 |.one x=>.one (x.rn σ)
 |.tup xs=>.tup (xs.map (AV1.rn σ))
 |.any=>.any
def Root.rn(σ:Nm->Nm)(r:Root):Root:=⟨r.blk,r.cells.map (T.rn σ)⟩
def rnM(σ:Nm->Nm)(m:Mm):Mm:=m.map fun x=>(σ x.1,x.2.rn σ)
def S.rn(σ:Nm->Nm)(s:S):S:=⟨s.t.map fun x=>(x.1,x.2.rn σ),rnM σ s.m⟩
def Tt.rn(σ:Nm->Nm):Tt->Tt
 |.pl p=>.pl (p.rn σ)
 |.rf p=>.rf (p.rn σ)
 |t=>t
def A1.rn(σ:Nm->Nm):A1->A1
 |.c t=>.c (t.rn σ)
 |.agg ts=>.agg (ts.map (Tt.rn σ))
def At.rn(σ:Nm->Nm):At->At
 |.one x=>.one (x.rn σ)
 |.tup xs=>.tup (xs.map (A1.rn σ))
 |.any=>.any
def Rt.rn(σ:Nm->Nm)(r:Rt):Rt:=⟨r.blk,r.cells.map (Tt.rn σ),r.hole⟩
def St.rn(σ:Nm->Nm)(s:St):St:=⟨s.nx,s.t.map fun x=>(x.1,x.2.1,x.2.2.rn σ),s.m.map fun x=>(σ x.1,x.2.1,x.2.2.rn σ)⟩
variable{y:Value}
section
variable {σ:Nm->Nm}
theorem Tt.rn_toT:∀t:Tt,(t.rn σ).toT=t.toT.rn σ
 |.d _=>rfl
 |.nil=>rfl
 |.ow _ _ _=>rfl
 |.mp _ _ _=>rfl
 |.it _ _ _ _=>rfl
 |.mo _ _ _ _=>rfl
 |.el _ _=>rfl
 |.ga _ _ _=>rfl
 |.pl _=>rfl
 |.rf _=>rfl
 |.any=>rfl
theorem Vv(ts:List Tt):(ts.map (Tt.rn σ)).map Tt.toT=(ts.map Tt.toT).map (T.rn σ):=by
 grind [ajN,Tt.rn_toT]
theorem A1.rn_toV:∀x:A1,(x.rn σ).toV=x.toV.rn σ
 |.c t=>congrArg AV1.c t.rn_toT
 |.agg ts=>congrArg AV1.agg (Vv ts)
theorem At.rn_toV:∀x:At,(x.rn σ).toV=x.toV.rn σ
 |.one x=>congrArg AV.one x.rn_toV
 |.tup xs=>congrArg AV.tup (by
  grind [ajN,A1.rn_toV])
 |.any=>rfl
theorem WV(ts:List T)(h:Option (Nat×Step×List Step)):holed (ts.map (T.rn σ)) h=(holed ts h).map (T.rn σ):=by
 cases h with
 |none=>rfl
 |some x=>
  obtain⟨off,st,q⟩:=x;simp only[holed,ajD];cases ts[off]? with
  |none=>rfl
  |some t=>
   cases t<;>grind [T.rn,ajZ]
theorem Rt.rn_toR(r:Rt):(r.rn σ).toR=r.toR.rn σ:=by
 grind [Rt.toR,Rt.rn,Root.rn,Vv,WV]
theorem St.rn_toS(s:St):(s.rn σ).toS=s.toS.rn σ:=by
 simp_all[St.toS,St.rn,S.rn,rnM,At.rn_toV,Rt.rn_toR]
theorem aaR(t:List (Nat×AV))(i:Nat):aV (t.map fun x=>(x.1,x.2.rn σ)) i=(aV t i).rn σ:=by
 induction t with
 |nil=>rfl
 |cons x r ih=>
  grind [aV]
theorem Z6{cells:List T}{o:Nat}{sub:List Sh}{l:List (List D)}:(cells.map (T.rn σ))[o]? = some (.ow sub l) ↔ cells[o]? = some (.ow sub l):=by
 rw[ajD];cases cells[o]? with
 |none=>simp
 |some t=>cases t<;>simp[T.rn]
variable (hσ:NmR σ)
include hσ
theorem PX(m:Mm)(n:Nm):af (rnM σ m) (σ n)=(af m n).map (Root.rn σ):=by
 induction m with
 |nil=>rfl
 |cons x r ih=>
  obtain⟨k,v⟩:=x;simp only[rnM,List.map_cons,af];by_cases hk:k=n
  ·grind
  rw[if_neg hk,if_neg (fun e=>hk (hσ.inj e))];exact ih
theorem abQ{m:Mm}{p:Pl}(h:bU m p):bU (rnM σ m) (p.rn σ):=by
 grind [bU,Pl.rn,PX,Root.rn,Z6]
theorem abR{m:Mm}{p:Pl}(h:gU m p):gU (rnM σ m) (p.rn σ):=by
 grind [gU,Pl.rn,PX,Root.rn,T.rn]
variable {w:World} {H:FH} {γ:Gam} {m:Mm} {F:Nm->Fp}
abbrev rnG(σ:Nm->Nm)(γ:Gam):Gam:=fun n=>γ (σ n)
theorem af3(p:Pl):plA w (rnG σ γ) (p.rn σ)=plA w γ p:=by
 simp_all[plA,Pl.rn,rnG,NmR.inv]
theorem af4(p:Pl):plV w (rnG σ γ) (p.rn σ)=plV w γ p:=by
 simp_all[plV,Pl.rn,rnG,NmR.inv]
theorem Vu{t:T}{f:Fp}(h:TR w H γ m t f y):TR w H (rnG σ γ) (rnM σ m) (t.rn σ) f y:=by
 cases t with
 |pl p=>
  obtain⟨h1,h2,a,h3,h4⟩:=h;exact⟨h1,abQ hσ h2,a,(af3 hσ p).trans h3,h4⟩
 |rf p=>
  obtain⟨h1,h2,h3⟩:=h;exact⟨h1,abR hσ h2,(af4 hσ p).trans h3⟩
 |_=>exact h
theorem adD{ts:List T}{f:Fp}{vs:List Value}(h:Ts (TR w H γ m) ts f vs):Ts (TR w H (rnG σ γ) (rnM σ m)) (ts.map (T.rn σ)) f vs:=by
 unfold Ts at h⊢;rw[ajH];have key:∀(a:List Unit)(xs:List T)(f:Fp)(vs:List Value),Cs (fun _ t=>TR w H γ m t) a xs f vs->Cs (fun _ t=>TR w H (rnG σ γ) (rnM σ m) t) a (xs.map (T.rn σ)) f vs:=by
  intro a xs;induction xs generalizing a with
  |nil=>intro f vs h;cases a<;>exact h
  |cons x xs ih=>
   intro f vs h;cases a with
   |nil=>exact h.elim
   |cons u a=>
    obtain⟨v,r,f1,b,hv,hf,k1,k2⟩:=h;exact⟨v,r,f1,b,hv,hf,Vu hσ k1,ih a b r k2⟩
 grind
theorem Vq{n:Nm}{r:Root}{f:Fp}(h:bv w H γ m n r f):bv w H (rnG σ γ) (rnM σ m) (σ n) (r.rn σ) f:=by
 unfold bv at h⊢;by_cases hb:r.blk=true
 ·rw[if_pos hb]at h;rw[if_pos (show(r.rn σ).blk=true from hb)];obtain⟨b,cs,ty,fz,g,h1,h2,h3,h4,h5,h6⟩:=h;exact⟨b,cs,ty,fz,g,by rw[rnG,hσ.inv];exact h1,h2,⟨h3.1,fun t a=>h3.2 t (by grind [NmR.tyd])⟩,by grind [Root.rn],adD hσ h5,h6⟩
 rw[if_neg hb]at h;rw[if_neg (show ¬ (r.rn σ).blk=true from hb)];obtain⟨v,t,h1,h2,h3⟩:=h
 simp_all[rnG,NmR.inv,Root.rn,Vu]
theorem FP(m:Mm):tot (fun n=>F (σ n)) (rnM σ m)=tot F m:=by
 funext b
 induction m with
 |nil=>rfl
 |cons x r ih=>
  simp_all[rnM,tot,NmR.inv]
theorem aeE(h:Mem w H γ m F):Mem w H (rnG σ γ) (rnM σ m) (fun n=>F (σ n)):=by
 refine⟨h.agree,fun x hx=>?_,?_,fun b=>by rw[FP hσ];exact h.le1 b,fun b hb=>h.lt b (by simp_all[FP]),fun b hb=>h.nofz b (by simp_all[FP])⟩
 ·simp only[rnM,ajX]at hx;obtain⟨y,hy,rfl⟩:=hx
  simp_all[NmR.inv,Vq,Mem.roots]
 have:(rnM σ m).map (·.1)=(m.map (·.1)).map σ:=by simp_all[rnM]
 rw[this,List.nodup_iff_pairwise_ne,List.pairwise_map];exact(List.nodup_iff_pairwise_ne.1 h.keys).imp (fun a e=>a (hσ.inj e))
theorem Uk{x:AV1}(h:AR1 w H γ m x y):AR1 w H (rnG σ γ) (rnM σ m) (x.rn σ) y:=by
 cases x with
 |c t=>exact Vu hσ h
 |agg ts=>
  obtain⟨cs,h1,h2,h3⟩:=h;exact⟨cs,h1,by grind,adD hσ h3⟩
theorem Up:∀{xs:List AV1}{ys:List Value},ARs w H γ m xs ys->ARs w H (rnG σ γ) (rnM σ m) (xs.map (AV1.rn σ)) ys
 |[],[],_=>trivial
 |_::_,_::_,h=>⟨Uk hσ h.1,Up h.2⟩
 |[],_::_,h=>h.elim
 |_::_,[],h=>h.elim
theorem ac2{x:AV}(h:AR w H γ m x y):AR w H (rnG σ γ) (rnM σ m) (x.rn σ) y:=by
 cases x with
 |one x=>exact Uk hσ h
 |tup xs=>obtain⟨l,h1,h2⟩:=h;exact⟨l,h1,Up hσ h2⟩
 |any=>trivial
theorem Vi{g:G}{s:St}{a a':Act}{ds:List Deferred}{out:Nat->Option Nat}(h:RX g s.toS a w H γ F)(h1:a'.tmps=a.tmps)(h2:a'.defers=ds)(c:∀j b,out j=some b->γ (σ (.out j))=.blk b) :
  RX ⟨g.nt,g.w0,g.H0,g.own0,out,g.ex,ds⟩ (s.rn σ).toS a' w H (rnG σ γ) (fun n=>F (σ n)):=by
 rw[St.rn_toS];refine⟨aeE hσ h.mem,?_,by grind [RX.nt],⟨h2,fun j b hb=>c j b hb,h.df.2.2⟩,fun i=>?_⟩
 ·show Fr g.w0 g.H0 g.own0 w H (tot (fun n=>F (σ n)) (rnM σ s.toS.m))
  rw[FP hσ];exact h.fr
 show AR w H (rnG σ γ) (rnM σ s.toS.m) (aV (s.toS.t.map fun x=>(x.1,x.2.rn σ)) i) _
 rw[aaR];have e:G.tv ⟨g.nt,g.w0,g.H0,g.own0,out,g.ex,ds⟩ a' i=g.tv a i:=by
  grind [G.tv]
 rw[e];exact ac2 hσ (h.t i)
end
def xG(i:Nat):Nat:=i % 1000000 / 1000
def K9(k i:Nat):Nat:=match Nat.beq (xG i) 0 with
 |true=>i+k*1000
 |false=>match Nat.beq (xG i) k with
  |true=>i-k*1000
  |false=>i
def FN(k:Nat):Nm->Nm
 |.loc i=>.loc (K9 k i)
 |.gh i=>.gh (K9 k i)
 |.out i=>.out i
theorem Bt{k:Nat}(hk:1<=k/\k < 1000)(i:Nat):K9 k (K9 k i)=i/\K9 k i / 1000000=i / 1000000:=by
 unfold K9;cases h0:Nat.beq (xG i) 0 with
 |true=>
  have h:=ajF h0
  unfold xG at h;dsimp only;have h1:xG (i+k*1000)=k:=by grind [xG]
  grind [ajF,Nat.beq_refl]
 |false=>
  dsimp only;cases a:Nat.beq (xG i) k with
  |true=>
   have h:=ajF a
   unfold xG at h;dsimp only;have h1:xG (i-k*1000)=0:=by grind [xG]
   grind [Nat.beq_refl]
  |false=>
   grind
theorem Qw{k:Nat}(hk:1<=k/\k < 1000):NmR (FN k):=by
 refine⟨fun n=>?_,fun n=>?_⟩
 ·cases n with
  |loc i=>exact congrArg Nm.loc (Bt hk i).1
  |gh i=>exact congrArg Nm.gh (Bt hk i).1
  |out i=>rfl
 cases n with
 |loc i=>
  show(if K9 k i < 1000000 then none else some (K9 k i / 1000000))=(if i < 1000000 then none else some (i / 1000000))
  grind [Bt]
 |gh i=>rfl
 |out i=>rfl
def ahM(k:Nat)(n:Nm):Bool:=match n with
 |.loc i=>Nat.beq (xG i) k
 |.gh i=>Nat.beq (xG i) k
 |.out _=>false
def adK:Nat->Nat->List (Nm×Nat×Rt)->Nat
 |0,k,_=>k
 |n+1,k,m=>match m.any (fun x=>ahM k x.1)with
  |true=>adK n (k+1) m
  |false=>k
def apK(s:St):Option Nat:=match adK 900 1 s.m with
 |k=>match Nat.ble 1 k&&Nat.blt k 1000 with
  |true=>some k
  |false=>none
def apT(C:CKt):CKt:=fun pk s ops k=>match apK s with
 |some j=>C (fun v s'=>pk v (s'.rn (FN j))) (s.rn (FN j)) ops (fun s' v=>k (s'.rn (FN j)) (v.rn (FN j)))
 |none=>False
def apB(C:CKb):CKb:=fun s ops k=>match apK s with
 |some j=>C (s.rn (FN j)) ops (fun s' v=>k (s'.rn (FN j)) (v.rn (FN j)))
 |none=>false
theorem Pl.rn_rn{σ:Nm->Nm}(hσ:NmR σ)(p:Pl):(p.rn σ).rn σ=p:=by simp[Pl.rn,hσ.inv]
theorem Tt.rn_rn{σ:Nm->Nm}(hσ:NmR σ)(t:Tt):(t.rn σ).rn σ=t:=by cases t<;>simp[Tt.rn,Pl.rn_rn hσ]
theorem A1.rn_rn{σ:Nm->Nm}(hσ:NmR σ)(x:A1):(x.rn σ).rn σ=x:=by
 cases x with
 |c t=>simp[A1.rn,Tt.rn_rn hσ]
 |agg ts=>simp[A1.rn,Function.comp_def,Tt.rn_rn hσ]
theorem At.rn_rn{σ:Nm->Nm}(hσ:NmR σ)(x:At):(x.rn σ).rn σ=x:=by
 cases x with
 |one t=>simp[At.rn,A1.rn_rn hσ]
 |tup ts=>simp[At.rn,Function.comp_def,A1.rn_rn hσ]
 |any=>rfl
theorem Rt.rn_rn{σ:Nm->Nm}(hσ:NmR σ)(r:Rt):(r.rn σ).rn σ=r:=by
 simp_all[Rt.rn,Function.comp_def,Tt.rn_rn]
theorem JZ{σ:Nm->Nm}(t:List (Nat×Nat×At))(k:Nat):cc (t.map fun x=>(x.1,x.2.1,x.2.2.rn σ)) k=(cc t k).map fun x=>(x.1,x.2.rn σ):=by
 induction t<;>grind [cc]
theorem JX{σ:Nm->Nm}(hσ:NmR σ)(m:List (Nm×Nat×Rt))(n:Nm):cV (m.map fun x=>(σ x.1,x.2.1,x.2.2.rn σ)) (σ n)=(cV m n).map fun x=>(x.1,x.2.rn σ):=by
 induction m with
 |nil=>rfl
 |cons x r ih=>
  obtain⟨i,j,v⟩:=x;simp only[List.map_cons,cV];by_cases h:i=n
  ·grind
  rw[if_neg (fun e=>h (hσ.inj e)),if_neg h];exact ih
theorem Ext.rn{σ:Nm->Nm}(hσ:NmR σ){s s':St}(h:Ext (s.rn σ) s'):Ext s (s'.rn σ):=by
 refine⟨h.nx,fun k j v hk hj=>?_,fun n j r hn hj=>?_⟩
 ·rw[show(s'.rn σ).t=s'.t.map fun x=>(x.1,x.2.1,x.2.2.rn σ)from rfl,JZ]at hk;cases h1:cc s'.t k with
  |none=>grind
  |some x=>
   rw[h1]at hk;obtain⟨j',v'⟩:=x;simp only[Option.map_some,ai8,Prod.mk.injEq]at hk;obtain⟨rfl,rfl⟩:=hk;have h2:=h.t k j' v' h1 hj
   rw[show(s.rn σ).t=s.t.map fun x=>(x.1,x.2.1,x.2.2.rn σ)from rfl,JZ]at h2;cases h3:cc s.t k<;>grind [At.rn_rn]
 rw[<- hσ.inv n,show(s'.rn σ).m=s'.m.map fun x=>(σ x.1,x.2.1,x.2.2.rn σ)from rfl,JX hσ]at hn;cases h1:cV s'.m (σ n)with
 |none=>grind
 |some x=>
  rw[h1]at hn;obtain⟨j',v'⟩:=x;simp only[Option.map_some,ai8,Prod.mk.injEq]at hn;obtain⟨rfl,rfl⟩:=hn;have h2:=h.m (σ n) j' v' h1 hj
  rw[show(s.rn σ).m=s.m.map fun x=>(σ x.1,x.2.1,x.2.2.rn σ)from rfl,JX hσ]at h2;cases h3:cV s.m n<;>grind [Rt.rn_rn]
theorem VD{s:St}(h:apK s=some j):1<=j/\j < 1000:=by
 unfold apK at h;dsimp only at h;split at h
 all_goals simp_all
theorem OO{P:Program}{C:CKt}(h:Cont P f C):Cont P f (apT C):=by
 refine⟨h.run,fun pk s ops k k' hk hc=>?_,fun g pk s a w H γ F ops k d c hc=>?_⟩
 ·unfold apT at hc⊢;split at hc
  ·rename_i j hj;have hσ:=Qw (VD hj)
   exact h.ext _ _ _ _ _ (fun s' v n=>hk _ _ (n.rn hσ)) hc
  omega
 unfold apT at hc;split at hc
 ·rename_i j hj;have hσ:=Qw (VD hj)
  have l:=Vi hσ (out:=g.out) (ds:=g.dfs) d rfl d.df.1 (fun i b hb=>d.df.2.1 i b hb)
  refine(h.call _ _ _ a w H _ _ ops _ l c hc).mono ?_;rintro e w' (⟨r,s',av,H',γ',F',rfl,k1,k2,k3⟩|⟨v,s',rfl,k1,H',γ',F',k2⟩)
  ·refine .inl ⟨r,_,_,H',_,_,rfl,k1,?_,Vi hσ (out:=g.out) (ds:=g.dfs) k3 rfl k3.df.1 (fun i b hb=>k3.df.2.1 i b hb)⟩;rw[At.rn_toV];show AR w' H' _ (s'.rn (FN j)).toS.m _ _
   rw[St.rn_toS];exact ac2 hσ k2
  exact .inr ⟨v,_,rfl,k1,H',_,_,Vi hσ (out:=g.out) (ds:=g.dfs) k2 rfl k2.df.1 (fun i b hb=>k2.df.2.1 i b hb)⟩
 grind
end Go.Am
end

section
namespace Go.Am
open Go Go.Proofs
def lky:U->Bool
 |.i _=>true
 |.bo=>true
 |.s=>true
 |_=>false
theorem Xr{u:U}(h:lky u=true):leaf u=true:=by cases u<;>first|rfl|cases h
theorem abI{u:U}(h:lky u=true)(x:El u):(ao u x).toD.isKey=true:=by cases u<;>first|rfl|cases h
def abL(n:Nm):CKt:=fun _ s ops k=>match ops with
 |[x]=>
  let s0:=fP s (evA s x)
  let s1:=s0.fresh n
  match evA s1 x with
  |.one (.c (.d (.mp ku vu z)))=>match lky ku&&leaf vu with
   |true=>z.isSome=true/\k (s1.root n ⟨false,[.mp ku vu (z.getD [])],none⟩) (.one (.c (.rf ⟨n,0,[]⟩)))
   |false=>False
  |_=>False
 |_=>False
section
variable {P:Program}
theorem Uy{f:Nat}{fn:Func}{n:Nm}(hno:n.isOut=false)(hf:P.funcs[f]? = some fn) (d:(fn.name == "runtime.NumGoroutine")=false) (hb:fn.body.isSome=true)
  (c:∀(b:Nat)(es:Array MapEntry)(ck:Nat)(w:World),w.heap[b]? = some (.map es ck)->Calls P f #[.map (some b)] w fun e w'=>e=.returned (.map (some w.heap.size))/\w'=w.alloc (.map es ck)):Cont P f (abL n):=by
 refine⟨fun args w=>mj hf d hb args w,fun pk s ops k k' hk hc=>?_,fun g pk s a w H γ F1 ops k G r hc=>?_⟩
 ·unfold abL at hc⊢;split at hc
  ·dsimp only at hc⊢;split at hc
   ·split at hc
    ·exact⟨hc.1,hk _ _ ((iD _ _).trans ((bQ _ _).trans (da _ _ _))) hc.2⟩
    omega
   omega
  omega
 unfold abL at hc;split at hc
 ·rename_i o;dsimp only at hc;have A:aF o=true:=by grind
  obtain⟨H1,u,h1⟩:=gI G (evA s o);generalize fP s (evA s o)=s0 at hc h1;have h2:=cU h1 n
  have hn:=bZ h1 n
  have E:(s0.fresh n).toS=s0.toS.fresh n:=bx (fT h1)
  rw[<- E]at h2 hn;generalize s0.fresh n=s1 at hc h2 hn;have hv:=aH h2 A
  rw[aj A]at hv;split at hc
  ·rename_i ku vu z q;rw[q]at hv;split at hc
   ·rename_i p;rw[ai9]at p;obtain⟨K,hc⟩:=hc;obtain⟨l,rfl⟩:∃l,z=some l:=by cases z<;>grind
    have hd:FDx H1 (.mp (some (l.map fun x=>((ap ku x.1).headD .any,(ap vu x.2).headD .any)))) (a.eval o):=hv.2
    have el:(l.map fun x=>((ap ku x.1).headD .any,(ap vu x.2).headD .any))=l.map fun x=>((ao ku x.1).toD,(ao vu x.2).toD):=ajN fun x _=>by grind [pE,Xr]
    rw[el]at hd;obtain⟨b,es,ck,J,B,C,i⟩:=UF h2.mem.agree (fun e q=>by
     grind [abI]) hd
    rw[akA]at i;have i:MpO w H1 (l.map (vR ku vu)) es.toList (fun _=>0):=i
    rw[show(([o].map a.eval).toArray:Array Value)=#[.map (some b)]by grind];refine Calls.mono (c b es ck w B) ?_;rintro e w' ⟨rfl,rfl⟩
    have hold:∀k,k<w.heap.size->(w.alloc (.map es ck)).heap[k]? = w.heap[k]? := fun k hk=>cP hk
    have h3:=pe h2 (w':=w.alloc (.map es ck)) (by simp) rfl rfl rfl (fun b hb=>.inl (hold b hb))
    have I:tot u s1.toS.m w.heap.size=0:=by
     rcases aj5 (tot u s1.toS.m w.heap.size)with h'|h'
     ·exact h'
     have:=h2.mem.lt w.heap.size kQ1;omega
    obtain⟨γ',F',h4,j⟩:=dN h3 hno hn (v:=.map (some w.heap.size)) (t:=.mp (l.map (vR ku vu))) (f:=fun b=>if b=w.heap.size then 1 else 0) ⟨w.heap.size,es,ck,fun _=>0,rfl,bw,C,kg (fun _ _ _ h=>h) (fun b hb=>absurd rfl hb) i,fun _=>(akX _).symm⟩ (fun b=>by
      by_cases e:b=w.heap.size
      ·grind
      ·rw[if_neg e];have:=h2.mem.le1 b;omega) (fun b hb=>by
      have e:b=w.heap.size:=by
       grind
      subst e;refine⟨by simp,fun o=>?_⟩;cases hc:H1 w.heap.size o with
      |none=>rfl
      |some y=>have:=(h2.mem.agree _ _ _ hc).lt;omega) (fun b hb=>by
      right
      have e:b=w.heap.size:=by
       grind
      have:=h2.fr.size
      omega)
    have D:(s1.root n ⟨false,[.mp ku vu l],none⟩).toS=⟨s1.toS.t,(n,⟨false,[.mp (l.map (vR ku vu))]⟩)::s1.toS.m⟩:=rfl
    rw[<- D]at h4;refine .inl ⟨_,_,_,H1,γ',F',rfl,hc,?_,h4⟩;exact vo (l:=l.map (vR ku vu)) (by show af ((n,(⟨false,[.mp (l.map (vR ku vu))]⟩:Root))::s1.toS.m) n=_;simp[af]) j
   grind
  grind
 grind
end
end Go.Am
end

section
namespace Go.Am
open Go Go.RowKit Go.Maps Go.Sort Go.Shelf Go.Proofs
theorem zx:Cont prog 106 (abL (.gh 800000)):=Uy rfl func106 (by rfl) (by rfl) (fun b es ck w hb=>AnyW.maps_Clone Tryz.clone106 b es ck w hb)
set_option maxHeartbeats 1000000 in
theorem NI{H:Type}(b j:Nat)(g:DataW H)(R:Value->Option (DataW H×List MemPlace))(w:World)(h:w.ownsMap prog 9 R b j g)(d:Maps.size g<=maxLen)(a:Maps.size g*16<=140737488355328) :
  Calls prog 175 #[.map (some b)] w fun e w'=>∃(v:Value)(c:List a8),e=.returned v/\c.Perm (strKeys g) /\
   w'.ownsRow w.heap.size 9 1 v c.length ((c.mergeSort (fun x y=>decide (x<=y))).map encStr)/\(v=.slice none 0 0 ↔ c=[])/\Below w.heap.size w w':=by
 refine(callsIn_wide (n:=6)).1 ?_;have l:Fence.wide.fn 210:=trivial
 have k:Fence.wide.fn 209:=trivial
 refine callsIn_of_wp func175 rfl trivial ?_ rfl;simp only[Tryz.ntmps175,List.size_toArray,ajK,ajS,Nat.reduceAdd,Nat.reduceSub,Array.replicate_succ,Array.replicate_zero,List.push_toArray,List.append_toArray,aj7,ak2]
 gi_wp2_with (first
  |(gi_at_call 210;refine(Tryz.maps_Keys_210 _ _).mono ?_;rintro e w' ⟨rfl,rfl⟩)
  |(gi_at_call 209;refine(Tryz.slices_Sorted_keys_209_210 b j g R w h d a).mono ?_;rintro e w' ⟨v,c,rfl,m,i,f,hb⟩))
 go_ret
 exact⟨v,c,rfl,m,ownsRow_base_a i (by simp),f,((Below.refl _ w).alloc (ajB _) _).trans (hb.mono (by simp))⟩
def Zq:Value->Option (DataW Unit×List MemPlace):=fun _=>some (.lit (.bool true),[])
theorem abX{b ck:Nat}{es:Array MapEntry}{w:World}(hb:w.heap[b]? = some (.map es ck))(d:MapKept.Stamped es ck)(g:es.size<=1000000)(hk:∀e∈es.toList,∃l:a8,e.key=.string ⟨l.toArray⟩/\l.length<=BIG) :
  ∃f:DataW Unit,w.ownsMap prog 9 Zq b es.size f/\(∀v,v∈strKeys f ↔ ∃e∈es.toList,e.key=.string ⟨v.toArray⟩)/\Maps.size f=es.size:=by
 have c:∀e∈es.toList,∀l:a8,e.key=.string ⟨l.toArray⟩->l.length<=BIG->WideElems.rd prog 9 Zq e=some (.string l,.lit (.bool true)):=fun e a l h1 h2=>by
  unfold WideElems.rd;rw[h1,WideMaps.keyOf_string_mk underlying9 (by show l.toArray.size<=_;grind [BIG,maxLen])];rfl
 have hp:=WideShapes.sorted_perm (es.toList.map (WideElems.rg prog 9 Zq))
 refine⟨_,⟨es,ck,hb,⟨by grind [maxLen],d,fun e a=>?_⟩,ajB _,rfl⟩,fun v=>?_,?_⟩
 ·grind
 ·show v∈List.map _ _ ↔ _
  rw[(hp.map _).mem_iff];simp only[ajX];constructor
  ·rintro⟨_,⟨e,a,rfl⟩,rfl⟩
   obtain⟨l,h1,h2⟩:=hk e a;refine⟨e,a,?_⟩;unfold WideElems.rg;rw[c e a l h1 h2,h1];rfl
  rintro⟨e,a,h1⟩
  obtain⟨l,h3,h2⟩:=hk e a;refine⟨_,⟨e,a,rfl⟩,?_⟩;unfold WideElems.rg;rw[c e a l h3 h2];rw[h3]at h1;have:l=v:=by grind
  rw[<- this];rfl
 grind [Maps.size,List.Perm.length_eq,ajH]
def Ls:CKt:=ad2 [.mp .s .bo] [.sl .s] (fun x=>ld x) (fun x y=>iS x y)
theorem Me:Cont prog 175 Ls:=wL (mj (fn:=f175) kQ0 (by rfl) (by rfl)) (fun x args w H γ t hl S Y d=>by
 obtain⟨hs,hn⟩:=t;obtain⟨L,rfl⟩:∃L:List (a8×Bool),x=some L:=by cases x<;>grind
 have hn:L.length<=1000000:=hn
 obtain⟨u,rfl⟩:∃u,args=[u]:=List.length_eq_one_iff.1 hl
 obtain⟨u',h0,h1⟩:=S 0 _ rfl;obtain rfl:u=u':=by grind
 have f:FDx H (.mp (some (L.map fun x=>(.str x.1,.bool x.2)))) u:=h1.2
 obtain⟨m,f⟩:=f;cases m with
 |zero=>exact f.elim
 |succ m=>
  obtain⟨b,es,ck,rfl,k1,k2,k3⟩:=f;obtain⟨k4,k5⟩:=d b 0 _ k1;rw[ajH]at k2;have A:∀(i:Nat)(e:MapEntry),es.toList[i]? = some e->∃z,L[i]? = some z/\e.key=.string ⟨z.1.toArray⟩/\z.1.length<=BIG:=fun i e R=>by
   have hi:i<L.length:=by grind
   have r:=ajA hi
   have:=(k3 i (.str L[i].1,.bool L[i].2) e (by grind) R).1
   have this:e.key=.string ⟨L[i].1.toArray⟩/\L[i].1.length<=BIG:=by cases m<;>exact this
   grind
  obtain⟨F,E,B,J⟩:=abX k4 k5 (by grind) (fun e R=>by
   grind [List.mem_iff_getElem?])
  have W:es.size<=1000000:=by grind
  have k:∀v,v∈strKeys F ↔ v∈L.map (·.1):=fun v=>by
   rw[B];constructor
   ·grind [List.mem_iff_getElem?]
   intro h;obtain⟨z,r,rfl⟩:=ajX.1 h;obtain⟨i,hi⟩:=List.mem_iff_getElem?.1 r;have M:i<es.toList.length:=by grind
   obtain⟨X,U,h2,_⟩:=A i _ (ajA M)
   grind
  have C:∀v∈L.map (·.1),v.length<=BIG:=fun v hv=>by
   grind [List.mem_iff_getElem?]
  refine(NI b es.size F Zq w E (by grind [maxLen]) kQ1).mono ?_;rintro e w' ⟨v,G,rfl,O,a,P,hb⟩
  have D:=O.length_eq
  have p:=List.mergeSort_perm G fun x y=>decide (x<=y)
  have n:=p.length_eq
  generalize G.mergeSort (fun x y=>decide (x<=y))=Q at a p n;have I:∀v,v∈Q ↔ v∈L.map (·.1):=fun v=>(p.mem_iff.trans O.mem_iff).trans (k v)
  have V:Q.length<=1000000:=by
   rw[n,D];have:(strKeys F).length=Maps.size F:=by
    unfold strKeys Maps.size
    grind
   omega
  obtain⟨_,a⟩:=a;rcases a with⟨rfl,r⟩|⟨gb,cap,cur,rfl,r0,r1,r2,r3,r4,r5⟩
  ·obtain rfl:Q=[]:=akG kQ1;refine⟨_,H,[],rfl,I,hb,fun _ _ _ h=>h,fun b o h1 h2=>absurd h2 h1,fun b o x l c h1 h2=>by grind,fun b o y h=>(d b o y h).frame (hb.block b (d b o y h).lt),fun _=>rfl,1,?_⟩;show FD _ 1 (.li []) _
   grind [mO]
  have T:∀o,H gb o=none:=fun o=>by
   cases hc:H gb o with
   |none=>rfl
   |some y=>have:=(d _ _ _ hc).lt;omega
  rw[Nat.mul_one]at r4 r5;have g:∀o(N:o<Q.length),cur[o]? = some (encStr Q[o]):=fun o N=>by
   have h9:(cur.toList.take G.length)[o]? = some (encStr Q[o]):=by grind
   grind
  refine⟨_,fun b o=>if b=gb then(Q.map encStr)[o]?.map HV.c else H b o,Q,rfl,I,hb,fun b o y h=>?_,fun b o h1 h2=>?_,fun b o x l c h1 h2=>?_,fun b o y h=>?_,fun _=>rfl,1,?_⟩
  ·grind
  ·grind
  ·grind
  ·dsimp only at h;split at h
   ·rename_i K;subst K;obtain⟨z,r,rfl⟩:=ajL.1 h;rw[ajD]at r;obtain⟨q,hq,rfl⟩:=ajL.1 r;have N:=(akH.1 hq).1
    have hc:=g o N
    rw[(akH.1 hq).2]at hc;show World.cell? _ _=some _
    grind [World.cell?]
   exact(d b o y h).frame (hb.block b (d b o y h).lt)
  show FD _ 1 (.li (Q.map (ap .s))) _
  rw[mO];unfold BIG;refine⟨_,_,by rw[ajH,n],by grind,by grind,.inr ⟨gb,0,1,rfl,fun i hi=>?_⟩⟩;have hi:i<Q.length:=by grind
  have e:(Q.map (ap .s)).getD i []=[.str Q[i]]:=by
   rw[List.getD,ajD,ajA hi];rfl
  rw[e];refine⟨rfl,fun j hj=>?_⟩;have hj:j=0:=by omega
  subst hj;refine⟨encStr Q[i],?_,?_⟩
  ·grind
  exact⟨rfl,C _ ((I _).1 (ak1 hi))⟩)
end Go.Am
end

section
namespace Go.Am
variable{p:Prop}
theorem dL[d:Decidable p]{b:Bool}(h:dand p b=true):p/\b=true:=by
 unfold dand at h;split at h
 all_goals grind
variable{P:Program}{gd:Option (Nat×Bool)}{i n:Nat}{key x:At}{m:List (Nm×Nat×Rt)}{op:BinOp}{t:TypeId}
section
variable {kb:At->Bool} {k:At->Prop} (hk:∀v,kb v=true->k v)
include hk
theorem XV{c y:At}(h:XU c x y kb=true):xm c x y k:=by
 unfold XU at h;grind [xm]
omit hk in
theorem abN{κ:IntKind}{a b:Int}{kb:C->Bool}{k:C->Prop}(hk:∀v,kb v=true->k v)(h:afZ op κ a b kb=true):NJ op κ a b k:=by
 unfold afZ at h;grind [NJ,dL]
omit hk in
theorem VJ{x y:C}{kb:C->Bool}{k:C->Prop}(hk:∀v,kb v=true->k v)(h:VI op x y kb=true):BF op x y k:=by
 unfold VI at h;grind [BF,dL,abN]
theorem Zs{y:At}(h:aeQ P op t x y kb=true):Ij P op t x y k:=by
 unfold aeQ at h;grind [Ij,VJ]
theorem agH{op:UnOp}(h:unB op x kb=true):unT op x k:=by
 unfold unB at h;grind [unT]
theorem IR(h:zP x i kb=true):jk x i k:=by
 unfold zP at h;grind [jk]
omit hk in
theorem aaT{q:Prop}(h:q):gift gd n q:=by
 unfold gift
 grind
omit hk in
theorem abD{kb:Nat->Bool}{k:Nat->Prop}(hk:∀v,kb v=true->k v)(h:afU gd m x kb=true):JU gd m x k:=by
 unfold afU at h;grind [JU,aaT]
theorem T6{i:At}(h:Ow x i kb=true):qq x i k:=by
 unfold Ow at h;grind [qq,dL]
omit hk in
theorem Rn{x:Option At}{d:Nat}{kb:Nat->Bool}{k:Nat->Prop}(hk:∀v,kb v=true->k v)(h:pv x d kb=true):fQ x d k:=by
 unfold pv at h;grind [fQ,dL]
theorem TV{lo hi:Option At}(h:Oj P t x lo hi kb=true):ql P t x lo hi k:=by
 unfold Oj at h;grind [ql,Rn,dL]
theorem BL(h:sD P m t x i kb=true):fg P m t x i k:=by
 grind [sD,fg]
theorem BO{i:At}(h:sG P m t x i kb=true):eA P m t x i k:=by
 unfold sG at h;unfold eA
 (repeat' split at h)<;>first|(cases h;done)|grind [dL]
theorem JW(h:P7 P m t x kb=true):kY P m t x k:=by
 unfold P7 at h;grind [kY,dL]
theorem So(h:Mz P t x i kb=true):pG P t x i k:=by
 unfold Mz at h;unfold pG
 grind
theorem Fd(h:wi x kb=true):gP x k:=by
 unfold wi at h;grind [gP]
theorem Rp{ps:List (Nat×At)}(h:L8 P t ps kb=true):px P t ps k:=by
 grind [L8,px]
theorem Wv{b a:TypeId}(h:Wu P b a x kb=true):xa P b a x k:=by
 unfold Wu at h;unfold xa
 grind
theorem NA{ok:Bool}(h:E6 P m t x key ok kb=true):l7 P m t x key ok k:=by
 unfold E6 at h;unfold l7
 (repeat' split at h)<;>first|grind|grind
end
variable{E:Ut}{d:Tmp}{ps:Array (Nat×Operand)}{sub:List Sh}{u:TypeId}{y:Operand}
section
variable {s:St} {kb:St->Bool} {k:St->Prop} (hk:∀s',kb s'=true->k s')
include hk
theorem Q9(h:LW P s t d kb=true):pq P s t d k:=by
 grind [LW,pq]
theorem Zy{x:Operand}(h:aeS s x d kb=true):Io s x d k:=by
 grind [aeS,Io]
theorem zm(h:pw P E s t n ps d kb=true):dW P E s t n ps d k:=by
 grind [pw,dW]
theorem vK(h:mw P E sub s t n ps d kb=true):dw P E sub s t n ps d k:=by
 grind [mw,dw]
theorem vM(h:my P E sub s t n ps d kb=true):dx P E sub s t n ps d k:=by
 unfold my at h;unfold dx
 (repeat' split at h)<;>first|grind|grind
omit hk in
theorem uD{q:Bool}(hq:q=true->p):∀(path:List Step)(sub:List Sh)(u:U)(l:List (El u)),Dy sub u l path q=true->pZ sub u l path p
 |[],_,_,_,h=>by cases h
 |[_],_,_,_,h=>⟨(dL h).1,hq (dL h).2⟩
 |st::a::r,sub,u,l,h=>by
  unfold Dy at h;unfold pZ;split at h
  ·exact⟨(dL h).1,uD hq (a::r) _ _ _ (dL h).2⟩
  grind
omit hk in
theorem zM{q:Bool}(hq:q=true->p):∀(a b:List Step),ya a b q=true->n8 a b p
 |[],[],h=>hq h
 |a::r,b::t,h=>by
  unfold ya at h;unfold n8;split at h
  ·exact⟨(dL h).1,zM hq r t (dL h).2⟩
  grind
 |[],_::_,h=>by cases h
 |_::_,[],h=>by cases h
theorem Fy{p:Pl}{t:Tt}(h:ab2 s p t kb=true):B9 s p t k:=by
 unfold ab2 at h;unfold B9
 (repeat' split at h)<;>first|(cases h;done)|exact hk _ h|exact uD (hk _) _ _ _ _ h|grind [uD,zM]
theorem N4{p:Pl}{ts:List Tt}(h:Fz s p ts kb=true):mg s p ts k:=by
 grind [Fz,mg,uD]
omit hk in
theorem oK{kb:St->Bool}{k:St->Prop}(hk:∀s',kb s'=true->k s'):∀(ts:List Tt)(s:St)(p:Pl),u9 s p ts kb=true->iw s p ts k
 |[],_,_,h=>hk _ h
 |t::ts,s,p,h=>by
  cases t with
  |rf q=>
   simp only[u9]at h;simp only[iw]
   (repeat' split at h)<;>first|(cases h;done)|exact Fy (fun s' h'=>oK hk ts _ _ h') h
  |any=>cases h
  |d c=>cases c<;>first|(cases h;done)|exact Fy (fun s' h'=>oK hk ts _ _ h') h
  |_=>exact Fy (fun s' h'=>oK hk ts _ _ h') h
theorem T3{v:At}(h:Ot P s t x v kb=true):qm P s t x v k:=by
 unfold Ot at h;unfold qm
 grind [N4,oK]
theorem LZ{x:Operand}(h:Ei P E s t u x y d kb=true):lL P E s t u x y d k:=by
 unfold Ei at h;unfold lL;dsimp only at h⊢
 (repeat' split at h)<;>first|(cases h;done)|grind [dL]
theorem Ej{x:Operand}(h:vG P E s t u x y d kb=true):jd P E s t u x y d k:=by
 unfold vG at h;unfold jd
 (repeat' split at h)<;>first|(cases h;done)|grind [dL]
theorem Ke{own:Bool}(h:uA P E own s t d kb=true):fW P E own s t d k:=by
 grind [uA,fW]
theorem Nx(h:E5 P s t x key kb=true):l4 P s t x key k:=by
 unfold E5 at h;unfold l4
 (repeat' split at h)<;>first|grind|grind
theorem NF{v:At}(h:E8 P s t x key v kb=true):l8 P s t x key v k:=by
 unfold E8 at h;unfold l8
 (repeat' split at h)<;>first|grind|grind
theorem B4{b:EnB}{pk:PKt}{n c:At}{f:Bool}(h:sN b s t n c f d kb=true):fi ⟨b.e.P,b.e.E,b.e.cs,b.e.sh,pk⟩ s t n c f d k:=by
 unfold sN at h;unfold fi
 grind [dL]
end
def xE(Cb:CKb)(C:CKt):Prop:=∀(pk:PKt)(s:St)(ops:List Operand)(kb:St->At->Bool)(k:St->At->Prop),(∀s' v,kb s' v=true->k s' v)->Cb s ops kb=true->C pk s ops k
def Ga:CBt->CTt->Prop
 |[],[]=>True
 |x::r,y::q=>(x.1=y.1/\xE x.2 y.2)/\Ga r q
 |_,_=>False
theorem Ga.get:∀{cb:CBt}{cs:CTt},Ga cb cs->∀{f:Nat}{Cb:CKb},CBt.get cb f=some Cb->∃C,cs.get f=some C/\xE Cb C
 |[],[],_,f,Cb,h=>by cases h
 |(f0,c)::r,(f1,C)::q,⟨⟨e,h1⟩,h2⟩,f,Cb,h=>by
  dsimp only at e h1;subst e;simp only[CBt.get]at h;simp only[CTt.get];split at h
  ·simp only[ai8]at h;subst h;exact⟨C,rfl,h1⟩
  exact Ga.get h2 h
 |[],_::_,h,_,_,_=>h.elim
 |_::_,[],h,_,_,_=>h.elim
abbrev EnB.w(b:EnB)(pk:PKt):En:=⟨b.e.P,b.e.E,b.e.cs,b.e.sh,pk⟩
variable{o:Oper}
section
variable {b:EnB} (hc:Ga b.cs b.e.cs) {pk:PKt}
theorem ad3{s:St}{kb:At->Bool}{k:At->Prop}(hk:∀v,kb v=true->k v)(h:qB b o s kb=true):qT (b.w pk) o s k:=by
 unfold qB at h;unfold qT;dsimp only[EnB.w];split at h
 ·grind
 ·grind
 ·exact XV hk h
 ·exact Zs hk h
 ·exact agH hk h
 ·exact JW hk h
 ·exact So hk h
 ·exact BL hk h
 all_goals grind [BO,T6,IR,Wv,TV,Fd,Rp,abD]
include hc
theorem ahN{s:St}{kb:St->Bool}{k:St->Prop}(hk:∀s',kb s'=true->k s')(h:lB b o s kb=true):lT (b.w pk) o s k:=by
 unfold lB at h;unfold lT;have a:∀t,acG (b.w pk) t=acG b.e t:=fun _=>rfl
 simp only[a];dsimp only[EnB.w];split at h
 ·grind [T3]
 ·grind [Q9]
 ·grind [Zy]
 ·grind [zm,vM,vK]
 ·split at h
  ·grind [LZ,Ej]
  ·grind [Nx]
  ·split at h
   ·rename_i C c hf;obtain⟨d,h1,h2⟩:=hc.get c;rw[h1,hf];exact h2 _ _ _ _ _ (fun _ _=>hk _) h
   grind
  ·split at h
   ·split at h
    ·rename_i C c hf;obtain⟨d,h1,h2⟩:=hc.get c;rw[h1,hf];exact h2 _ _ _ _ _ (fun _ _=>hk _) h
    grind
   all_goals grind
  grind
 all_goals grind [Ke,NA,NF,B4]
theorem Qc{s:St}{kb:St->Bool}{k:St->Prop}(hk:∀s',kb s'=true->k s')(h:abS b o s kb=true):AH (b.w pk) o s k:=by
 grind [abS,AH,ad3,ahN]
theorem af2{s:St}{kb:St->Bool}{k:St->Prop}(hk:∀s',kb s'=true->k s')(h:opB b o s kb=true):opT (b.w pk) o s k:=by
 grind [opB,opT,XM,Qc]
theorem Qe{all:List Oper}{kb:St->Bool}{k:St->Prop}(hk:∀s',kb s'=true->k s'):∀(l:List Oper)(s:St),B7 b all l s kb=true->ny (b.w pk) all l s k
 |[],s,h=>hk s h
 |o::r,s,h=>by
  unfold B7 at h;unfold ny;have ih:∀s,B7 b all r s kb=true->ny (b.w pk) all r s k:=fun s h=>Qe hk r s h
  split at h
  all_goals grind [af2]
omit hc in
theorem adL{ops:List Oper}{s:St}{a b:St->Bool}{f no:St->Prop}(hf:∀s',a s'=true->f s')(hn:∀s',b s'=true->no s')(h:gB ops o s a b=true):gT ops o s f no:=by
 grind [gB,gT]
omit hc in
theorem PC{a:Nat->Bool}{f:Nat->Prop}(hf:∀i,a i=true->f i):∀l:List Nat,Zk a l=true->Q8 f l
 |[],_=>trivial
 |[i],h=>hf i h
 |i::j::r,h=>by
  unfold Zk at h;split at h
  ·rename_i hi;exact⟨hf i hi,PC hf (j::r) h⟩
  grind
theorem IK{ops:Array Oper}{kb:St->Bool}{k:St->Prop}(hk:∀s',kb s'=true->k s'):∀(n:Nat)(listed:Array Bool)(s:St),rU b ops n listed s kb=true->gM (b.w pk) ops n listed s k
 |0,listed,s,h=>by
  grind [rU,gM]
 |n+1,listed,s,h=>by
  unfold rU at h;unfold gM;have ih:∀l s,rU b ops n l s kb=true->gM (b.w pk) ops n l s k:=fun l s h=>IK hk n l s h
  split at h
  ·grind
  split at h
  ·split at h
   all_goals grind [ad3,adL]
  grind [PC,adL,Qc]
def lE(n:Nat):Code->An
 |.seq a b=>.s (lE n a) (lE n b)
 |.cond _ a b=>.c (lE n a) (lE n b)
 |.block _ a=>.b (lE n a)
 |.loop a=>.un n (lE n a)
 |_=>.l
structure KtOk (Kb:KtB) (K:Kt):Prop where
 n:∀s,Kb.n s=true->K.n s
 x:∀i s,Kb.x i s=true->K.x i s
 r:∀s,Kb.r s=true->K.r s
omit hc in
theorem Ri(n:Nat)(c:Code)(s:St):(lE n c).pick s=lE n c:=by cases c<;>rfl
theorem lD(n:Nat):∀(c:Code)(s:St){Kb:KtB}{K:Kt},KtOk Kb K->wpB n b c s Kb=true->wpT (b.w pk) (lE n c) c s K
 |.skip,s,Kb,K,a,h=>a.n s h
 |.region i ops f,s,Kb,K,a,h=>by
  cases f with
  |false=>exact Qe hc a.n _ s h
  |true=>exact IK hc a.n _ _ s h
 |.seq x y,s,Kb,K,a,h=>by
  show wpT (b.w pk) (lE n x) x s ⟨fun s'=>wpT (b.w pk) ((lE n y).pick s') y s' K,K.x,K.r⟩
  refine lD n x s (Kb:=⟨fun s'=>wpB n b y s' Kb,Kb.x,Kb.r⟩) ⟨fun s' h'=>?_,a.x,a.r⟩ h;show wpT (b.w pk) ((lE n y).pick s') y s' K
  rw[Ri];exact lD n y s' a h'
 |.cond o x y,s,Kb,K,a,h=>by
  cases o with
  |tmp t=>
   unfold wpB at h;show(match gtA s.t t with|.one (.c (.d (.bo c)))=>if c then wpT (b.w pk) (lE n x) x s K else wpT (b.w pk) (lE n y) y s K|_=>False)
   split at h
   ·rename_i c e;rw[e];cases c with
    |true=>exact lD n x s a h
    |false=>exact lD n y s a h
   grind
  |_=>grind [wpB]
 |.block id x,s,Kb,K,a,h=>by
  refine lD n x s (Kb:=⟨Kb.n,fun i s'=>match Nat.beq i id with|true=>Kb.n s'|false=>Kb.x i s',Kb.r⟩) ⟨a.n,fun i s' h'=>?_,a.r⟩ h
  grind [KtOk.n,KtOk.x]
 |.loop x,s,Kb,K,a,h=>by
  show uy (fun R s'=>wpT (b.w pk) (lE n x) x s' ⟨R,K.x,K.r⟩) n s
  have key:∀m s,Nw (fun R s'=>wpB n b x s' ⟨R,Kb.x,Kb.r⟩) m s=true->uy (fun R s'=>wpT (b.w pk) (lE n x) x s' ⟨R,K.x,K.r⟩) m s:=by
   intro m;induction m with
   |zero=>intro s h;cases h
   |succ m ih=>intro s h;exact lD n x s (Kb:=⟨_,Kb.x,Kb.r⟩) ⟨fun s' h'=>ih s' h',a.x,a.r⟩ h
  exact key n s h
 |.exit i,s,Kb,K,a,h=>a.x i s h
 |.ret,s,Kb,K,a,h=>a.r s h
 |.rangeFunc ..,_,_,_,_,h=>by grind [wpB]
 |.scope ..,_,_,_,_,h=>by grind [wpB]
 |.label ..,_,_,_,_,h=>by grind [wpB]
 |.goto ..,_,_,_,_,h=>by grind [wpB]
 |.refuse ..,_,_,_,_,h=>by grind [wpB]
end
end Go.Am
end

section
namespace Go.Am
open Go Go.Proofs
variable{P:Program}{s:St}
theorem N9{kb:At->Bool}{k:At->Prop}(hk:∀v,kb v=true->k v)(r:ResultVar)(h:FE P s kb r=true):mh P s k r:=by
 unfold FE at h;unfold mh
 (repeat' split at h)<;>first|(cases h;done)|exact hk _ h|exact JW hk h
theorem qf:∀(rs:List ResultVar){kb:List At->Bool}{k:List At->Prop},(∀v,kb v=true->k v)->uX P s rs kb=true->dA P s rs k
 |[],_,_,hk,h=>hk _ h
 |r::rs,kb,k,hk,h=>N9 (k:=fun v=>dA P s rs fun vs=>k (v::vs)) (fun v h'=>qf rs (kb:=fun vs=>kb (v::vs)) (fun vs h2=>hk _ h2) h') r h
theorem FJ{rs:List ResultVar}{us:List U}{KKb:Fl us->Bool}{KK:Fl us->Prop}(hk:∀x,KKb x=true->KK x)(h:KN P rs us KKb s=true):oZ P rs us KK s:=by
 grind [KN,oZ,qf]
variable{res:List ResultVar}
theorem Yk{sh:List Sh}{u:U}{rs:List U}{KKb:Fl rs×El u->Bool}{KK:Fl rs×El u->Prop}(hk:∀x,KKb x=true->KK x)(h:A9 P res sh u rs KKb s=true):uY P res sh u rs KK s:=by
 unfold A9 at h;unfold uY
 grind [qf]
theorem Jk{kb:St->At->Bool}{k:St->At->Prop}(hk:∀s v,kb s v=true->k s v)(s:St)(h:P2 P res kb s=true):kU P res k s:=by
 grind [P2,kU]
abbrev anF(n:Nat)(fn:Func):An:=lE n (fn.body.getD .skip)
section
variable {n:Nat} {b:EnB} (hc:Ga b.cs b.e.cs) {fn:Func} {ps rs:List U}
include hc
theorem zj{x:Fl ps}{KKb:Fl rs->Bool}{KK:Fl rs->Prop}(hk:∀y,KKb y=true->KK y)(h:Im n b fn ps rs x KKb=true):tY b.e fn (anF n fn) ps rs x KK:=
 lD (pk:=fun _ _=>False) hc n _ _ (K:=⟨oZ b.e.P fn.results.toList rs KK,fun _ _=>False,oZ b.e.P fn.results.toList rs KK⟩) ⟨fun s h=>FJ hk h,fun _ _ h=>(by cases h),fun s h=>FJ hk h⟩ h
theorem X9:xE (X8 n b fn ps rs) (Qn b.e fn (anF n fn) ps rs):=by
 intro pk s ops kb k hk h;unfold X8 at h;unfold Qn phT;dsimp only at h⊢;split at h
 ·rename_i x hx;exact⟨fun y=>k _ (dh rs y),zj hc (fun y=>hk _ _) h,fun y hy=>hy⟩
 grind
theorem Xo:xE (Xn n b fn ps rs) (Ao ps rs fun x KK=>tY b.e fn (anF n fn) ps rs x KK):=by
 intro pk s ops kb k hk h;unfold Xn at h;unfold Ao;split at h
 ·exact⟨fun y=>k _ (dh rs y),zj hc (fun y=>hk _ _) h,fun y hy=>hy⟩
 grind
theorem aaV:xE (afP n b fn) (MJ b.e fn (anF n fn)):=by
 intro pk s ops kb k hk h;unfold afP at h;unfold MJ;split at h
 ·exact lD hc n _ _ (K:=⟨kU b.e.P fn.results.toList k,fun _ _=>False,kU b.e.P fn.results.toList k⟩) ⟨fun s h=>Jk hk s h,fun _ _ h=>(by cases h),fun s h=>Jk hk s h⟩ h
 grind
theorem ab1{sh:List Sh}{u:U}:xE (af7 n b fn sh u ps rs) (AY b.e fn (anF n fn) sh u ps rs):=by
 intro pk s ops kb k hk h;have key:∀(a:El u->St)(x:El u)(y:Fl ps),wpB n b (fn.body.getD .skip) ⟨1,(0,0,.one (.c (.pl ⟨.out 0,0,[]⟩)))::BJ 1 ps y,[(.out 0,0,⟨true,bg sh (flat u x),none⟩)]⟩
   ⟨A9 b.e.P fn.results.toList sh u rs (fun z=>kb (a z.2) (dh rs z.1)),fun _ _=>false,A9 b.e.P fn.results.toList sh u rs (fun z=>kb (a z.2) (dh rs z.1))⟩=true ->
   ∃(KK:Fl rs×El u->Prop)(d:Value->El u->Prop),xW b.e fn (anF n fn) sh u ps rs x y KK d/\(∀z x',KK (z,x')->k (a x') (dh rs z))/\∀v x',d v x'->pk v (a x'):=by
  intro a x y h;have f:∀s,A9 b.e.P fn.results.toList sh u rs (fun z=>kb (a z.2) (dh rs z.1)) s=true->uY b.e.P fn.results.toList sh u rs (fun z=>k (a z.2) (dh rs z.1)) s:=fun s h=>Yk (fun z=>hk (a z.2) (dh rs z.1)) h
  refine⟨fun z=>k (a z.2) (dh rs z.1),fun _ _=>False,?_,fun z x' g=>g,fun _ _ h=>h.elim⟩;exact lD (pk:=Qr sh u fun _ _=>False) hc n _ _ (K:=⟨uY b.e.P fn.results.toList sh u rs (fun z=>k (a z.2) (dh rs z.1)),fun _ _=>False,uY b.e.P fn.results.toList sh u rs (fun z=>k (a z.2) (dh rs z.1))⟩) ⟨f,fun _ _ h=>(by cases h),f⟩ h
 unfold af7 at h;unfold AY;dsimp only at h⊢
 (repeat' split at h)<;>first|simp_all|simp_all
end
theorem ag3{Cb:CKb}{C:CKt}(h:xE Cb C):xE (apB Cb) (apT C):=by
 intro pk s ops kb k hk hb;unfold apB at hb;unfold apT;split at hb
 ·exact h _ _ _ _ _ (fun s' v h'=>hk _ _ h') hb
 grind
theorem zR{ps rs:List U}{a:Fl ps->Bool}{pre:Fl ps->Prop}{f:Fl ps->Fl rs}(hp:∀x,a x=true->pre x):xE (fnB ps rs a f) (lg ps rs pre f):=by
 intro pk s ops kb k hk h
 grind [fnB,phT]
theorem WG{ps rs:List U}{f:Fl ps->Fl rs}:xE (fnB ps rs (fun _=>true) f) (sW ps rs f):=by
 intro pk s ops kb k hk h
 grind [fnB,phT]
theorem agF{a:List (a8×Nat)}{df:Nat}:xE (swB a df) (swT a df):=by
 intro pk s ops kb k hk h;unfold swB at h;unfold swT;dsimp only at h⊢;split at h
 ·rename_i x hx;have key:∀(a:List (a8×Nat)){K:Nat->Bool}{K':Nat->Prop},(∀i,K i=true->K' i)->acO x K df a=true->swP x K' df a:=by
   intro a K K' b;induction a with
   |nil=>exact b _
   |cons y r ih=>
    grind [acO,swP]
  grind
 grind
theorem Lv{e:En}(c:e.ok)(hm:e.P.follows .mixedOrders=true){f:Nat}{fn:Func}(hf:e.P.funcs[f]? = some fn) (a:(fn.name == "runtime.NumGoroutine")=false) (hb:fn.body.isSome=true) {an:An} {ps rs:List U}
  (b:Nat.ble ps.length fn.ntmps=true) (hc:gS fn.ntmps (fn.body.getD .skip)=true):Cont e.P f (Qn e fn an ps rs):=
 yv c hm hf a hb (fun _ _ _ _ h⟨KK,h1,h2⟩=>⟨KK,h1,fun y hy=>h y (h2 y hy)⟩) b hc fun x K d⟨KK,h1,h2⟩=>⟨KK,fun _=>False,h2,fun _ h=>h.elim,h1⟩
structure Cl (f:Nat) where
 B:CKb
 I:CKt
 ck:xE B I
 cont:Cont prog f I
abbrev ClS:=List ((f:Nat)×Cl f)
def clB:ClS->CBt
 |[]=>[]
 |x::r=>(x.1,x.2.B)::clB r
def clI:ClS->CTt
 |[]=>[]
 |x::r=>(x.1,x.2.I)::clI r
theorem w6:∀l:ClS,Ga (clB l) (clI l)
 |[]=>trivial
 |x::r=>⟨⟨rfl,x.2.ck⟩,w6 r⟩
noncomputable abbrev clE(E:Ut)(sh:List (TypeId×List Sh))(l:ClS):EnB:=⟨⟨prog,E,clI l,sh,noP⟩,clB l⟩
theorem aaB{f:Nat}{C:CKt}(h:Cont P f C):f<P.funcs.size:=by
 rcases akM f P.funcs.size with h1|h1
 ·exact h1
 have h2:=h.run #[] default
 simp_all[callFunc]
theorem Z8:Nat.ble (prog).funcs.size 1000000=true:=kQ0
theorem C4(E:Ut)(sh:List (TypeId×List Sh))(l:ClS):(clE E sh l).e.ok:=by
 intro x hx;have:∀l:ClS,x∈clI l->Cont prog x.1 x.2:=by
  intro l;induction l with
  |nil=>intro h;cases h
  |cons y r ih=>
   intro h;rcases ajI.1 h with rfl|h
   ·exact y.2.cont
   grind
 have hc:=this l hx
 have h1:=aaB hc
 have h2:=ajG Z8
 grind
def NL(n:Nat)(fn:Func):Bool:=fn.name != "runtime.NumGoroutine" && (fn.body.isSome&&(Nat.ble n fn.ntmps&&(gS fn.ntmps (fn.body.getD .skip)&&Nat.ble fn.ntmps 100000)))
theorem dR{n:Nat}{fn:Func}(h:NL n fn=true):(fn.name == "runtime.NumGoroutine")=false/\fn.body.isSome=true/\Nat.ble n fn.ntmps=true/\gS fn.ntmps (fn.body.getD .skip)=true/\Nat.ble fn.ntmps 100000=true:=by
 grind [NL]
theorem wh:prog.follows .mixedOrders=true:=by rfl
section
variable (E:Ut) (sh:List (TypeId×List Sh)) (l:ClS) (n:Nat) {f:Nat} (fn:Func) (ps rs:List U)
noncomputable def clP(hf:prog.funcs[f]? = some fn:=by kernel_rfl)(h:NL ps.length fn=true:=by kernel_rfl):Cl f:=
 ⟨X8 n (clE E sh l) fn ps rs,Qn (clE E sh l).e fn (anF n fn) ps rs,X9 (w6 l),Lv (C4 E sh l) wh hf (dR h).1 (dR h).2.1 (dR h).2.2.1 (dR h).2.2.2.1⟩
noncomputable def clL(hf:prog.funcs[f]? = some fn:=by kernel_rfl)(h:NL ps.length fn=true:=by kernel_rfl):Cl f:=
 ⟨Xn n (clE E sh l) fn ps rs,Ao ps rs fun x KK=>tY (clE E sh l).e fn (anF n fn) ps rs x KK,Xo (w6 l),yu (C4 E sh l) wh hf (dR h).1 (dR h).2.1 (dR h).2.2.1 (dR h).2.2.2.1 (fun _ _ h=>h)⟩
noncomputable def clN(hf:prog.funcs[f]? = some fn:=by kernel_rfl)(h:NL 0 fn=true:=by kernel_rfl):Cl f:=
 ⟨apB (afP n (clE E sh l) fn),apT (MJ (clE E sh l).e fn (anF n fn)),ag3 (aaV (w6 l)),OO (F9 (C4 E sh l) wh hf (dR h).1 (dR h).2.1 (dR h).2.2.2.1 (dR h).2.2.2.2)⟩
noncomputable def clM(shr:List Sh)(u:U)(hf:prog.funcs[f]? = some fn:=by kernel_rfl)(h:NL (ps.length+1) fn=true:=by kernel_rfl):Cl f:=
 ⟨af7 n (clE E sh l) fn shr u ps rs,AY (clE E sh l).e fn (anF n fn) shr u ps rs,ab1 (w6 l),yy (C4 E sh l) wh hf (dR h).1 (dR h).2.1 (dR h).2.2.1 (dR h).2.2.2.1⟩
noncomputable def clF{pre:Fl ps->Prop}(F:Fl ps->Fl rs)(a:Fl ps->Bool)(hp:∀x,a x=true->pre x)(h:Cont prog f (lg ps rs pre F)):Cl f:=⟨fnB ps rs a F,_,zR hp,h⟩
theorem Uw[DecidableEq (Fl rs)](y:Fl rs)(hf:prog.funcs[f]? = some fn)(h:NL 0 fn=true)(hb:Im n (clE E sh l) fn [] rs () (fun z=>decide (z=y))=true):Cont prog f (sW [] rs (fun _=>y)):=
 yv (e:=(clE E sh l).e) (C4 E sh l) wh hf (dR h).1 (dR h).2.1 (an:=anF n fn) (fun _ _ _ _ h h'=>h _ h') (dR h).2.2.1 (dR h).2.2.2.1 fun x K b c=>⟨K,fun _=>False,fun _ h=>h,fun _ h=>h.elim,zj (w6 l) (KKb:=fun z=>decide (z=y)) (fun z a=>by grind) hb⟩
end
end Go.Am
end

section
namespace Go.Am
section
variable {w:World} {H:FH} {γ:Gam} {F:Nm->Fp}
end
end Go.Am
end

section
namespace Go.Am
open Go Go.RowKit Go.Proofs
end Go.Am
end
