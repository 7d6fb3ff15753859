/-
  Part 10: AmShelf · AmBldCall · AmArr · AmSem · AmData · AmTy · AmJoin · AmNice · AmNiceD · AmU · AmE1 · AmE2 · AmE4 · AmLoopE · AmNiceS.
-/
import Derived.Test.YtlikflolhhlgjaaGreatDoorBa9
import Derived.Test.YtlikflolhhlgjaaGreatDoorProg
set_option linter.unusedSimpArgs false
set_option linter.unusedVariables false
set_option linter.unusedSectionVars false
set_option linter.unnecessarySimpa false
section
namespace Go.Proofs
open Go.Shelf
def Tryz.lays169_ren:Go.Shelf.Ren:=⟨fun | 169=>53 | n=>n,fun | 70=>125 | 9=>9 | 0=>0 | 72=>127 | 37=>106 | 127=>177 | 3=>3 | 5=>5 | n=>n,fun | n=>n⟩
theorem Tryz.lays169:Go.Proofs.Lays.n169 Tryz.prog Tryz.lays169_ren:={
 mixed:=by kernel_rfl
 f169:=Tryz.func53.trans (congrArg some (by kernel_rfl))
 t0:=Tryz.underlying0
 a0:=Tryz.isAgg0
 z0:=Tryz.sizeOf0
 v0:=Tryz.zeroValue0
 t3:=Tryz.underlying3
 a3:=Tryz.isAgg3
 z3:=Tryz.sizeOf3
 v3:=Tryz.zeroValue3
 t9:=Tryz.underlying9
 a9:=Tryz.isAgg9
 z9:=Tryz.sizeOf9
 v9:=Tryz.zeroValue9
 t37:=Tryz.underlying106
 a37:=Tryz.isAgg106
 z37:=Tryz.sizeOf106
 v37:=Tryz.zeroValue106
 t70:=Tryz.underlying125
 a70:=Tryz.isAgg125
 z70:=Tryz.sizeOf125
 v70:=Tryz.zeroValue125
 t72:=Tryz.underlying127
 a72:=Tryz.isAgg127
 z72:=Tryz.sizeOf127
 v72:=Tryz.zeroValue127
 t127:=Tryz.underlying177
 a127:=Tryz.isAgg177
 z127:=Tryz.sizeOf177
 v127:=Tryz.zeroValue177 }
theorem Tryz.Builder_Extra_169:Builder.Extra Tryz.prog Tryz.lays169_ren:={
 sizeBuilder:=by kernel_rfl
 liesBuilder:=by kernel_rfl
 t5:=Tryz.underlying5
 a5:=Tryz.isAgg5
 z5:=Tryz.sizeOf5
 v5:=Tryz.zeroValue5
 infoByte:=by kernel_rfl
 cellsByte:=by kernel_rfl
 sizeByte:=by kernel_rfl
 neB5:=by decide }
open Go.RowKit in
/-- (*strings.Builder).String: "String returns the accumulated string.": WHATEVER THE BUILDER HOLDS. (LAID: no walk: one application.) -/
theorem Tryz.Builder_String_any (B b:Nat) (l:List UInt8) (w:World) (h:Lib.IsBuilder 127 5 B b (Lib.byteCells l) w) (hBw:B<=w.heap.size) :
  Calls Tryz.prog 53 #[.pointer (some ⟨b,0,none⟩)] w fun e w'=>e=.returned (.string ⟨l.toArray⟩)/\Below B w w':=Any.Builder_String_any Tryz.lays169 Tryz.Builder_Extra_169 B b l w h hBw
end Go.Proofs
end

section
namespace Go.Am
open Go.RowKit Go.Proofs
section
variable {P:Program} {g:G} {s:S} {H:FH} {b:Nat} {Q:Exit->S×List UInt8->Prop} {x:S×List UInt8}
theorem Ji {cs:CT} {Q:Exit->Act->World->Prop} {all tail:List Oper} {k:S->Prop} (hQ:∀ s' a' w' γ' F',k s'->RX g s' a' w' H γ' F'->wpList P all.toArray Q tail a' w') :
  ∀ (pre:List Oper) (s:S) (a:Act) (w:World) (γ:Gam) (F:Nm->Fp),pre.all kh=true->oN g.nt all pre=true->nE P cs all pre s k->RX g s a w H γ F->wpList P all.toArray Q (pre++tail) a w
 | [],s,a,w,γ,F,_,_,h,hX=>hQ s a w γ F h hX
 | o::r,s,a,w,γ,F,hk,hc,h,hX=>by
  simp only [adQ,ac9] at hk;simp only [oN,ac9] at hc;have hg:o.guard=none:=by
   have:=hk.1
   simp only [kh,ac9,agH] at this;exact this.1
  simp only [nE,hg] at h;refine wpList_plain hg (fun K hK=>bz (fun a' w' ⟨s',γ',F',h1,h2⟩=>hK _ _ (Ji hQ r s' a' w' γ' F' hk.2 hc.2 h1 h2)) (fun _ _ _ h=>h) (OO (Q:=Q) hk.1 hc.1.1 h hX))
theorem LG {a:Act} {w w':World} {γ:Gam} {F:Nm->Fp} (h:RX g s a w H γ F) (hm:s.m=[]) (hH:∀ b' o',H b' o'≠none->b'<g.w0.heap.size) (hb:Below g.w0.heap.size w w'):RX g s a w' H γ F:=by
 have hK:Keeps w γ s.m w' γ s.m:=dn h.mem (fun c hc=>by rw [hm] at hc; exact absurd rfl hc)
 refine ⟨⟨fun b' o' y hy=>?_,fun y hy=>by rw [hm] at hy; simp at hy,h.mem.keys,h.mem.le1,fun c hc=>by rw [hm] at hc; exact absurd rfl hc,fun c hc=>by rw [hm] at hc; exact absurd rfl hc⟩,?_,h.nt,h.df,fun i=>dv hK (fun _ _ _ h=>h) (h.t i)⟩
 ·have hlt:b'<g.w0.heap.size:=hH b' o' (by rw [hy]; simp)
  rw [hb.cell hlt];exact h.mem.agree b' o' y hy
 ·exact ⟨ae8 h.fr.size hb.size,hb.os.trans h.fr.os,hb.tape.trans h.fr.tape,hb.output.trans h.fr.output,fun k hk h0=>(hb.block k hk).trans (h.fr.block k hk h0),h.fr.hold,h.fr.hnew,h.fr.tt⟩
theorem G7 {cs:CT} (ks:List Nat) (pre:List Oper) (o:Oper) (l':List UInt8) {id:Nat} (hk:pre.all kh=true) (hc:oN g.nt (pre++[o]) pre=true) (hg:o.guard=none) (hd:okD g.nt o.dst=true) (hH:∀ b' o',H b' o'≠none->b'<g.w0.heap.size)
  (s1:S) (hm1:s1.m=[])
  (hcall:∀ a w γ F,RX g s1 a w H γ F->Lib.IsBuilder 127 5 g.w0.heap.size b (Lib.byteCells x.2) w->g.w0.heap.size<=w.heap.size ->
    o.wp P a w (fun a' w'=>(∃ y,a'=a.put o.dst y)/\Lib.IsBuilder 127 5 g.w0.heap.size b (Lib.byteCells l') w'/\Below g.w0.heap.size w w') (fun _ _ _=>False))
  (hQ:Q .normal (⟨pA ks (s1.put o.dst .any).t,[]⟩,l'))
  (h:RK P cs (pre++[o]) pre x.1 (fun s'=>s'=s1)):BW P g H b (.region id (pre++[o]).toArray false) Q x:=by
 intro a w ⟨hm,⟨γ,F,hX⟩,hB⟩;have htot:tot F x.1.m=fun _=>0:=by rw [hm]; rfl
 let g2:G:=⟨g.nt,w,H,fun _=>0,g.out,g.ex,g.dfs⟩
 have hX2:RX g2 x.1 a w H γ F:=⟨hX.mem,⟨adH _,rfl,rfl,rfl,fun _ _ _=>rfl,fun _ _ _ h=>h,fun _ _ h1 h2=>absurd h2 h1,fun c hc=>by rw [htot] at hc; exact absurd rfl hc⟩,hX.nt,⟨hX.df.1,hX.df.2.1,dJ hX⟩,hX.t⟩
 refine wp_region_lit (Ji (g:=g2) (H:=H) (fun s' a' w' γ' F' hk' hX'=>?_) pre x.1 a w γ F hk hc h.out hX2);subst hk';have hf:=hX'.fr
 have hXg:RX g s' a' w' H γ' F':=⟨hX'.mem,hX.fr.trans (by rw [htot]; exact hf),hX'.nt,⟨hX'.df.1,hX'.df.2.1,hX.df.2.2⟩,hX'.t⟩
 have hB':=jp hB hf.size hf.os hf.tape hf.output (fun k hk=>hf.block k hk rfl)
 have hsz:g.w0.heap.size<=w'.heap.size:=hXg.fr.size
 refine wpList_plain hg (fun K hK=>bz (fun a2 w2 ⟨⟨y,hy⟩,h1,h2⟩=>hK _ _ (wpList_nil ?_)) (fun _ _ _ h=>h.elim) (hcall a' w' γ' F' hXg hB' hsz));subst hy;have hX2:=(LG hXg hm1 hH h2).put hd (v:=.any) (y:=y) trivial
 have hX3:=mF ks hX2
 have hm3:(s'.put o.dst .any).m=[]:=by
  cases o.dst <;> exact hm1
 refine ⟨_,hQ,rfl,⟨γ',F',?_⟩,h1⟩;rw [hm3] at hX3;exact hX3
theorem zO {o:Oper} {c:Call} {f:Nat} {a:Act} {w:World} {N:Act->World->Prop} {Q:Exit->Act->World->Prop} (ho:o.op=.call c) (hf:c.callee=.value (.func f)) (hrun:∀ args w,(callFunc f args).run P w=.ok (.enter f args) w)
  (h:Calls P f (c.args.map a.eval) w (fun e w'=>∃ v,e=.returned v/\N (a.put o.dst v) w')):o.wp P a w N Q:=by
 obtain ⟨callee,args,tys⟩:=c;dsimp only at hf h;subst hf;have hr:(execOp a.eval o).run P w=.ok (.enter f (args.map a.eval)) w:=by
  simp only [execOp,ho,resolve,Act.eval,Deferred.ofValue,Sem.run_bind,Sem.run_pure,Result.andThen_ok,invoke];rw [hrun];simp
 unfold Oper.wp;rw [hr];refine Calls.mono h (fun e w' ⟨v,he,hn⟩=>?_);subst he;exact hn
theorem abN {a:Act} {w:World} {γ:Gam} {F:Nm->Fp} {t:List (Nat×AV)} {n:Nm} (h:RX g ⟨t,[(n,⟨true,[.d (.v (.pointer none)),.nil]⟩)]⟩ a w H γ F) (hn:n.tyd=some 127) (h0:∀ k,g.own0 k=0) {i:Nat} (hi:aK t i=.one (.c (.pl ⟨n,0,[]⟩))) (htb:i<TB:=by decide) :
  ∃ b,Lib.IsBuilder 127 5 g.w0.heap.size b (Lib.byteCells []) w/\a.tmps.getD i undef=.pointer (some ⟨b,0,none⟩)/\RX g ⟨t.map fun x=>(x.1,x.2.kill (bR n)),[]⟩ a w H γ F:=by
 have hR:=h.mem.roots _ (adM.2 rfl)
 unfold bm at hR;rw [if_pos rfl] at hR;obtain ⟨b,cs,ty,fz,f,e1,e2,⟨e3,e4⟩,e5,e6,e7⟩:=hR;have hty:=e4 _ hn
 subst hty;unfold G9 at e3;subst e3;have hcs:cs=#[.pointer none,.slice none 0 0]:=by
  obtain ⟨cs⟩:=cs;unfold Ts at e6;dsimp only at e6 e5
  match cs,e5,e6 with
  | [x,y],_,e6=>
   obtain ⟨v,r,f1,f2,hv,_,k1,k2⟩:=e6;obtain ⟨rfl,rfl⟩:=List.cons.inj hv;obtain ⟨v,r,f1,f2,hv,_,k3,k4⟩:=k2;obtain ⟨rfl,rfl⟩:=List.cons.inj hv;obtain ⟨_,m,k1⟩:=k1;obtain ⟨_,k3⟩:=k3;have e1:x=.pointer none:=by cases m <;> exact k1.1
   rw [e1,k3]
 subst hcs;have hti:=h.t i
 rw [hi,G.tv_lo htb] at hti;obtain ⟨_,_,ad,had,hval⟩:=hti;have had':ad=⟨b,0,none⟩:=by
  simp only [plA] at had;dsimp only at e1;rw [e1] at had;simpa using had.symm
 subst had';have hB:g.w0.heap.size<=b:=by
  rcases h.fr.tt b (by
   show F n b+0≠0
   have:=e7 b
   dsimp only at this;rw [if_pos rfl] at this;omega) with h' | h'
  ·exact absurd (h0 b) h'
  ·exact h'
 refine ⟨b,.inl ⟨hB,.slice none 0 0,e2,World.ownsRow_nil _ _ _ _,by simp [Value.ownBlock]⟩,hval,?_⟩;have hd:=nP h n
 have e:S.drop ⟨t,[(n,⟨true,[.d (.v (.pointer none)),.nil]⟩)]⟩ n=⟨t.map fun x=>(x.1,x.2.kill (bR n)),[]⟩:=by
  simp [S.drop,bv,aL,jq]
 rw [e] at hd;exact hd
end
theorem qk {P:Program} {f:Nat} {fn:Func} {c:Code} (hf:P.funcs[f]? = some fn) (hname:(fn.name == "runtime.NumGoroutine")=false) (hb:fn.body=some c) (args:Array Value) (w:World):(callFunc f args).run P w=.ok (.enter f args) w:=by
 have h1:fn.name ≠ "runtime.NumGoroutine" := by simpa using hname
 simp [callFunc,hf,h1,hb]
end Go.Am
end

section
namespace Go.Am
def T.isD:T->Bool
 | .d _=>true
 | _=>false
def T.frB (n:Nm) (row:List D):T->T
 | .pl p=>match p.path with
  | []=>if p.root=n then .el row p.off else .pl p
  | _=>(T.pl p).kill (bR n)
 | t=>t.kill (bR n)
def S.frzB (n:Nm) (s:S):S:=
 match ae s.m n with
 | some ⟨true,cells⟩=>if cells.all T.isD=true then ⟨B6 (AV.map (T.frB n (cells.map T.toD))) s.t,aL (bR n) (bv s.m n)⟩ else s
 | _=>s
theorem Sx {H:FH} {row:List D} {b o:Nat} (h:∀ j,j<row.length->∃ y,H b (o+j)=some y/\FDx H (row.getD j default) y):∃ m,Dv H m row b o:=by
 have key:∀ n,n<=row.length->∃ m,∀ j,j<n->∃ y,H b (o+j)=some y/\FD H m (row.getD j default) y:=by
  intro n;induction n with
  | zero=>exact fun _=>⟨0,fun j hj=>by omega⟩
  | succ n ih=>
   intro hn;obtain ⟨m1,h1⟩:=ih (by omega);obtain ⟨y,hy,m2,hf⟩:=h n (by omega);refine ⟨m1+m2,fun j hj=>?_⟩;by_cases hjn:j=n
   ·subst hjn; exact ⟨y,hy,lg (fun _ _ _ h=>h) _ _ _ _ (by omega) hf⟩
   ·obtain ⟨z,hz,hf⟩:=h1 j (by omega);exact ⟨z,hz,lg (fun _ _ _ h=>h) _ _ _ _ (by omega) hf⟩
 exact key row.length (adH _)
section
variable {P:Program} {g:G} {s:S} {a:Act} {w:World} {H:FH} {γ:Gam} {F:Nm->Fp}
theorem Na {F:Nm->Fp} {m:Mm} {n:Nm} {r:Root} (hk:ae m n=some r) (c:Nat):tot F (bv m n) c+F n c=tot F m c:=by
 induction m with
 | nil=>simp [ae] at hk
 | cons x m ih=>
  obtain ⟨k,y⟩:=x;simp only [ae,bv] at hk ⊢;by_cases hkn:k=n
  ·subst hkn; rw [if_pos rfl,bt]; dsimp only; omega
  ·rw [if_neg hkn] at hk;rw [if_neg hkn,bt,bt];have:=ih hk
   dsimp only at this ⊢;omega
theorem XW (h:RX g s a w H γ F) (n:Nm):∃ H',RX g (s.frzB n) a w H' γ F:=by
 unfold S.frzB;split
 rotate_left
 ·exact ⟨H,h⟩
 rename_i cells hr;split
 rotate_left
 ·exact ⟨H,h⟩
 rename_i hall;have hR:=h.mem.roots _ (aw hr)
 unfold bm at hR;rw [if_pos rfl] at hR;obtain ⟨b,cs,ty,fz,f,e1,e2,e3,e4,e5,e6⟩:=hR;dsimp only at e1 e4 e5 e6;have hd:=nP h n
 have hdm:(s.drop n).m=aL (bR n) (bv s.m n):=rfl
 have tdel:∀ c,tot F (aL (bR n) (bv s.m n)) c+F n c=tot F s.m c:=fun c=>by rw [bH]; exact Na hr c
 let H':FH:=fun k o=>if k=b then w.cell? ⟨k,o,none⟩ else H k o
 have hFb:F n b≠0:=by
  have:=e6 b; rw [if_pos rfl] at this; omega
 have htb:tot F s.m b≠0:=by have:=tdel b; omega
 have hH:∀ k o y,H k o=some y->H' k o=some y:=by
  intro k o y hy;simp only [H'];split
  ·exact h.mem.agree k o y hy
  ·exact hy
 have hag:∀ k o y,H' k o=some y->w.cell? ⟨k,o,none⟩=some y:=by
  intro k o y hy;simp only [H'] at hy;split at hy
  ·exact hy
  ·exact h.mem.agree k o y hy
 have hmem:=hd.mem
 rw [hdm] at hmem;have hKr:Keeps w γ (aL (bR n) (bv s.m n)) w γ (aL (bR n) (bv s.m n)):=⟨fun q hq=>⟨hq,rfl⟩,fun q hq=>⟨hq,rfl⟩⟩
 have hcell:∀ j,w.cell? ⟨b,j,none⟩=cs[j]? := fun j=>by simp [World.cell?,e2]
 have hrow:∃ m,Dv H' m (cells.map T.toD) b 0:=by
  refine Sx (fun j hj=>?_);rw [adE] at hj;have hcj:cells[j]? = some cells[j]:=adA hj
  obtain ⟨v,q,v1,v2,_⟩:=Ie e5 hcj;have hisD:=adI.1 hall cells[j] (aeZ hj)
  refine ⟨v,?_,?_⟩
  ·simp only [H',if_true,afD];rw [hcell];simpa using v1
  ·rw [List.getD,adG,hcj];simp only [Option.map_some,Option.getD_some];generalize cells[j]=t at v2 hisD;cases t with
   | d x=>exact jf hH v2.2
   | _=>simp [T.isD] at hisD
 refine ⟨H',⟨?_,?_,h.nt,h.df,fun i=>?_⟩⟩
 ·refine ⟨hag,fun x hx=>aX hKr hH rfl (fun _ _=>rfl) (hmem.roots x hx),hmem.keys,hmem.le1,hmem.lt,fun k hk o=>?_⟩;have hkb:k≠b:=by
   intro e; subst e;have h1:=tdel k; have h2:=h.mem.le1 k; dsimp only at hk; omega
  simp only [H'];rw [if_neg hkb];exact hmem.nofz k hk o
 ·refine ⟨h.fr.size,h.fr.os,h.fr.tape,h.fr.output,h.fr.block,fun k o y hy=>hH _ _ _ (h.fr.hold k o y hy),fun k o h1 h2=>?_,fun k hk=>h.fr.tt k ?_⟩
  ·by_cases hkb:k=b
   ·subst hkb; exact h.fr.tt k htb
   ·simp only [H'] at h1;rw [if_neg hkb] at h1;exact h.fr.hnew k o h1 h2
  ·have h1:=tdel k; dsimp only at hk; omega
 ·show AR w H' γ _ (aK (B6 _ s.t) i) _
  rw [wF rfl];refine fE (fun t y ht=>?_) (h.t i);have hk:=fun (t:T) (ht:TR w H γ s.m t (fun _=>0) y)=>u7 (eD (n:=n)) hH (fun _ hb=>absurd rfl hb) ht
  cases t with
  | pl p=>
   obtain ⟨pn,po,pp⟩:=p;cases pp with
   | nil=>
    simp only [T.frB];split
    ·rename_i hc;subst hc;obtain ⟨_,_,ad,had,hy⟩:=ht;obtain ⟨m,hm⟩:=hrow;have:ad=⟨b,po,none⟩:=by
      simp only [plA,e1,ac8] at had; exact had.symm
     subst this;exact ⟨fun _=>rfl,b,0,m,by rw [hy,afD],hm⟩
    ·rename_i hc;have:=hk _ ht
     have hb:bR n false ⟨pn,po,[]⟩=false:=by simp [bR,hc]
     simp only [T.kill,hb,adB,if_false] at this;exact this
   | cons st q=>exact hk _ ht
  | _=>exact hk _ ht
theorem ZA (h:R g s a w) (n:Nm):R g (s.frzB n) a w:=by
 obtain ⟨H,γ,F,h⟩:=h;obtain ⟨H',h'⟩:=XW h n;exact ⟨H',γ,F,h'⟩
variable {Q:Exit->S->Prop}
theorem frB (n:Nm) {c:Code} {s s1:S} (h:AW P g c Q s1)
  (e:∀ K:S->Prop,K s1->K (s.frzB n):=by intro K hK; simp only [push_cast,↓reduceIte,Nat.reduceAdd,Nat.reduceSub,Nat.reduceMul,Nat.reduceEqDiff,Nat.reduceLeDiff,reduceCtorEq,Nat.reduceBEq,Nat.reduceLT,Int.reduceToNat,Int.reduceLE]; exact hK):AW P g c Q s:=by
 have h2:=e (fun s'=>AW P g c Q s') h
 intro a w hR;exact h2 a w (ZA hR n)
end
def tI (k:IntKind) (n:Int):T:=.d (.int k n)
def dI (k:IntKind) (n:Int):D:=.int k n
theorem Ua (k:IntKind) (n:Int):(tI k n).owned=false:=rfl
theorem aaC (k:IntKind) (L:List Int):(L.map (tI k)).all T.isD=true:=by
 rw [adI]; intro x hx; rw [ad0] at hx; obtain ⟨n,_,rfl⟩:=hx; rfl
theorem aaF (k:IntKind) (L:List Int):(L.map (tI k)).map T.toD=L.map (dI k):=by
 rw [adV]; rfl
theorem Z7 (k:IntKind) (L:List Int) (n:Nat) (v:Int):(L.map (tI k)).set n (.d (.int k v))=(L.set n v).map (tI k):=by
 rw [aeP]; rfl
theorem UE (L:List Int):lA (L.map fun n=>[dI .u8 n])=some (L.map fun n=>UInt8.ofNat n.toNat):=by
 induction L with
 | nil=>rfl
 | cons n L ih=>rw [List.map_cons,dI,lA,ih]; rfl
theorem Uz (L:List Int):lA ((L.map (dI .u8)).map fun x=>[x])=some (L.map fun n=>UInt8.ofNat n.toNat):=by
 rw [adV]; exact UE L
attribute [push_cast] Pl.at xr bj bW okO
attribute [push_cast high] Ua
attribute [push_cast] T.isD T.frB S.frzB B6 nL aaC aaF Z7 Uz afD agG Nat.mul_one agY T.toD agI List.replicate_zero
end Go.Am
end

section
namespace Go.Am
section
variable {P:Program} {cs:CT} {all:List Oper} {g:G} {Q:Exit->S->Prop}
end
end Go.Am
end

section
open Go Go.Am
namespace Lt
structure Var where
 Name:List UInt8
 Type_:List UInt8
 deriving Inhabited,DecidableEq
def Var.enc (x:Var):List D:=[.str x.Name,.str x.Type_]
def Var.dec:List D->Option Var
 | [.str v0,.str v1]=>some ⟨v0,v1⟩
 | _=>none
theorem Var.dec_inv:∀ (l:List D) (x:Var),Var.dec l=some x->l=x.enc:=by
 intro l x h;unfold Var.dec at h;split at h
 ·simp only [ac8] at h; subst h; rfl
 ·simp at h
def Var.rw:Rw Var:=⟨Var.enc,Var.dec,Var.dec_inv⟩
theorem Var.rows (l:List Var):(∀ x∈l.map Var.enc,x.length=2)=True:=by
 simp [Var.enc]
attribute [push_cast] Var.enc Var.dec Var.rows
structure Class where
 Name:List UInt8
 Fields:List Var
 deriving Inhabited,DecidableEq
def Class.enc (x:Class):List D:=[.str x.Name,.li (x.Fields.map Var.enc)]
def Class.dec:List D->Option Class
 | [.str v0,.li v1]=>(dW Var.rw v1).bind fun w1=>some ⟨v0,w1⟩
 | _=>none
theorem Class.dec_inv:∀ (l:List D) (x:Class),Class.dec l=some x->l=x.enc:=by
 intro l x h;unfold Class.dec at h;split at h
 ·simp only [ad2,ac8] at h;obtain ⟨w1,hw1,rfl⟩:=h;rw [aN hw1]; rfl
 ·simp at h
def Class.rw:Rw Class:=⟨Class.enc,Class.dec,Class.dec_inv⟩
theorem Class.rows (l:List Class):(∀ x∈l.map Class.enc,x.length=2)=True:=by
 simp [Class.enc]
attribute [push_cast] Class.enc Class.dec Class.rows
structure Extern where
 Name:List UInt8
 N:Int
 deriving Inhabited,DecidableEq
def Extern.enc (x:Extern):List D:=[.str x.Name,.int .i64 x.N]
def Extern.dec:List D->Option Extern
 | [.str v0,.int .i64 v1]=>some ⟨v0,v1⟩
 | _=>none
theorem Extern.dec_inv:∀ (l:List D) (x:Extern),Extern.dec l=some x->l=x.enc:=by
 intro l x h;unfold Extern.dec at h;split at h
 ·simp only [ac8] at h; subst h; rfl
 ·simp at h
def Extern.rw:Rw Extern:=⟨Extern.enc,Extern.dec,Extern.dec_inv⟩
theorem Extern.rows (l:List Extern):(∀ x∈l.map Extern.enc,x.length=2)=True:=by
 simp [Extern.enc]
attribute [push_cast] Extern.enc Extern.dec Extern.rows
structure Arg where
 Kind:Int
 S:List UInt8
 N:Int
 deriving Inhabited,DecidableEq
def Arg.enc (x:Arg):List D:=[.int .i64 x.Kind,.str x.S,.int .i64 x.N]
def Arg.dec:List D->Option Arg
 | [.int .i64 v0,.str v1,.int .i64 v2]=>some ⟨v0,v1,v2⟩
 | _=>none
theorem Arg.dec_inv:∀ (l:List D) (x:Arg),Arg.dec l=some x->l=x.enc:=by
 intro l x h;unfold Arg.dec at h;split at h
 ·simp only [ac8] at h; subst h; rfl
 ·simp at h
def Arg.rw:Rw Arg:=⟨Arg.enc,Arg.dec,Arg.dec_inv⟩
theorem Arg.rows (l:List Arg):(∀ x∈l.map Arg.enc,x.length=3)=True:=by
 simp [Arg.enc]
attribute [push_cast] Arg.enc Arg.dec Arg.rows
structure In where
 Block:List UInt8
 A:Arg
 deriving Inhabited,DecidableEq
def In.enc (x:In):List D:=[.str x.Block,.int .i64 x.A.Kind,.str x.A.S,.int .i64 x.A.N]
def In.dec:List D->Option In
 | [.str v0,.int .i64 v1,.str v2,.int .i64 v3]=>some ⟨v0,⟨v1,v2,v3⟩⟩
 | _=>none
theorem In.dec_inv:∀ (l:List D) (x:In),In.dec l=some x->l=x.enc:=by
 intro l x h;unfold In.dec at h;split at h
 ·simp only [ac8] at h; subst h; rfl
 ·simp at h
def In.rw:Rw In:=⟨In.enc,In.dec,In.dec_inv⟩
theorem In.rows (l:List In):(∀ x∈l.map In.enc,x.length=4)=True:=by
 simp [In.enc]
attribute [push_cast] In.enc In.dec In.rows
structure Phi where
 Dst:List UInt8
 Ins:List In
 deriving Inhabited,DecidableEq
def Phi.enc (x:Phi):List D:=[.str x.Dst,.li (x.Ins.map In.enc)]
def Phi.dec:List D->Option Phi
 | [.str v0,.li v1]=>(dW In.rw v1).bind fun w1=>some ⟨v0,w1⟩
 | _=>none
theorem Phi.dec_inv:∀ (l:List D) (x:Phi),Phi.dec l=some x->l=x.enc:=by
 intro l x h;unfold Phi.dec at h;split at h
 ·simp only [ad2,ac8] at h;obtain ⟨w1,hw1,rfl⟩:=h;rw [aN hw1]; rfl
 ·simp at h
def Phi.rw:Rw Phi:=⟨Phi.enc,Phi.dec,Phi.dec_inv⟩
theorem Phi.rows (l:List Phi):(∀ x∈l.map Phi.enc,x.length=2)=True:=by
 simp [Phi.enc]
attribute [push_cast] Phi.enc Phi.dec Phi.rows
structure Bind where
 Name:List UInt8
 A:Arg
 deriving Inhabited,DecidableEq
def Bind.enc (x:Bind):List D:=[.str x.Name,.int .i64 x.A.Kind,.str x.A.S,.int .i64 x.A.N]
def Bind.dec:List D->Option Bind
 | [.str v0,.int .i64 v1,.str v2,.int .i64 v3]=>some ⟨v0,⟨v1,v2,v3⟩⟩
 | _=>none
theorem Bind.dec_inv:∀ (l:List D) (x:Bind),Bind.dec l=some x->l=x.enc:=by
 intro l x h;unfold Bind.dec at h;split at h
 ·simp only [ac8] at h; subst h; rfl
 ·simp at h
def Bind.rw:Rw Bind:=⟨Bind.enc,Bind.dec,Bind.dec_inv⟩
theorem Bind.rows (l:List Bind):(∀ x∈l.map Bind.enc,x.length=4)=True:=by
 simp [Bind.enc]
attribute [push_cast] Bind.enc Bind.dec Bind.rows
structure Frame where
 Func:List UInt8
 Block:List UInt8
 At:Int
 Vars:List Bind
 deriving Inhabited,DecidableEq
def Frame.enc (x:Frame):List D:=[.str x.Func,.str x.Block,.int .i64 x.At,.li (x.Vars.map Bind.enc)]
def Frame.dec:List D->Option Frame
 | [.str v0,.str v1,.int .i64 v2,.li v3]=>(dW Bind.rw v3).bind fun w3=>some ⟨v0,v1,v2,w3⟩
 | _=>none
theorem Frame.dec_inv:∀ (l:List D) (x:Frame),Frame.dec l=some x->l=x.enc:=by
 intro l x h;unfold Frame.dec at h;split at h
 ·simp only [ad2,ac8] at h;obtain ⟨w3,hw3,rfl⟩:=h;rw [aN hw3]; rfl
 ·simp at h
def Frame.rw:Rw Frame:=⟨Frame.enc,Frame.dec,Frame.dec_inv⟩
theorem Frame.rows (l:List Frame):(∀ x∈l.map Frame.enc,x.length=4)=True:=by
 simp [Frame.enc]
attribute [push_cast] Frame.enc Frame.dec Frame.rows
structure Virt where
 Class:List UInt8
 Vals:List Arg
 deriving Inhabited,DecidableEq
def Virt.enc (x:Virt):List D:=[.str x.Class,.li (x.Vals.map Arg.enc)]
def Virt.dec:List D->Option Virt
 | [.str v0,.li v1]=>(dW Arg.rw v1).bind fun w1=>some ⟨v0,w1⟩
 | _=>none
theorem Virt.dec_inv:∀ (l:List D) (x:Virt),Virt.dec l=some x->l=x.enc:=by
 intro l x h;unfold Virt.dec at h;split at h
 ·simp only [ad2,ac8] at h;obtain ⟨w1,hw1,rfl⟩:=h;rw [aN hw1]; rfl
 ·simp at h
def Virt.rw:Rw Virt:=⟨Virt.enc,Virt.dec,Virt.dec_inv⟩
theorem Virt.rows (l:List Virt):(∀ x∈l.map Virt.enc,x.length=2)=True:=by
 simp [Virt.enc]
attribute [push_cast] Virt.enc Virt.dec Virt.rows
structure Instr where
 Op:Int
 Dst:List UInt8
 Name:List UInt8
 Args:List Arg
 Frames:List Frame
 Objs:List Virt
 deriving Inhabited,DecidableEq
def Instr.enc (x:Instr):List D:=[.int .i64 x.Op,.str x.Dst,.str x.Name,.li (x.Args.map Arg.enc),.li (x.Frames.map Frame.enc),.li (x.Objs.map Virt.enc)]
def Instr.dec:List D->Option Instr
 | [.int .i64 v0,.str v1,.str v2,.li v3,.li v4,.li v5]=>(dW Arg.rw v3).bind fun w3=>(dW Frame.rw v4).bind fun w4=>(dW Virt.rw v5).bind fun w5=>some ⟨v0,v1,v2,w3,w4,w5⟩
 | _=>none
theorem Instr.dec_inv:∀ (l:List D) (x:Instr),Instr.dec l=some x->l=x.enc:=by
 intro l x h;unfold Instr.dec at h;split at h
 ·simp only [ad2,ac8] at h;obtain ⟨w3,hw3,w4,hw4,w5,hw5,rfl⟩:=h;rw [aN hw3,aN hw4,aN hw5]; rfl
 ·simp at h
def Instr.rw:Rw Instr:=⟨Instr.enc,Instr.dec,Instr.dec_inv⟩
theorem Instr.rows (l:List Instr):(∀ x∈l.map Instr.enc,x.length=6)=True:=by
 simp [Instr.enc]
attribute [push_cast] Instr.enc Instr.dec Instr.rows
structure Term where
 Kind:Int
 A:Arg
 To:List (List UInt8)
 N:Int
 deriving Inhabited,DecidableEq
def Term.enc (x:Term):List D:=[.int .i64 x.Kind,.int .i64 x.A.Kind,.str x.A.S,.int .i64 x.A.N,.li (x.To.map rS.enc),.int .i64 x.N]
def Term.dec:List D->Option Term
 | [.int .i64 v0,.int .i64 v1,.str v2,.int .i64 v3,.li v4,.int .i64 v5]=>(dW rS v4).bind fun w4=>some ⟨v0,⟨v1,v2,v3⟩,w4,v5⟩
 | _=>none
theorem Term.dec_inv:∀ (l:List D) (x:Term),Term.dec l=some x->l=x.enc:=by
 intro l x h;unfold Term.dec at h;split at h
 ·simp only [ad2,ac8] at h;obtain ⟨w4,hw4,rfl⟩:=h;rw [aN hw4]; rfl
 ·simp at h
def Term.rw:Rw Term:=⟨Term.enc,Term.dec,Term.dec_inv⟩
theorem Term.rows (l:List Term):(∀ x∈l.map Term.enc,x.length=6)=True:=by
 simp [Term.enc]
attribute [push_cast] Term.enc Term.dec Term.rows
structure Block where
 Name:List UInt8
 Phis:List Phi
 Code:List Instr
 End:Term
 deriving Inhabited,DecidableEq
def Block.enc (x:Block):List D:=[.str x.Name,.li (x.Phis.map Phi.enc),.li (x.Code.map Instr.enc),.int .i64 x.End.Kind,.int .i64 x.End.A.Kind,.str x.End.A.S,.int .i64 x.End.A.N,.li (x.End.To.map rS.enc),.int .i64 x.End.N]
def Block.dec:List D->Option Block
 | [.str v0,.li v1,.li v2,.int .i64 v3,.int .i64 v4,.str v5,.int .i64 v6,.li v7,.int .i64 v8]=>(dW Phi.rw v1).bind fun w1=>(dW Instr.rw v2).bind fun w2=>(dW rS v7).bind fun w7=>some ⟨v0,w1,w2,⟨v3,⟨v4,v5,v6⟩,w7,v8⟩⟩
 | _=>none
theorem Block.dec_inv:∀ (l:List D) (x:Block),Block.dec l=some x->l=x.enc:=by
 intro l x h;unfold Block.dec at h;split at h
 ·simp only [ad2,ac8] at h;obtain ⟨w1,hw1,w2,hw2,w7,hw7,rfl⟩:=h;rw [aN hw1,aN hw2,aN hw7]; rfl
 ·simp at h
def Block.rw:Rw Block:=⟨Block.enc,Block.dec,Block.dec_inv⟩
theorem Block.rows (l:List Block):(∀ x∈l.map Block.enc,x.length=9)=True:=by
 simp [Block.enc]
attribute [push_cast] Block.enc Block.dec Block.rows
structure Func where
 Name:List UInt8
 Result:List UInt8
 Params:List Var
 Vars:List Var
 Blocks:List Block
 deriving Inhabited,DecidableEq
def Func.enc (x:Func):List D:=[.str x.Name,.str x.Result,.li (x.Params.map Var.enc),.li (x.Vars.map Var.enc),.li (x.Blocks.map Block.enc)]
def Func.dec:List D->Option Func
 | [.str v0,.str v1,.li v2,.li v3,.li v4]=>(dW Var.rw v2).bind fun w2=>(dW Var.rw v3).bind fun w3=>(dW Block.rw v4).bind fun w4=>some ⟨v0,v1,w2,w3,w4⟩
 | _=>none
theorem Func.dec_inv:∀ (l:List D) (x:Func),Func.dec l=some x->l=x.enc:=by
 intro l x h;unfold Func.dec at h;split at h
 ·simp only [ad2,ac8] at h;obtain ⟨w2,hw2,w3,hw3,w4,hw4,rfl⟩:=h;rw [aN hw2,aN hw3,aN hw4]; rfl
 ·simp at h
def Func.rw:Rw Func:=⟨Func.enc,Func.dec,Func.dec_inv⟩
theorem Func.rows (l:List Func):(∀ x∈l.map Func.enc,x.length=5)=True:=by
 simp [Func.enc]
attribute [push_cast] Func.enc Func.dec Func.rows
structure Program where
 SSA:Bool
 Classes:List Class
 Globals:List Var
 Externs:List Extern
 Funcs:List Func
 deriving Inhabited,DecidableEq
def Program.enc (x:Program):List D:=[.bool x.SSA,.li (x.Classes.map Class.enc),.li (x.Globals.map Var.enc),.li (x.Externs.map Extern.enc),.li (x.Funcs.map Func.enc)]
def Program.dec:List D->Option Program
 | [.bool v0,.li v1,.li v2,.li v3,.li v4]=>(dW Class.rw v1).bind fun w1=>(dW Var.rw v2).bind fun w2=>(dW Extern.rw v3).bind fun w3=>(dW Func.rw v4).bind fun w4=>some ⟨v0,w1,w2,w3,w4⟩
 | _=>none
theorem Program.dec_inv:∀ (l:List D) (x:Program),Program.dec l=some x->l=x.enc:=by
 intro l x h;unfold Program.dec at h;split at h
 ·simp only [ad2,ac8] at h;obtain ⟨w1,hw1,w2,hw2,w3,hw3,w4,hw4,rfl⟩:=h;rw [aN hw1,aN hw2,aN hw3,aN hw4]; rfl
 ·simp at h
def Program.rw:Rw Program:=⟨Program.enc,Program.dec,Program.dec_inv⟩
theorem Program.rows (l:List Program):(∀ x∈l.map Program.enc,x.length=5)=True:=by
 simp [Program.enc]
attribute [push_cast] Program.enc Program.dec Program.rows
structure Reader where
 p:Program
 at_:Int
 where_:Int
 first:Bool
 long:Int
 deriving Inhabited,DecidableEq
def Reader.enc (x:Reader):List D:=[.bool x.p.SSA,.li (x.p.Classes.map Class.enc),.li (x.p.Globals.map Var.enc),.li (x.p.Externs.map Extern.enc),.li (x.p.Funcs.map Func.enc),.int .i64 x.at_,.int .i64 x.where_,.bool x.first,.int .i64 x.long]
def Reader.dec:List D->Option Reader
 | [.bool v0,.li v1,.li v2,.li v3,.li v4,.int .i64 v5,.int .i64 v6,.bool v7,.int .i64 v8]=>(dW Class.rw v1).bind fun w1=>(dW Var.rw v2).bind fun w2=>(dW Extern.rw v3).bind fun w3=>(dW Func.rw v4).bind fun w4=>some ⟨⟨v0,w1,w2,w3,w4⟩,v5,v6,v7,v8⟩
 | _=>none
theorem Reader.dec_inv:∀ (l:List D) (x:Reader),Reader.dec l=some x->l=x.enc:=by
 intro l x h;unfold Reader.dec at h;split at h
 ·simp only [ad2,ac8] at h;obtain ⟨w1,hw1,w2,hw2,w3,hw3,w4,hw4,rfl⟩:=h;rw [aN hw1,aN hw2,aN hw3,aN hw4]; rfl
 ·simp at h
def Reader.rw:Rw Reader:=⟨Reader.enc,Reader.dec,Reader.dec_inv⟩
theorem Reader.rows (l:List Reader):(∀ x∈l.map Reader.enc,x.length=9)=True:=by
 simp [Reader.enc]
attribute [push_cast] Reader.enc Reader.dec Reader.rows
structure Fault where
 e:Int
 deriving Inhabited,DecidableEq
def Fault.enc (x:Fault):List D:=[.int .i64 x.e]
def Fault.dec:List D->Option Fault
 | [.int .i64 v0]=>some ⟨v0⟩
 | _=>none
theorem Fault.dec_inv:∀ (l:List D) (x:Fault),Fault.dec l=some x->l=x.enc:=by
 intro l x h;unfold Fault.dec at h;split at h
 ·simp only [ac8] at h; subst h; rfl
 ·simp at h
def Fault.rw:Rw Fault:=⟨Fault.enc,Fault.dec,Fault.dec_inv⟩
theorem Fault.rows (l:List Fault):(∀ x∈l.map Fault.enc,x.length=1)=True:=by
 simp [Fault.enc]
attribute [push_cast] Fault.enc Fault.dec Fault.rows
structure Line where
 N:Int
 Words:List (List UInt8)
 deriving Inhabited,DecidableEq
def Line.enc (x:Line):List D:=[.int .i64 x.N,.li (x.Words.map rS.enc)]
def Line.dec:List D->Option Line
 | [.int .i64 v0,.li v1]=>(dW rS v1).bind fun w1=>some ⟨v0,w1⟩
 | _=>none
theorem Line.dec_inv:∀ (l:List D) (x:Line),Line.dec l=some x->l=x.enc:=by
 intro l x h;unfold Line.dec at h;split at h
 ·simp only [ad2,ac8] at h;obtain ⟨w1,hw1,rfl⟩:=h;rw [aN hw1]; rfl
 ·simp at h
def Line.rw:Rw Line:=⟨Line.enc,Line.dec,Line.dec_inv⟩
theorem Line.eta (x:Line):(⟨x.N,x.Words⟩:Line)=x:=rfl
theorem Line.rwe (x:Line):Line.rw.enc x=x.enc:=rfl
theorem Line.rwd (l:List D):Line.rw.dec l=Line.dec l:=rfl
theorem Line.rwm:Line.rw.enc=Line.enc:=rfl
theorem Line.rows (l:List Line):(∀ x∈l.map Line.enc,x.length=2)=True:=by
 simp [Line.enc]
attribute [push_cast] Line.enc Line.dec Line.eta Line.rwe Line.rwd Line.rwm Line.rows
structure Read where
 P:Program
 Where:Int
 Long:Int
 deriving Inhabited,DecidableEq
def Read.enc (x:Read):List D:=[.bool x.P.SSA,.li (x.P.Classes.map Class.enc),.li (x.P.Globals.map Var.enc),.li (x.P.Externs.map Extern.enc),.li (x.P.Funcs.map Func.enc),.int .i64 x.Where,.int .i64 x.Long]
def Read.dec:List D->Option Read
 | [.bool v0,.li v1,.li v2,.li v3,.li v4,.int .i64 v5,.int .i64 v6]=>(dW Class.rw v1).bind fun w1=>(dW Var.rw v2).bind fun w2=>(dW Extern.rw v3).bind fun w3=>(dW Func.rw v4).bind fun w4=>some ⟨⟨v0,w1,w2,w3,w4⟩,v5,v6⟩
 | _=>none
theorem Read.dec_inv:∀ (l:List D) (x:Read),Read.dec l=some x->l=x.enc:=by
 intro l x h;unfold Read.dec at h;split at h
 ·simp only [ad2,ac8] at h;obtain ⟨w1,hw1,w2,hw2,w3,hw3,w4,hw4,rfl⟩:=h;rw [aN hw1,aN hw2,aN hw3,aN hw4]; rfl
 ·simp at h
def Read.rw:Rw Read:=⟨Read.enc,Read.dec,Read.dec_inv⟩
theorem Read.rows (l:List Read):(∀ x∈l.map Read.enc,x.length=7)=True:=by
 simp [Read.enc]
attribute [push_cast] Read.enc Read.dec Read.rows
structure RLine where
 N:Int
 Words:List (List UInt8)
 deriving Inhabited,DecidableEq
def RLine.enc (x:RLine):List D:=[.int .i64 x.N,.li (x.Words.map rS.enc)]
def RLine.dec:List D->Option RLine
 | [.int .i64 v0,.li v1]=>(dW rS v1).bind fun w1=>some ⟨v0,w1⟩
 | _=>none
theorem RLine.dec_inv:∀ (l:List D) (x:RLine),RLine.dec l=some x->l=x.enc:=by
 intro l x h;unfold RLine.dec at h;split at h
 ·simp only [ad2,ac8] at h;obtain ⟨w1,hw1,rfl⟩:=h;rw [aN hw1]; rfl
 ·simp at h
def RLine.rw:Rw RLine:=⟨RLine.enc,RLine.dec,RLine.dec_inv⟩
theorem RLine.rows (l:List RLine):(∀ x∈l.map RLine.enc,x.length=2)=True:=by
 simp [RLine.enc]
attribute [push_cast] RLine.enc RLine.dec RLine.rows
structure Sheet where
 l:List Line
 deriving Inhabited,DecidableEq
def Sheet.enc (x:Sheet):List D:=[.li (x.l.map Line.enc)]
def Sheet.dec:List D->Option Sheet
 | [.li v0]=>(dW Line.rw v0).bind fun w0=>some ⟨w0⟩
 | _=>none
theorem Sheet.dec_inv:∀ (l:List D) (x:Sheet),Sheet.dec l=some x->l=x.enc:=by
 intro l x h;unfold Sheet.dec at h;split at h
 ·simp only [ad2,ac8] at h;obtain ⟨w0,hw0,rfl⟩:=h;rw [aN hw0]; rfl
 ·simp at h
def Sheet.rw:Rw Sheet:=⟨Sheet.enc,Sheet.dec,Sheet.dec_inv⟩
theorem Sheet.rows (l:List Sheet):(∀ x∈l.map Sheet.enc,x.length=1)=True:=by
 simp [Sheet.enc]
attribute [push_cast] Sheet.enc Sheet.dec Sheet.rows
structure Form where
 Word:List UInt8
 Dst:Bool
 Named:Bool
 Least:Int
 Most:Int
 deriving Inhabited,DecidableEq
def Form.enc (x:Form):List D:=[.str x.Word,.bool x.Dst,.bool x.Named,.int .i64 x.Least,.int .i64 x.Most]
def Form.dec:List D->Option Form
 | [.str v0,.bool v1,.bool v2,.int .i64 v3,.int .i64 v4]=>some ⟨v0,v1,v2,v3,v4⟩
 | _=>none
theorem Form.dec_inv:∀ (l:List D) (x:Form),Form.dec l=some x->l=x.enc:=by
 intro l x h;unfold Form.dec at h;split at h
 ·simp only [ac8] at h; subst h; rfl
 ·simp at h
def Form.rw:Rw Form:=⟨Form.enc,Form.dec,Form.dec_inv⟩
theorem Form.rows (l:List Form):(∀ x∈l.map Form.enc,x.length=5)=True:=by
 simp [Form.enc]
attribute [push_cast] Form.enc Form.dec Form.rows
structure RForm where
 Word:List UInt8
 Dst:Bool
 Named:Bool
 Least:Int
 Most:Int
 deriving Inhabited,DecidableEq
def RForm.enc (x:RForm):List D:=[.str x.Word,.bool x.Dst,.bool x.Named,.int .i64 x.Least,.int .i64 x.Most]
def RForm.dec:List D->Option RForm
 | [.str v0,.bool v1,.bool v2,.int .i64 v3,.int .i64 v4]=>some ⟨v0,v1,v2,v3,v4⟩
 | _=>none
theorem RForm.dec_inv:∀ (l:List D) (x:RForm),RForm.dec l=some x->l=x.enc:=by
 intro l x h;unfold RForm.dec at h;split at h
 ·simp only [ac8] at h; subst h; rfl
 ·simp at h
def RForm.rw:Rw RForm:=⟨RForm.enc,RForm.dec,RForm.dec_inv⟩
theorem RForm.rows (l:List RForm):(∀ x∈l.map RForm.enc,x.length=5)=True:=by
 simp [RForm.enc]
attribute [push_cast] RForm.enc RForm.dec RForm.rows
def Sheet.cenc (x:Sheet):List T:=[.ow [.fr,.fr] (x.l.map Line.enc)]
def Sheet.cdec:List T->Option Sheet
 | [.ow sub v0]=>if sub.all Sh.isFr=true/\sub.length=2 then (dW Line.rw v0).bind fun w0=>some ⟨w0⟩ else none
 | [.nil]=>some ⟨[]⟩
 | _=>none
theorem Sheet.cs_inv (l:List T) (x:Sheet) (h:Sheet.cdec l=some x):tN [(0,[.fr,.fr])] l=x.cenc:=by
 unfold Sheet.cdec at h;split at h
 ·split at h
  ·rename_i sub v0 hs;simp only [ad2,ac8] at h;obtain ⟨w0,h0,rfl⟩:=h;rw [aN h0];have e:sub=[.fr,.fr]:=by rw [Y6 hs.1,hs.2]; rfl
   subst e; rfl
  ·simp at h
 ·simp only [ac8] at h; subst h; rfl
 ·simp at h
theorem Sheet.cs_ren (l:List T) (x:Sheet) (n:Nm) (h:Sheet.cdec l=some x):Sheet.cdec (l.map (T.ren n (.out 0)))=some x:=by
 unfold Sheet.cdec at h;split at h
 ·exact h
 ·exact h
 ·simp at h
def Sheet.cs:Cs1 Sheet:=⟨0,Sheet.cenc,Sheet.cdec,[(0,[.fr,.fr])],Sheet.cs_inv,fun _=>rfl,Sheet.cs_ren⟩
attribute [push_cast] Sheet.cenc Sheet.cdec
end Lt
end

section
namespace Go.Am
open Go.Proofs
theorem ty2:ty Tryz.prog 2=⟨true,false,1,8,.int .i64⟩:=by kernel_rfl
theorem ty5:ty Tryz.prog 5=⟨true,false,1,1,.int .u8⟩:=by kernel_rfl
theorem ty9:ty Tryz.prog 9=⟨true,false,1,16,.str⟩:=by kernel_rfl
theorem ac5:ty Tryz.prog 43=⟨true,false,1,24,.sl 9⟩:=by kernel_rfl
theorem acY:ty Tryz.prog 57=⟨true,false,1,24,.sl 67⟩:=by kernel_rfl
theorem ac2:ty Tryz.prog 67=⟨true,true,2,32,.st [(0,1,some false),(1,1,some false)]⟩:=by kernel_rfl
theorem ab5:ty Tryz.prog 106=⟨true,false,1,24,.sl 5⟩:=by kernel_rfl
theorem abQ:ty Tryz.prog 173=⟨true,true,20,20,.ar 20 5⟩:=by kernel_rfl
theorem ac7:zcells Tryz.prog 67=some [.int .i64 0,.slice none 0 0]:=by kernel_rfl
theorem ab1:zcells Tryz.prog 127=some [.pointer none,.slice none 0 0]:=by kernel_rfl
theorem acR:zcells Tryz.prog 173=some [.int .u8 0,.int .u8 0,.int .u8 0,.int .u8 0,.int .u8 0,.int .u8 0,.int .u8 0,.int .u8 0,.int .u8 0,.int .u8 0,.int .u8 0,.int .u8 0,.int .u8 0,.int .u8 0,.int .u8 0,.int .u8 0,.int .u8 0,.int .u8 0,.int .u8 0,.int .u8 0]:=by kernel_rfl
attribute [push_cast] ty2 ty5 ty9 ac5 acY ac2 ab5 abQ ac7 ab1 acR
end Go.Am
end

section
namespace Lt
def jw:Bool->List (List UInt8)->List UInt8
 | _,[]=>[]
 | b,w::r=>(if b then [32] else [])++w++jw true r
def ay (l:List Line):List UInt8:=l.flatMap fun x=>jw false x.Words++[10]
theorem GC:∀ (ws:List (List UInt8)) (b:Bool) (j:Nat),j<ws.length->jw b (ws.take (j+1))=jw b (ws.take j)++(if b||decide (0<j) then [32] else [])++ws.getD j []
 | [],_,j,h=>by simp at h
 | w::r,b,0,_=>by cases b <;> simp [jw]
 | w::r,b,j+1,h=>by
  have:=GC r true j (by simpa using h)
  rw [agJ,jw,this,agJ,jw];simp
theorem Rr (ws:List (List UInt8)) (b:Bool) (j:Nat):∃ r,jw b ws=jw b (ws.take j)++r:=by
 induction ws generalizing b j with
 | nil=>exact ⟨[],by simp [jw]⟩
 | cons w r ih=>
  cases j with
  | zero=>exact ⟨jw b (w::r),by simp [jw]⟩
  | succ j=>
   obtain ⟨q,hq⟩:=ih true j;exact ⟨q,by rw [agJ,jw,jw,hq]; simp⟩
theorem BY (l:List Line) (i:Nat) (h:i<l.length):ay (l.take (i+1))=ay (l.take i)++jw false (l.getD i default).Words++[10]:=by
 have e:l.take (i+1)=l.take i++[l.getD i default]:=by
  rw [List.take_add_one,List.getD,adA h]; rfl
 rw [e,ay,ae7];simp [ay]
theorem FJ (l:List Line) (i:Nat):∃ r,ay l=ay (l.take i)++r:=⟨ay (l.drop i),by rw [ay,ay,ay,<- ae7,afZ]⟩
theorem Uy (l:List Line) (i j:Nat) (h:i<l.length):(ay (l.take i)).length+(jw false ((l.getD i default).Words.take j)).length+1<=(ay l).length:=by
 obtain ⟨r,hr⟩:=FJ l (i+1);obtain ⟨q,hq⟩:=Rr (l.getD i default).Words false j;rw [hr,BY l i h,hq];simp;omega
theorem A3:∀ (ws:List (List UInt8)) (b:Bool),ws.length<=(jw b ws).length+1
 | [],_=>by simp
 | [w],b=>by simp
 | w::v::r,b=>by
  have:=A3 (v::r) true
  have h:(jw true (v::r)).length ≥ (v::r).length:=by
   have aux:∀ q:List (List UInt8),q.length<=(jw true q).length:=by
    intro q;induction q with
    | nil=>simp
    | cons a q ih=>simp [jw]; omega
   exact aux _
  rw [jw];simp only [adD,adF] at *;omega
theorem E4:∀ l:List Line,l.length<=(ay l).length
 | []=>by simp
 | x::l=>by
  have:=E4 l
  rw [ay,adS];rw [ay] at this;simp only [adD,adF,adL];omega
end Lt
namespace Go.Am
open Go.RowKit Go.Proofs
section
variable {P:Program} {cs:CT} {all:List Oper} {g:G} {s:S} {H:FH} {b:Nat} {Q:Exit->S×List UInt8->Prop} {x:S×List UInt8}
theorem Ii {id:Nat} {l:List Oper} {k:S->Prop} {a:Act} {w:World} {γ:Gam} {F:Nm->Fp} (hk:l.all kh=true) (hc:oN g.nt l l=true) (h:nE P cs l l s k) (hX:RX g s a w H γ F) :
  (Code.region id l.toArray false).wp P (fun e a' w'=>e=.normal/\∃ s' γ' F',k s'/\RX g s' a' w' H γ' F') a w:=
 wp_region_lit (tR (Q:=fun e a' w'=>e=.normal/\∃ s' γ' F',k s'/\RX g s' a' w' H γ' F') (fun s' a' w' γ' F' h1 h2=>⟨rfl,s',γ',F',h1,h2⟩) l s a w γ F hk hc h hX)
theorem Yf (ks:List Nat) (ds:List Nm) {id1 id2:Nat} {l1 l2:List Oper} {c d:Code} (K:S×List UInt8->Prop) (hk1:l1.all kh=true) (hk2:l2.all kh=true) (hc1:oN g.nt l1 l1=true) (hc2:oN g.nt l2 l2=true)
  (s1 s2:S) (hm2:s2.m=[]) (hK2:K (s2,x.2))
  (h1:RK P cs l1 l1 x.1 (fun s'=>s'=s1)) (h2:RK P cs l2 l2 s1 (fun s'=>s'.cut ks ds=s2))
  (hK:∀ x',K x'->BW P g H b c (fun e x=>match e with | .normal=>BW P g H b d Q x | e=>Q e x) x') :
  BW P g H b (.seq (.region id1 l1.toArray false) (.seq (.seq (.region id2 l2.toArray false) c) d)) Q x:=by
 intro a w ⟨hm,⟨γ,F,hX⟩,hB⟩;have htot:tot F x.1.m=fun _=>0:=by rw [hm]; rfl
 let g2:G:=⟨g.nt,w,H,fun _=>0,g.out,g.ex,g.dfs⟩
 have hX2:RX g2 x.1 a w H γ F:=⟨hX.mem,⟨adH _,rfl,rfl,rfl,fun _ _ _=>rfl,fun _ _ _ h=>h,fun _ _ h1 h2=>absurd h2 h1,fun c hc=>by rw [htot] at hc; exact absurd rfl hc⟩,hX.nt,⟨hX.df.1,hX.df.2.1,dJ hX⟩,hX.t⟩
 refine wp_seq (Code.wp_mono (fun e a1 w1 ⟨he,s1',γ1,F1,e1,hX1⟩=>?_) (Ii (g:=g2) hk1 hc1 h1.out hX2));subst he; subst e1;refine wp_seq (wp_seq (Code.wp_mono (fun e a2 w2 ⟨he,s2',γ2,F2,e2,hX2⟩=>?_) (Ii (g:=g2) hk2 hc2 h2.out hX1)));subst he; subst e2;have hX3:=vr ds (mF ks hX2)
 have hf:=hX3.fr
 have hRB:RB g H b (s2'.cut ks ds,x.2) a2 w2:=⟨hm2,⟨γ2,F2,hX3.mem,hX.fr.trans (by rw [htot]; exact hf),hX3.nt,⟨hX3.df.1,hX3.df.2.1,hX.df.2.2⟩,hX3.t⟩,jp hB hf.size hf.os hf.tape hf.output (fun k hk=>hf.block k hk rfl)⟩
 refine Code.wp_mono (fun e a w hl=>?_) (hK _ hK2 a2 w2 hRB);obtain ⟨s',q1,q2⟩:=hl;cases e with
 | normal=>exact q1 a w q2
 | exit _=>exact ⟨s',q1,q2⟩
 | goto _=>exact ⟨s',q1,q2⟩
 | ret=>exact ⟨s',q1,q2⟩
 | panic _=>exact ⟨s',q1,q2⟩
 | outgrown=>exact ⟨s',q1,q2⟩
theorem YE (ks:List Nat) {c:Code} (h:BW P g H b c Q (⟨pA ks x.1.t,x.1.m⟩,x.2)):BW P g H b c Q x:=fun a w ⟨hm,⟨γ,F,hX⟩,hB⟩=>h a w ⟨hm,⟨γ,F,mF ks hX⟩,hB⟩
end
end Go.Am
end

section
namespace Lt
open Go
def tZ (c:Int):Bool:=(((decide (97<=c))&&(decide (c<=122)))||((decide (65<=c))&&(decide (c<=90))))||(decide (c=95))
def letter (c:UInt8):Bool:=tZ ((c.toNat:Nat):Int)
def fW (c:UInt8):Bool:=(decide (48<=((c.toNat:Nat):Int)))&&(decide (((c.toNat:Nat):Int)<=57))
def kept (s:List UInt8):Bool:=((decide (s=[110,117,108,108]))||(decide (s=[105,110,116])))||(decide (s=[102,108,111,97,116]))
def g6 (c:UInt8):Bool:=letter c||fW c
def Name (s:List UInt8):Bool:=(!decide (s=[])&&decide (s.length<=16)&&letter (s.getD 0 0)&&!kept s)&&s.all g6
def kind (s:List UInt8):Bool:=((decide (s=[105,110,116]))||(decide (s=[102,108,111,97,116])))||Name s
def typed (l:List Var) (most:Int):Bool:=decide ((l.length:Int)<=most)&&l.all fun v=>Name v.Name&&kind v.Type_
def Plain (n:Int):Int:=
 if ((decide ((IntKind.i64.wrap ((BitVec.ofInt IntKind.i64.bits n &&& BitVec.ofInt IntKind.i64.bits 9218868437227405312).toNat:Nat))=9218868437227405312))&&(!decide ((IntKind.i64.wrap ((BitVec.ofInt IntKind.i64.bits n &&& BitVec.ofInt IntKind.i64.bits 4503599627370495).toNat:Nat))=0)))=true then 9221120237041090560 else n
def aJ (a:Arg):Bool:=
 if a.Kind=1 then Name a.S&&decide (a.N=0)
 else if a.Kind=2 then decide (a.S=[])
 else if a.Kind=3 then decide (a.S=[])&&decide (Plain a.N=a.N)
 else if a.Kind=4 then decide (a.S=[])&&decide (a.N=0)
 else if a.Kind=5 then (decide (a.S=[])&&decide (0<=a.N))&&decide (a.N<=999)
 else false
def aZ (objs:Bool) (a:Arg):Bool:=aJ a&&!(decide (a.Kind=5)&&!objs)
def bx (l:List Arg) (objs:Bool):Bool:=l.all (aZ objs)
def gn (b:Bind):Bool:=Name b.Name&&aZ true b.A
def frame (f:Frame):Bool:=(Name f.Func&&Name f.Block&&decide (0<=f.At)&&decide (f.At<=1024)&&decide (f.Vars.length<=16))&&f.Vars.all gn
def virt (o:Virt):Bool:=Name o.Class&&decide (o.Vals.length<=8)&&bx o.Vals true
def Gl (l:List UInt8):Nat->Int->Nat->Nat->List UInt8
 | 0,_,_,_=>[]
 | k+1,n,f,i=>
  if i<l.length then
   if (((l.getD i 0).toNat:Nat):Int)=32 then
    if IntKind.i64.wrap (n - 1)=0 then (l.drop (f+1)).take (i - (f+1)) else Gl l k (IntKind.i64.wrap (n - 1)) i (i+1)
   else Gl l k n f (i+1)
  else []
def nth (l:List UInt8) (n:Int):List UInt8:=Gl l (l.length+1) n 0 1
def two:List UInt8:=32::97::100::100::32::115::117::98::32::109::117::108::32::100::105::118::32::114::101::109::32::97::110::100::32::111::114::32::120::111::114::32::115::104::108::32::115::104::114::32::101::113::32::110::101::32::108::116::32::108::101::32::102::97::100::100::32::102::115::117::98::32::102::109::117::108::32::102::100::105::118::32::102::101::113::32::102::108::116::32::102::108::101::32::[]
def Of (op:Int):Form×Bool:=
 if 1<=op/\op<=21 then (⟨nth two op,true,false,2,2⟩,true)
 else if 22<=op/\op<=24 then (⟨nth [32,105,116,111,102,32,102,116,111,105,32,109,111,118,32] (IntKind.i64.wrap (op - 21)),true,false,1,1⟩,true)
 else if op=25 then (⟨[110,101,119],true,true,0,8⟩,true)
 else if op=26 then (⟨[108,111,97,100],true,true,1,1⟩,true)
 else if op=27 then (⟨[115,116,111,114,101],false,true,2,2⟩,true)
 else if op=28 then (⟨[115,97,109,101],true,false,2,2⟩,true)
 else if op=29 then (⟨[103,108,111,97,100],true,true,0,0⟩,true)
 else if op=30 then (⟨[103,115,116,111,114,101],false,true,1,1⟩,true)
 else if op=31 then (⟨[99,97,108,108],true,true,0,8⟩,true)
 else if op=32 then (⟨[101,120,116],true,true,0,8⟩,true)
 else if op=33 then (⟨[111,117,116],false,false,1,1⟩,true)
 else if op=34 then (⟨[103,117,97,114,100],false,false,0,0⟩,true)
 else (⟨[],false,false,0,0⟩,false)
def instr (i:Instr):Bool:=
 ((Of i.Op).2&&((Of i.Op).1.Dst==!decide (i.Dst=[]))&&((Of i.Op).1.Named==!decide (i.Name=[]))&&!((Of i.Op).1.Dst&&!Name i.Dst)&&!((Of i.Op).1.Named&&!Name i.Name))
 && (decide ((Of i.Op).1.Least<=(i.Args.length:Int))&&decide ((i.Args.length:Int)<=(Of i.Op).1.Most)&&bx i.Args false&&decide (i.Frames.length<=16)&&decide (i.Objs.length<=99))
 && (if i.Op≠31/\i.Op≠34 then decide (i.Frames=[])&&decide (i.Objs=[]) else i.Frames.all frame&&i.Objs.all virt)
def lb (i:In):Bool:=Name i.Block&&aZ false i.A
def phi (x:Phi):Bool:=(Name x.Dst&&!decide (x.Ins=[])&&decide (x.Ins.length<=256))&&x.Ins.all lb
def zT (a:Arg):Bool:=decide (a=⟨0,[],0⟩)
def cr (t:Term):Bool:=t.To.all Name &&
 (if t.Kind=1 then zT t.A&&decide (t.To.length=1)&&decide (t.N=0)
  else if t.Kind=2 then aZ false t.A&&decide (t.To.length=2)&&decide (t.N=0)
  else if t.Kind=3 then aZ false t.A&&decide (t.To.length=0)&&decide (t.N=0)
  else if t.Kind=4 then zT t.A&&decide (t.To.length=0)
  else false)
def block (b:Block):Bool:=(Name b.Name&&cr b.End)&&(b.Phis.all phi&&b.Code.all instr)
def blocks:List Block->Nat->Bool
 | [],_=>true
 | b::r,long=>(decide (long+(b.Phis.length+b.Code.length)<=1024)&&block b)&&blocks r (long+(b.Phis.length+b.Code.length))
def ax (f:Func):Bool:=(Name f.Name&&kind f.Result&&typed f.Params 6&&typed f.Vars 1024&&!decide (f.Blocks=[])&&decide (f.Blocks.length<=256))&&blocks f.Blocks 0
def bD (c:Class):Bool:=Name c.Name&&typed c.Fields 8
def bT (x:Extern):Bool:=Name x.Name&&decide (0<=x.N)&&decide (x.N<=8)
def bb (p:Program):Bool:=
 (decide (p.Classes.length<=8)&&decide (p.Externs.length<=8)&&decide (p.Funcs.length<=8)&&typed p.Globals 8) &&
 (p.Classes.all bD&&(p.Externs.all bT&&p.Funcs.all ax))
def digs (n:Nat):List UInt8:=if n < 10 then [UInt8.ofNat (48+n)] else digs (n / 10)++[UInt8.ofNat (48+n % 10)]
def fK (n:Int):Int:=IntKind.u8.wrap (IntKind.i64.wrap (48+(if n < 0 then IntKind.i64.wrap (0-n) else n)))
def ak (n:Int):List UInt8:=(if n < 0 then [45] else [])++digs n.natAbs
def number (n:Int):List UInt8:=ak n
def Qi (u:Int) (x:Int):UInt8:=([48,49,50,51,52,53,54,55,56,57,97,98,99,100,101,102]:List UInt8).getD (IntKind.u64.wrap ((BitVec.ofInt IntKind.u64.bits (Int.fdiv (IntKind.u64.wrap u) (2 ^ (min (IntKind.u64.wrap x).toNat IntKind.u64.bits))) &&& BitVec.ofInt IntKind.u64.bits 15).toNat:Nat)).toNat 0
def dK (n:Int):List UInt8:=[48,102]++(List.range 16).map fun (i:Nat)=>Qi (Plain n) (60 - 4*(i:Int))
def ac (a:Arg):List UInt8:=
 if aJ a then
  if a.Kind=2 then ak a.N else if a.Kind=3 then dK a.N else if a.Kind=4 then [110,117,108,108] else if a.Kind=5 then 35::ak a.N else a.S
 else []
def puts (l:List Arg):List (List UInt8):=l.map ac
def ln (w:List (List UInt8)):Line:=⟨0,w⟩
def dA (first:List UInt8) (l:List Var):List Line:=l.map fun v=>ln [first,v.Name,v.Type_]
def words (i:Instr):List (List UInt8):=
 (if (Of i.Op).1.Dst then [i.Dst,[61]] else [])++[(Of i.Op).1.Word] ++
 (if i.Op=26\/i.Op=27 then (puts i.Args).getD 0 default::i.Name::(puts i.Args).drop 1
  else (if (Of i.Op).1.Named then [i.Name] else [])++puts i.Args)
def fZ (f:Frame):List (List UInt8):=[[97,116],f.Func,f.Block,number f.At]++f.Vars.flatMap fun b=>[b.Name,ac b.A]
def lz (o:Virt):List (List UInt8):=[[111,98,106],o.Class]++puts o.Vals
def dO (i:Instr):List Line:=[ln (words i)]++i.Frames.map (fun f=>ln (fZ f))++i.Objs.map (fun o=>ln (lz o))
def sN (x:Phi):List (List UInt8):=[[112,104,105],x.Dst]++x.Ins.flatMap fun i=>[i.Block,ac i.A]
def dS (t:Term):List (List UInt8):=
 if t.Kind=1 then [[106,117,109,112],t.To.getD 0 default]
 else if t.Kind=2 then [[98,114,97,110,99,104],ac t.A,t.To.getD 0 default,t.To.getD 1 default]
 else if t.Kind=3 then [[114,101,116],ac t.A]
 else [[116,114,97,112],ak t.N]
def bB (b:Block):List Line:=[ln [[98,108,111,99,107],b.Name]]++b.Phis.map (fun x=>ln (sN x))++b.Code.flatMap dO++[ln (dS b.End)]
def cK (f:Func):List Line:=[ln [[102,117,110,99],f.Name,f.Result]]++dA [112,97,114,97,109] f.Params++dA [118,97,114] f.Vars++f.Blocks.flatMap bB
def cQ (c:Class):List Line:=[ln [[99,108,97,115,115],c.Name]]++dA [102,105,101,108,100] c.Fields
def gM (x:Extern):Line:=ln [[101,120,116,101,114,110],x.Name,number x.N]
def di (p:Program):List Line:=(if p.SSA then [ln [[115,115,97]]] else [])++p.Classes.flatMap cQ++dA [103,108,111,98,97,108] p.Globals++p.Externs.map gM++p.Funcs.flatMap cK
def aT (s:Sheet) (w:List (List UInt8)):Unit×Sheet:=((),⟨s.l++[ln w]⟩)
def cO (s:Sheet) (first:List UInt8) (l:List Var):Unit×Sheet:=((),⟨s.l++dA first l⟩)
def ra (s:Sheet) (i:Instr):Unit×Sheet:=((),⟨s.l++dO i⟩)
def ui (s:Sheet) (t:Term):Unit×Sheet:=((),⟨s.l++[ln (dS t)]⟩)
def iF (s:Sheet) (f:Func):Unit×Sheet:=((),⟨s.l++cK f⟩)
def Join (l:List Line):List UInt8:=ay l
def aG (p:Program):List UInt8×Int:=
 if bb p then (if (ay (di p)).length<=4194304 then (ay (di p),0) else ([],2)) else ([],1)
def gL (a b:List Var):Bool:=decide (a=b)
def lU (a b:List Arg):Bool:=decide (a=b)
def mz (a b:Instr):Bool:=decide (a=b)
def mn (a b:Block):Bool:=decide (a=b)
def oX (a b:Func):Bool:=decide (a=b)
def Same (a b:Program):Bool:=decide (a=b)
abbrev plus (n:Int) (k:Nat):Int:=IntKind.i64.wrap (n+(k:Int))
def upto (most n k:Int):Int:=if n<=most then IntKind.i64.wrap (n+k) else n
def BR (most:Int):List Var->Int->Int
 | [],n=>n
 | v::r,n=>if n<=most then (let m:=plus n v.Name.length; BR most r (if m<=most then plus m v.Type_.length else m)) else n
def cP (l:List Var) (most:Int):Int:=if most < (l.length:Int) then IntKind.i64.wrap (most+1) else BR most l (l.length:Int)
def Au (most:Int):List Arg->Int->Int
 | [],n=>n
 | a::r,n=>if n<=most then Au most r (plus n a.S.length) else n
def fe (l:List Arg) (most:Int):Int:=if most < (l.length:Int) then IntKind.i64.wrap (most+1) else Au most l (l.length:Int)
def oW (most:Int):List Bind->Int->Int
 | [],n=>n
 | b::r,n=>if n<=most then (let m:=plus (IntKind.i64.wrap (n+1)) b.Name.length; oW most r (if m<=most then plus m b.A.S.length else m)) else n
def k9 (most:Int):List Frame->Int->Int
 | [],n=>n
 | f::r,n=>if n<=most then (let m:=plus n f.Func.length; k9 most r (oW most f.Vars (if m<=most then plus m f.Block.length else m))) else n
def vE (most:Int):List Virt->Int->Int
 | [],n=>n
 | o::r,n=>if n<=most then (let m:=plus n o.Class.length; vE most r (if m<=most then IntKind.i64.wrap (m+fe o.Vals most) else m)) else n
def fI (x:Instr) (most:Int):Int:=
 if (decide (most < (x.Frames.length:Int)))||(decide (most < (x.Objs.length:Int))) then IntKind.i64.wrap (most+1)
 else
  vE most x.Objs (k9 most x.Frames (upto most (upto most (plus (plus (plus 1 x.Dst.length) x.Frames.length) x.Objs.length) (x.Name.length:Int)) (fe x.Args most)))
def cTo (most:Int):List (List UInt8)->Int->Int
 | [],n=>n
 | t::r,n=>if n<=most then cTo most r (plus (IntKind.i64.wrap (n+1)) t.length) else n
def LD (most:Int):List In->Int->Int
 | [],n=>n
 | b::r,n=>if n<=most then (let m:=plus (IntKind.i64.wrap (n+1)) b.Block.length; LD most r (if m<=most then plus m b.A.S.length else m)) else n
def ub (most:Int):List Phi->Int->Int
 | [],n=>n
 | x::r,n=>if n<=most then ub most r (LD most x.Ins (plus (IntKind.i64.wrap (n+1)) x.Dst.length)) else n
def rQ (most:Int):List Instr->Int->Int
 | [],n=>n
 | x::r,n=>if n<=most then rQ most r (IntKind.i64.wrap (n+fI x most)) else n
def fB (b:Block) (most:Int):Int:=
 if (decide (most < (b.Phis.length:Int)))||(decide (most < (b.Code.length:Int)))||(decide (most < (b.End.To.length:Int))) then IntKind.i64.wrap (most+1)
 else
  rQ most b.Code (ub most b.Phis (cTo most b.End.To (upto most (plus 1 b.Name.length) (b.End.A.S.length:Int))))
def ng (most:Int):List Block->Int->Int
 | [],n=>n
 | x::r,n=>if n<=most then ng most r (IntKind.i64.wrap (n+fB x most)) else n
def lx (f:Func) (most:Int):Int:=
 if most < (f.Blocks.length:Int) then IntKind.i64.wrap (most+1)
 else
  ng most f.Blocks (upto most (upto most (upto most (plus 1 f.Name.length) (f.Result.length:Int)) (cP f.Params most)) (cP f.Vars most))
def kw (most:Int):List Class->Int->Int
 | [],n=>n
 | c::r,n=>if n<=most then (let m:=plus n c.Name.length; kw most r (if m<=most then IntKind.i64.wrap (m+cP c.Fields most) else m)) else n
def iY (most:Int):List Extern->Int->Int
 | [],n=>n
 | x::r,n=>if n<=most then iY most r (plus (IntKind.i64.wrap (n+1)) x.Name.length) else n
def og (most:Int):List Func->Int->Int
 | [],n=>n
 | x::r,n=>if n<=most then og most r (IntKind.i64.wrap (n+lx x most)) else n
def Few (p:Program) (most:Int):Bool:=
 if (decide (50 < (p.Classes.length:Int)))||(decide (50 < (p.Externs.length:Int)))||(decide (50 < (p.Funcs.length:Int))) then false
 else decide (og most p.Funcs (iY most p.Externs (kw most p.Classes (cP p.Globals most)))<=most)
def dl (t:Term):Program:=⟨false,[],[],[],[⟨[102],[105,110,116],[],[],[⟨[98],[],[],t⟩]⟩]⟩
def awake:Bool:=true
def inR (n:Int):Prop:=-9223372036854775808<=n/\n < 9223372036854775808
def Arg.ok (a:Arg):Prop:=inR a.N
def p7 (l:List Arg):Prop:=∀ a∈l,a.ok
def Bind.ok (b:Bind):Prop:=b.A.ok
def Frame.ok (f:Frame):Prop:=f.Vars.length<=4611686018427387904/\∀ b∈f.Vars,b.ok
def Virt.ok (o:Virt):Prop:=p7 o.Vals
def Instr.ok (i:Instr):Prop:=p7 i.Args/\(∀ f∈i.Frames,f.ok)/\(∀ o∈i.Objs,o.ok)
def In.ok (i:In):Prop:=i.A.ok
def Phi.ok (x:Phi):Prop:=x.Ins.length<=4611686018427387904/\∀ i∈x.Ins,i.ok
def Term.ok (t:Term):Prop:=t.A.ok/\inR t.N
def Block.ok (b:Block):Prop:=(∀ x∈b.Phis,x.ok)/\(∀ i∈b.Code,i.ok)/\b.End.ok
def Func.ok (f:Func):Prop:=∀ b∈f.Blocks,b.ok
def Program.ok (p:Program):Prop:=∀ f∈p.Funcs,f.ok
def room:Nat:=1099511627776
def bq (s:Sheet) (_:List (List UInt8)):Prop:=s.l.length<room
def gX (s:Sheet) (_:List UInt8) (l:List Var):Prop:=s.l.length+l.length<=room
def GH (s:Sheet) (i:Instr):Prop:=i.ok/\instr i=true/\s.l.length+200<=room
def NC (s:Sheet) (t:Term):Prop:=t.ok/\cr t=true/\s.l.length+1<=room
def pX (s:Sheet) (f:Func):Prop:=f.ok/\ax f=true/\s.l.length+1000000<=room
def gH (n:Int):Prop:=inR n
def jm (a:Arg):Prop:=a.ok
def zj (l:List Arg):Prop:=p7 l/\l.length<=1000000
def iN (p:Program):Prop:=p.ok
def GR (l:List Line):Prop:=(ay l).length<=140737488355328
def VK (x:Instr) (most:Int):Prop:=x.ok/\most<=4611686018427387904
def WP (b:Block) (most:Int):Prop:=b.ok/\most<=4611686018427387904
def Tz (f:Func) (most:Int):Prop:=f.ok/\most<=4611686018427387904
def GB (p:Program) (most:Int):Prop:=p.ok/\most<=4611686018427387904
end Lt
end

section
namespace Lt
open Go
def yw (n:Int):List UInt8:=ak n
def FT (n:Int):Bool:=decide (9218868437227405312 < (Int.tmod (IntKind.u64.wrap n) 9223372036854775808))
def cj (n:Int):Int:=if FT n=true then 9221120237041090560 else n
def abK (x:Int):UInt8:=UInt8.ofNat (IntKind.u8.wrap ((IntKind.u8.wrap (Int.tmod x 16))+(if IntKind.u8.wrap (Int.tmod x 16) < 10 then 48 else 87))).toNat
def mD:Nat->Int->List UInt8->List UInt8
 | 0,_,l=>l
 | k+1,x,l=>mD k (IntKind.u64.wrap (Int.tdiv x 16)) (abK x::l)
def om (n:Int):List UInt8:=[48,102]++mD 16 (IntKind.u64.wrap (cj n)) []
def Im (i:Nat) (c:UInt8):Bool:=
 !((((!(((decide (48<=((c.toNat:Nat):Int)))&&(decide (((c.toNat:Nat):Int)<=57)))&&(decide (0 < (i:Int)))))&&(!decide (((c.toNat:Nat):Int)=95)))&&((decide (((c.toNat:Nat):Int) < 65))||(decide (90 < ((c.toNat:Nat):Int)))))&&((decide (((c.toNat:Nat):Int) < 97))||(decide (122 < ((c.toNat:Nat):Int)))))
def bV (s:List UInt8):Bool:=((List.range s.length).all fun i=>Im i (s.getD i 0)) &&
 (((((decide (1<=(s.length:Int)))&&(decide ((s.length:Int)<=16)))&&(!decide (s=[110,117,108,108])))&&(!decide (s=[105,110,116])))&&(!decide (s=[102,108,111,97,116])))
def Il (a:Arg):Bool:=
 if a.Kind=1 then bV a.S&&decide (a.N=0)
 else if (((decide (a.Kind < 1))||(decide (5<a.Kind)))||(!decide (a.S=[])))=true then false
 else (((decide (a.Kind=2))||((decide (a.Kind=3))&&(decide ((cj a.N)=a.N))))||((decide (a.Kind=4))&&(decide (a.N=0))))||(((decide (a.Kind=5))&&(decide (0<=a.N)))&&(decide (a.N<=999)))
def fX (a:Arg):List UInt8:=
 if Il a then
  if a.Kind=1 then a.S else if a.Kind=2 then yw a.N else if a.Kind=3 then om a.N else if a.Kind=4 then [110,117,108,108] else 35::yw a.N
 else []
def rOf (op:Int):RForm×Bool:=
 if op < 1\/34<op then (⟨[],false,false,0,0⟩,false)
 else (⟨Go.Am.gw.getD op.toNat default,(((!decide (op=27))&&(!decide (op=30)))&&(!decide (op=33)))&&(!decide (op=34)),(((decide (op=25))||(decide (op=26)))||(decide (op=27)))||((decide (29<=op))&&(decide (op<=32))),
  if op=22\/op=23\/op=24\/op=26\/op=30\/op=33 then 1 else if op=25\/op=31\/op=32\/op=29\/op=34 then 0 else 2,
  if op=22\/op=23\/op=24\/op=26\/op=30\/op=33 then 1 else if op=25\/op=31\/op=32 then 8 else if op=29\/op=34 then 0 else 2⟩,true)
def lnT (w:List (List UInt8)):List UInt8:=jw false w++[10]
def Jr (x:Instr):List (List UInt8):=(if (rOf x.Op).1.Dst then [x.Dst,[61]] else [])++[(rOf x.Op).1.Word]
def wD (x:Instr):List (List UInt8):=
 if (x.Op=26\/x.Op=27)/\x.Args≠[] then Jr x++(x.Args.take 1).map fX++[x.Name]++(x.Args.drop 1).map fX
 else Jr x++(if (rOf x.Op).1.Named then [x.Name] else [])++x.Args.map fX
def np (f:Frame):List (List UInt8):=[[97,116],f.Func,f.Block,yw f.At]++f.Vars.flatMap fun b=>[b.Name,fX b.A]
def tb (o:Virt):List (List UInt8):=[[111,98,106],o.Class]++o.Vals.map fX
def wU (x:Instr):List UInt8:=lnT (wD x)++(x.Frames.flatMap fun f=>lnT (np f))++(x.Objs.flatMap fun o=>lnT (tb o))
def O4 (t:Term):List (List UInt8):=
 [([[],[106,117,109,112],[98,114,97,110,99,104],[114,101,116],[116,114,97,112]]:List (List UInt8)).getD t.Kind.toNat default]++(if t.Kind=2\/t.Kind=3 then [fX t.A] else [])++t.To++(if t.Kind=4 then [yw t.N] else [])
def LV (t:Term):List UInt8:=if t.Kind < 1\/4<t.Kind then [] else lnT (O4 t)
def A0 (x:Phi):List (List UInt8):=[[112,104,105],x.Dst]++x.Ins.flatMap fun i=>[i.Block,fX i.A]
def qN (b:Block):List UInt8:=lnT [[98,108,111,99,107],b.Name]++(b.Phis.flatMap fun x=>lnT (A0 x))++b.Code.flatMap wU++LV b.End
def wo (first:List UInt8) (l:List Var):List UInt8:=l.flatMap fun v=>lnT [first,v.Name,v.Type_]
def wc (f:Func):List UInt8:=lnT [[102,117,110,99],f.Name,f.Result]++wo [112,97,114,97,109] f.Params++wo [118,97,114] f.Vars++f.Blocks.flatMap qN
def qx (c:Class):List UInt8:=lnT [[99,108,97,115,115],c.Name]++wo [102,105,101,108,100] c.Fields
def pH (x:Extern):List UInt8:=lnT [[101,120,116,101,114,110],x.Name,yw x.N]
def s8 (p:Program):List UInt8:=(if p.SSA=true then lnT [[115,115,97]] else [])++p.Classes.flatMap qx++wo [103,108,111,98,97,108] p.Globals++p.Externs.flatMap pH++p.Funcs.flatMap wc
end Lt
end

section
namespace Go.Am
open Go
inductive Sn where
 | Var | Class | Extern | Arg | In | Phi | Bind | Frame | Virt | Instr | Term | Block | Func | Program | Reader | Fault | Line | Read | RLine | Sheet | Form | RForm
 deriving DecidableEq,Inhabited
inductive U where
 | i (k:IntKind) | b8 | bo | s | sl (u:U) | st (n:Sn)
 deriving DecidableEq,Inhabited
abbrev abB:Sn->Type
 | .Var=>Lt.Var
 | .Class=>Lt.Class
 | .Extern=>Lt.Extern
 | .Arg=>Lt.Arg
 | .In=>Lt.In
 | .Phi=>Lt.Phi
 | .Bind=>Lt.Bind
 | .Frame=>Lt.Frame
 | .Virt=>Lt.Virt
 | .Instr=>Lt.Instr
 | .Term=>Lt.Term
 | .Block=>Lt.Block
 | .Func=>Lt.Func
 | .Program=>Lt.Program
 | .Reader=>Lt.Reader
 | .Fault=>Lt.Fault
 | .Line=>Lt.Line
 | .Read=>Lt.Read
 | .RLine=>Lt.RLine
 | .Sheet=>Lt.Sheet
 | .Form=>Lt.Form
 | .RForm=>Lt.RForm
abbrev El:U->Type
 | .i _=>Int
 | .b8=>UInt8
 | .bo=>Bool
 | .s=>List UInt8
 | .sl u=>List (El u)
 | .st n=>abB n
abbrev Fl:List U->Type
 | []=>Unit
 | [u]=>El u
 | u::v::r=>El u×Fl (v::r)
def Fl.cons:(u:U)->(us:List U)->El u->Fl us->Fl (u::us)
 | _,[],x,_=>x
 | _,_::_,x,y=>(x,y)
def Fl.hd:(u:U)->(us:List U)->Fl (u::us)->El u
 | _,[],x=>x
 | _,_::_,x=>x.1
def Fl.tl:(u:U)->(us:List U)->Fl (u::us)->Fl us
 | _,[],_=>()
 | _,_::_,x=>x.2
structure SD (α:Type) where
 fs:List U
 mkF:Fl fs->α
 un:α->Fl fs
 l1:∀ x,mkF (un x)=x
 l2:∀ y,un (mkF y)=y
 enc:α->List D
 df:α
def sd:(n:Sn)->SD (abB n)
 | .Var=>⟨[.s,.s],fun x=>⟨x.1,x.2⟩,fun x=>(x.Name,x.Type_),fun _=>rfl,fun _=>rfl,Lt.Var.enc,default⟩
 | .Class=>⟨[.s,(.sl (.st .Var))],fun x=>⟨x.1,x.2⟩,fun x=>(x.Name,x.Fields),fun _=>rfl,fun _=>rfl,Lt.Class.enc,default⟩
 | .Extern=>⟨[.s,(.i .i64)],fun x=>⟨x.1,x.2⟩,fun x=>(x.Name,x.N),fun _=>rfl,fun _=>rfl,Lt.Extern.enc,default⟩
 | .Arg=>⟨[(.i .i64),.s,(.i .i64)],fun x=>⟨x.1,x.2.1,x.2.2⟩,fun x=>(x.Kind,x.S,x.N),fun _=>rfl,fun _=>rfl,Lt.Arg.enc,default⟩
 | .In=>⟨[.s,(.i .i64),.s,(.i .i64)],fun x=>⟨x.1,⟨x.2.1,x.2.2.1,x.2.2.2⟩⟩,fun x=>(x.Block,x.A.Kind,x.A.S,x.A.N),fun _=>rfl,fun _=>rfl,Lt.In.enc,default⟩
 | .Phi=>⟨[.s,(.sl (.st .In))],fun x=>⟨x.1,x.2⟩,fun x=>(x.Dst,x.Ins),fun _=>rfl,fun _=>rfl,Lt.Phi.enc,default⟩
 | .Bind=>⟨[.s,(.i .i64),.s,(.i .i64)],fun x=>⟨x.1,⟨x.2.1,x.2.2.1,x.2.2.2⟩⟩,fun x=>(x.Name,x.A.Kind,x.A.S,x.A.N),fun _=>rfl,fun _=>rfl,Lt.Bind.enc,default⟩
 | .Frame=>⟨[.s,.s,(.i .i64),(.sl (.st .Bind))],fun x=>⟨x.1,x.2.1,x.2.2.1,x.2.2.2⟩,fun x=>(x.Func,x.Block,x.At,x.Vars),fun _=>rfl,fun _=>rfl,Lt.Frame.enc,default⟩
 | .Virt=>⟨[.s,(.sl (.st .Arg))],fun x=>⟨x.1,x.2⟩,fun x=>(x.Class,x.Vals),fun _=>rfl,fun _=>rfl,Lt.Virt.enc,default⟩
 | .Instr=>⟨[(.i .i64),.s,.s,(.sl (.st .Arg)),(.sl (.st .Frame)),(.sl (.st .Virt))],fun x=>⟨x.1,x.2.1,x.2.2.1,x.2.2.2.1,x.2.2.2.2.1,x.2.2.2.2.2⟩,fun x=>(x.Op,x.Dst,x.Name,x.Args,x.Frames,x.Objs),fun _=>rfl,fun _=>rfl,Lt.Instr.enc,default⟩
 | .Term=>⟨[(.i .i64),(.i .i64),.s,(.i .i64),(.sl .s),(.i .i64)],fun x=>⟨x.1,⟨x.2.1,x.2.2.1,x.2.2.2.1⟩,x.2.2.2.2.1,x.2.2.2.2.2⟩,fun x=>(x.Kind,x.A.Kind,x.A.S,x.A.N,x.To,x.N),fun _=>rfl,fun _=>rfl,Lt.Term.enc,default⟩
 | .Block=>⟨[.s,(.sl (.st .Phi)),(.sl (.st .Instr)),(.i .i64),(.i .i64),.s,(.i .i64),(.sl .s),(.i .i64)],fun x=>⟨x.1,x.2.1,x.2.2.1,⟨x.2.2.2.1,⟨x.2.2.2.2.1,x.2.2.2.2.2.1,x.2.2.2.2.2.2.1⟩,x.2.2.2.2.2.2.2.1,x.2.2.2.2.2.2.2.2⟩⟩,fun x=>(x.Name,x.Phis,x.Code,x.End.Kind,x.End.A.Kind,x.End.A.S,x.End.A.N,x.End.To,x.End.N),fun _=>rfl,fun _=>rfl,Lt.Block.enc,default⟩
 | .Func=>⟨[.s,.s,(.sl (.st .Var)),(.sl (.st .Var)),(.sl (.st .Block))],fun x=>⟨x.1,x.2.1,x.2.2.1,x.2.2.2.1,x.2.2.2.2⟩,fun x=>(x.Name,x.Result,x.Params,x.Vars,x.Blocks),fun _=>rfl,fun _=>rfl,Lt.Func.enc,default⟩
 | .Program=>⟨[.bo,(.sl (.st .Class)),(.sl (.st .Var)),(.sl (.st .Extern)),(.sl (.st .Func))],fun x=>⟨x.1,x.2.1,x.2.2.1,x.2.2.2.1,x.2.2.2.2⟩,fun x=>(x.SSA,x.Classes,x.Globals,x.Externs,x.Funcs),fun _=>rfl,fun _=>rfl,Lt.Program.enc,default⟩
 | .Reader=>⟨[.bo,(.sl (.st .Class)),(.sl (.st .Var)),(.sl (.st .Extern)),(.sl (.st .Func)),(.i .i64),(.i .i64),.bo,(.i .i64)],fun x=>⟨⟨x.1,x.2.1,x.2.2.1,x.2.2.2.1,x.2.2.2.2.1⟩,x.2.2.2.2.2.1,x.2.2.2.2.2.2.1,x.2.2.2.2.2.2.2.1,x.2.2.2.2.2.2.2.2⟩,fun x=>(x.p.SSA,x.p.Classes,x.p.Globals,x.p.Externs,x.p.Funcs,x.at_,x.where_,x.first,x.long),fun _=>rfl,fun _=>rfl,Lt.Reader.enc,default⟩
 | .Fault=>⟨[(.i .i64)],fun x=>⟨x⟩,fun x=>x.e,fun _=>rfl,fun _=>rfl,Lt.Fault.enc,default⟩
 | .Line=>⟨[(.i .i64),(.sl .s)],fun x=>⟨x.1,x.2⟩,fun x=>(x.N,x.Words),fun _=>rfl,fun _=>rfl,Lt.Line.enc,default⟩
 | .Read=>⟨[.bo,(.sl (.st .Class)),(.sl (.st .Var)),(.sl (.st .Extern)),(.sl (.st .Func)),(.i .i64),(.i .i64)],fun x=>⟨⟨x.1,x.2.1,x.2.2.1,x.2.2.2.1,x.2.2.2.2.1⟩,x.2.2.2.2.2.1,x.2.2.2.2.2.2⟩,fun x=>(x.P.SSA,x.P.Classes,x.P.Globals,x.P.Externs,x.P.Funcs,x.Where,x.Long),fun _=>rfl,fun _=>rfl,Lt.Read.enc,default⟩
 | .RLine=>⟨[(.i .i64),(.sl .s)],fun x=>⟨x.1,x.2⟩,fun x=>(x.N,x.Words),fun _=>rfl,fun _=>rfl,Lt.RLine.enc,default⟩
 | .Sheet=>⟨[(.sl (.st .Line))],fun x=>⟨x⟩,fun x=>x.l,fun _=>rfl,fun _=>rfl,Lt.Sheet.enc,default⟩
 | .Form=>⟨[.s,.bo,.bo,(.i .i64),(.i .i64)],fun x=>⟨x.1,x.2.1,x.2.2.1,x.2.2.2.1,x.2.2.2.2⟩,fun x=>(x.Word,x.Dst,x.Named,x.Least,x.Most),fun _=>rfl,fun _=>rfl,Lt.Form.enc,default⟩
 | .RForm=>⟨[.s,.bo,.bo,(.i .i64),(.i .i64)],fun x=>⟨x.1,x.2.1,x.2.2.1,x.2.2.2.1,x.2.2.2.2⟩,fun x=>(x.Word,x.Dst,x.Named,x.Least,x.Most),fun _=>rfl,fun _=>rfl,Lt.RForm.enc,default⟩
end Go.Am
end

section
namespace Go.Am
inductive C where
 | i (k:IntKind) (n:Int)
 | b (x:UInt8)
 | bo (x:Bool)
 | s (l:List UInt8)
 | li (u:U) (l:List (El u))
 | v (x:Value)
 | any
 deriving Inhabited
def dflt:(u:U)->El u
 | .i _=>(default:Int)
 | .b8=>(default:UInt8)
 | .bo=>(default:Bool)
 | .s=>(default:List UInt8)
 | .sl _=>[]
 | .st n=>(sd n).df
def ym (u' u:U) (l:List (El u')):Option (List (El u)):=if h:u'=u then some (cast (by rw [h]) l) else none
theorem mo {u' u:U} {l:List (El u')} {x:List (El u)} (h:ym u' u l=some x):∃ e:u'=u,x=e ▸ l:=by
 unfold ym at h;split at h
 ·rename_i e; subst e; exact ⟨rfl,(Option.some.inj h).symm⟩
 ·cases h
def jo:(u:U)->El u->C
 | .i k,n=>.i k n
 | .b8,x=>.b x
 | .bo,x=>.bo x
 | .s,l=>.s l
 | .sl u,l=>.li u l
 | .st _,_=>.any
def wT:(u:U)->C->Option (El u)
 | .i k,.i k' n=>if k'=k then some n else none
 | .b8,.b x=>some x
 | .bo,.bo x=>some x
 | .s,.s l=>some l
 | .sl u,.li u' l=>ym u' u l
 | _,_=>none
def leaf:U->Bool
 | .st _=>false
 | _=>true
theorem mB {u:U} {c:C} {x:El u} (h:wT u c=some x):c=jo u x:=by
 unfold wT at h;split at h
 ·split at h
  ·rename_i e; subst e; rw [<- Option.some.inj h]; rfl
  ·cases h
 ·rw [<- Option.some.inj h]; rfl
 ·rw [<- Option.some.inj h]; rfl
 ·rw [<- Option.some.inj h]; rfl
 ·obtain ⟨e,rfl⟩:=mo h; subst e; rfl
 ·cases h
def fH:(us:List U)->Fl us->List C
 | [],_=>[]
 | u::r,x=>jo u (Fl.hd u r x)::fH r (Fl.tl u r x)
def kU:(us:List U)->List C->Option (Fl us)
 | [],[]=>some ()
 | u::r,c::cs=>match wT u c,kU r cs with
  | some x,some y=>some (Fl.cons u r x y)
  | _,_=>none
 | _,_=>none
theorem kZ (u:U) (us:List U) (x:El u) (y:Fl us):Fl.hd u us (Fl.cons u us x y)=x:=by cases us <;> rfl
theorem ll (u:U) (us:List U) (x:El u) (y:Fl us):Fl.tl u us (Fl.cons u us x y)=y:=by cases us <;> rfl
theorem B0:∀ {us:List U} {cs:List C} {x:Fl us},kU us cs=some x->cs=fH us x
 | [],[],_,_=>rfl
 | u::r,c::cs,x,h=>by
  simp only [kU] at h;cases h1:wT u c with
  | none=>rw [h1] at h; cases h
  | some a=>
   cases h2:kU r cs with
   | none=>rw [h1,h2] at h; cases h
   | some b=>
    rw [h1,h2] at h;simp only [ac8] at h;subst h;rw [fH,kZ,ll,<- mB h1,<- B0 h2]
 | [],_::_,_,h=>by simp [kU] at h
 | _::_,[],_,h=>by simp [kU] at h
def flat:(u:U)->El u->List C
 | .st n,x=>fH (sd n).fs ((sd n).un x)
 | .i k,x=>[.i k x]
 | .b8,x=>[.b x]
 | .bo,x=>[.bo x]
 | .s,x=>[.s x]
 | .sl u,x=>[.li u x]
def unflat:(u:U)->List C->Option (El u)
 | .st n,cs=>match kU (sd n).fs cs with
  | some y=>some ((sd n).mkF y)
  | none=>none
 | u,[c]=>wT u c
 | _,_=>none
theorem mv:∀ {u:U} (_:leaf u=true) (x:El u),flat u x=[jo u x]
 | .i _,_,_=>rfl
 | .b8,_,_=>rfl
 | .bo,_,_=>rfl
 | .s,_,_=>rfl
 | .sl _,_,_=>rfl
 | .st _,h,_=>by cases h
theorem Ei {u:U} {cs:List C} {x:El u} (h:unflat u cs=some x):cs=flat u x:=by
 cases u with
 | st n=>
  simp only [unflat] at h;cases h1:kU (sd n).fs cs with
  | none=>rw [h1] at h; cases h
  | some y=>
   rw [h1] at h;have hx:=Option.some.inj h
   subst hx;show cs=fH (sd n).fs ((sd n).un ((sd n).mkF y))
   rw [(sd n).l2,<- B0 h1]
 | _=>
  cases cs with
  | nil=>cases h
  | cons c r=>cases r with
   | nil=>rw [mv rfl,<- mB h]
   | cons _ _=>cases h
def nc:U->Nat
 | .st n=>(sd n).fs.length
 | _=>1
theorem rF:∀ (us:List U) (x:Fl us),(fH us x).length=us.length
 | [],_=>rfl
 | u::r,x=>by simp only [fH,adF,rF r]
theorem iQ {u:U} (x:El u):(flat u x).length=nc u:=by
 cases u with
 | st n=>exact rF _ _
 | _=>rfl
def aE:(u:U)->El u->List D
 | .i k,n=>[.int k n]
 | .b8,x=>[.int .u8 (x.toNat:Int)]
 | .bo,x=>[.bool x]
 | .s,l=>[.str l]
 | .sl u,l=>[.li (l.map (aE u))]
 | .st n,x=>(sd n).enc x
def C.toD:C->D
 | .i k n=>.int k n
 | .b x=>.int .u8 (x.toNat:Int)
 | .bo x=>.bool x
 | .s l=>.str l
 | .li u l=>.li (l.map (aE u))
 | .v x=>.v x
 | .any=>.any
theorem abL:∀ (n:Sn) (x:abB n),(fH (sd n).fs ((sd n).un x)).map C.toD=(sd n).enc x:=by
 intro n; cases n <;> intro x <;> rfl
theorem bS {u:U} (x:El u):(flat u x).map C.toD=aE u x:=by
 cases u with
 | st n=>exact abL n x
 | _=>rfl
theorem kV {u:U} (x:El u):(aE u x).length=nc u:=by rw [<- bS,adE,iQ]
inductive Tt where
 | d (c:C)
 | nil
 | ow (sh:List Sh) (u:U) (l:List (El u))
 | el (row:List C) (off:Nat)
 | ga (u:U) (l:List (El u)) (i:Nat)
 | pl (p:Pl)
 | rf (p:Pl)
 | any
 deriving Inhabited
def Tt.toT:Tt->T
 | .d c=>.d c.toD
 | .nil=>.nil
 | .ow sh u l=>.ow sh (l.map (aE u))
 | .el row off=>.el (row.map C.toD) off
 | .ga u l i=>.el (l.map fun x=>(jo u x).toD) i
 | .pl p=>.pl p
 | .rf p=>.rf p
 | .any=>.any
inductive A1 where
 | c (t:Tt)
 | agg (ts:List Tt)
 deriving Inhabited
def A1.toV:A1->AV1
 | .c t=>.c t.toT
 | .agg ts=>.agg (ts.map Tt.toT)
inductive At where
 | one (x:A1)
 | tup (vs:List A1)
 | any
 deriving Inhabited
def At.toV:At->AV
 | .one x=>.one x.toV
 | .tup vs=>.tup (vs.map A1.toV)
 | .any=>.any
structure Rt where
 blk:Bool
 cells:List Tt
 hole:Option (Nat×Step×List Step)
def holed (cells:List T):Option (Nat×Step×List Step)->List T
 | none=>cells
 | some (off,st,q)=>match cells[off]? with
  | some (.ow sub l)=>cells.set off (.ow sub (bW sub l .any (st::q)))
  | _=>cells
def Rt.toR (r:Rt):Root:=⟨r.blk,holed (r.cells.map Tt.toT) r.hole⟩
structure St where
 nx:Nat
 t:List (Nat×Nat×At)
 m:List (Nm×Nat×Rt)
def St.toS (s:St):S:=⟨s.t.map fun x=>(x.1,x.2.2.toV),s.m.map fun x=>(x.1,x.2.2.toR)⟩
def gtA:List (Nat×Nat×At)->Nat->At
 | [],_=>.any
 | (k,_,v)::t,i=>match Nat.beq k i with
  | true=>v
  | false=>gtA t i
def cg:List (Nm×Nat×Rt)->Nm->Option Rt
 | [],_=>none
 | (k,_,r)::m,n=>if k=n then some r else cg m n
def iC:List (Nm×Nat×Rt)->Nm->Nat->Rt->List (Nm×Nat×Rt)
 | [],_,_,_=>[]
 | (k,j,x)::m,n,i,r=>if k=n then (k,i,r)::m else (k,j,x)::iC m n i r
def eT:List (Nm×Nat×Rt)->Nm->List (Nm×Nat×Rt)
 | [],_=>[]
 | (k,j,x)::m,n=>if k=n then eT m n else (k,j,x)::eT m n
theorem dB (i:Nat):∀ t:List (Nat×Nat×At),aK (t.map fun x=>(x.1,x.2.2.toV)) i=(gtA t i).toV
 | []=>rfl
 | (k,j,v)::t=>by
  simp only [List.map_cons,aK,gtA];by_cases h:k=i
  ·subst h; rw [if_pos rfl,agZ]
  ·rw [if_neg h];have:Nat.beq k i=false:=by
    cases hb:Nat.beq k i
    ·rfl
    ·exact absurd (adO hb) h
   rw [this]; exact dB i t
abbrev toM (m:List (Nm×Nat×Rt)):Mm:=m.map fun x=>(x.1,x.2.2.toR)
theorem uK (n:Nm):∀ m:List (Nm×Nat×Rt),ae (toM m) n=(cg m n).map Rt.toR
 | []=>rfl
 | (k,j,v)::m=>by
  simp only [toM,List.map_cons,ae,cg];by_cases h:k=n
  ·rw [if_pos h,if_pos h]; rfl
  ·rw [if_neg h,if_neg h]; exact uK n m
theorem gQ (n:Nm) (i:Nat) (r:Rt):∀ m:List (Nm×Nat×Rt),toM (iC m n i r)=dD (toM m) n r.toR
 | []=>rfl
 | (k,j,v)::m=>by
  simp only [toM,List.map_cons,dD,iC];by_cases h:k=n
  ·rw [if_pos h,if_pos h]; rfl
  ·rw [if_neg h,if_neg h,List.map_cons]; exact congrArg _ (gQ n i r m)
abbrev ND (m:List (Nm×Nat×Rt)):Prop:=(m.map (·.1)).Nodup
theorem Qv (n:Nm):∀ m:List (Nm×Nat×Rt),n ∉ m.map (·.1)->eT m n=m
 | [],_=>rfl
 | (k,j,v)::m,h=>by
  simp only [List.map_cons,adK,not_or] at h;simp only [eT];rw [if_neg (fun e=>h.1 e.symm),Qv n m h.2]
theorem pJ (n:Nm):∀ m:List (Nm×Nat×Rt),ND m->toM (eT m n)=bv (toM m) n
 | [],_=>rfl
 | (k,j,v)::m,hn=>by
  have hn':k ∉ m.map (·.1)/\(m.map (·.1)).Nodup:=by simpa [ND] using hn
  simp only [toM,List.map_cons,bv,eT];by_cases h:k=n
  ·subst h; rw [if_pos rfl,if_pos rfl,Qv k m hn'.1]
  ·rw [if_neg h,if_neg h,List.map_cons]; exact congrArg _ (pJ n m hn'.2)
def St.put (s:St):Option Tmp->At->St
 | none,_=>s
 | some d,v=>⟨s.nx+1,(d,s.nx,v)::s.t,s.m⟩
end Go.Am
end

section
namespace Go.Am
def Tt.kill (bad:Bool->Pl->Bool):Tt->Tt
 | .pl p=>if bad false p then .any else .pl p
 | .rf p=>if bad true p then .any else .rf p
 | t=>t
def A1.kill (bad:Bool->Pl->Bool):A1->A1
 | .c t=>.c (t.kill bad)
 | .agg ts=>.agg (ts.map (·.kill bad))
def At.kill (bad:Bool->Pl->Bool):At->At
 | .one x=>.one (x.kill bad)
 | .tup xs=>.tup (xs.map (·.kill bad))
 | .any=>.any
def Tt.ment (n:Nm):Tt->Bool
 | .pl p=>decide (p.root=n)
 | .rf p=>decide (p.root=n)
 | _=>false
def Tt.hit (bad:Bool->Pl->Bool):Tt->Bool
 | .pl p=>bad false p
 | .rf p=>bad true p
 | _=>false
def A1.hit (bad:Bool->Pl->Bool):A1->Bool
 | .c t=>t.hit bad
 | .agg ts=>ts.any (·.hit bad)
def At.hit (bad:Bool->Pl->Bool):At->Bool
 | .one x=>x.hit bad
 | .tup xs=>xs.any (·.hit bad)
 | .any=>false
def Rt.kill (bad:Bool->Pl->Bool) (r:Rt):Rt:=⟨r.blk,r.cells.map (·.kill bad),r.hole⟩
def stp:Bool->Nat->Nat->Nat
 | true,i,_=>i
 | false,_,j=>j
def gr (bad:Bool->Pl->Bool) (nx:Nat) (t:List (Nat×Nat×At)):List (Nat×Nat×At):=t.map fun x=>(x.1,stp (x.2.2.hit bad) nx x.2.1,x.2.2.kill bad)
def bO (bad:Bool->Pl->Bool) (nx:Nat) (m:List (Nm×Nat×Rt)):List (Nm×Nat×Rt):=m.map fun x=>(x.1,stp (x.2.2.cells.any (·.hit bad)) nx x.2.1,x.2.2.kill bad)
def St.drop (s:St) (n:Nm):St:=⟨s.nx+1,gr (bR n) s.nx s.t,bO (bR n) s.nx (eT s.m n)⟩
def St.fresh (s:St) (n:Nm):St:=match cg s.m n with
 | none=>s
 | some _=>s.drop n
def St.root (s:St) (n:Nm) (r:Rt):St:=⟨s.nx+1,s.t,(n,s.nx,r)::s.m⟩
def Tt.frz (q:Pl) (u:U) (l:List (El u)):Tt->Tt
 | .rf p=>match p with
  | ⟨n,o,[]⟩=>if n=q.root/\o=q.off then .d (.li u l) else (Tt.rf ⟨n,o,[]⟩).kill (thr q)
  | p=>(Tt.rf p).kill (thr q)
 | t=>t.kill (thr q)
def A1.map (f:Tt->Tt):A1->A1
 | .c t=>.c (f t)
 | .agg ts=>.agg (ts.map f)
def At.map (f:Tt->Tt):At->At
 | .one x=>.one (x.map f)
 | .tup xs=>.tup (xs.map (·.map f))
 | .any=>.any
def setCell (m:List (Nm×Nat×Rt)) (n:Nm) (i:Nat) (off:Nat) (t:Tt):List (Nm×Nat×Rt):=match cg m n with
 | some r=>iC m n i { r with cells:=r.cells.set off t }
 | none=>m
def L1 (q:Pl) (rf:Bool) (p:Pl):Bool:=thr q rf p||(rf&&decide (p.root=q.root/\p.off=q.off))
def uz (s:St) (q:Pl):St:=
 match q.path,cg s.m q.root with
 | [],some r=>match r.hole,r.cells[q.off]? with
  | none,some (.ow _ u l)=>⟨s.nx+1,s.t.map fun x=>(x.1,stp (x.2.2.hit (L1 q)) s.nx x.2.1,x.2.2.map (Tt.frz q u l)),
    setCell (bO (thr q) s.nx (setCell s.m q.root s.nx q.off .any)) q.root s.nx q.off (.d (.li u l))⟩
  | _,_=>s
 | _,_=>s
def O7 (s:St):Tt->St
 | .rf p=>uz s p
 | _=>s
def FC:St->List Tt->St
 | s,[]=>s
 | s,t::ts=>FC (O7 s t) ts
def lm (s:St):At->St
 | .one (.c t)=>O7 s t
 | .one (.agg ts)=>FC s ts
 | _=>s
def cT (s:St):List At->St
 | []=>s
 | v::vs=>cT (lm s v) vs
def mkC (k:IntKind) (n:Int):C:=match k with
 | .u8=>.b (UInt8.ofNat n.toNat)
 | k=>.i k n
def uI:C->Option (IntKind×Int)
 | .i k n=>match k with
  | .u8=>none
  | k=>some (k,n)
 | .b x=>some (.u8,(x.toNat:Int))
 | _=>none
def uB:Value->Tt
 | .bool b=>.d (.bo b)
 | .int k n=>match k with
  | .u8=>if 0<=n/\n < 256 then .d (.b (UInt8.ofNat n.toNat)) else .any
  | k=>.d (.i k n)
 | .string s=>.d (.s s.data.toList)
 | .slice none 0 0=>.nil
 | .pointer none=>.d (.v (.pointer none))
 | .map none=>.d (.v (.map none))
 | .nilFunc=>.d (.v .nilFunc)
 | .nilIface=>.d (.v .nilIface)
 | .func f a b=>.d (.v (.func f a b))
 | _=>.any
def Z0:Value->At
 | .agg cs=>.one (.agg (cs.toList.map uB))
 | v=>.one (.c (uB v))
abbrev sct (x:C):At:=.one (.c (.d x))
def Y8 (k:Nat):Option (List (List UInt8)):=match rT k with
 | none=>none
 | some _=>some gw
def evA (s:St):Operand->At
 | .tmp t=>gtA s.t t
 | .const v=>Z0 v
 | .func f=>sct (.v (.func (.func f) #[] #[]))
 | .global g=>match Y8 g with
  | some l=>.one (.c (.ga .s l 0))
  | none=>.any
def Ex (c x y:At) (k:At->Prop):Prop:=
 match c with
 | .one (.c (.d (.bo b)))=>if b=true then k x else k y
 | _=>False
def UF (op:BinOp) (k:IntKind) (a b:Int) (K:C->Prop):Prop:=
 match op with
 | .add=>K (mkC k (k.wrap (a+b)))
 | .sub=>K (mkC k (k.wrap (a-b)))
 | .mul=>K (mkC k (k.wrap (a*b)))
 | .quo=>b≠0/\K (mkC k (k.wrap (a.tdiv b)))
 | .rem=>b≠0/\K (mkC k (a.tmod b))
 | .and=>K (mkC k (k.wrap (BitVec.ofInt k.bits a &&& BitVec.ofInt k.bits b).toNat))
 | .or=>K (mkC k (k.wrap (BitVec.ofInt k.bits a ||| BitVec.ofInt k.bits b).toNat))
 | .xor=>K (mkC k (k.wrap (BitVec.ofInt k.bits a ^^^ BitVec.ofInt k.bits b).toNat))
 | .andNot=>K (mkC k (k.wrap (BitVec.ofInt k.bits a &&& ~~~BitVec.ofInt k.bits b).toNat))
 | .shl=>0<=b/\K (mkC k (k.wrap (a*2 ^ (min b.toNat k.bits))))
 | .shr=>0<=b/\K (mkC k (a.fdiv (2 ^ (min b.toNat k.bits))))
 | .eql=>K (.bo (decide (a=b)))
 | .neq=>K (.bo (!decide (a=b)))
 | .lss=>K (.bo (decide (a<b)))
 | .leq=>K (.bo (decide (a<=b)))
 | .gtr=>K (.bo (decide (b<a)))
 | .geq=>K (.bo (decide (b<=a)))
def abY:BinOp->Bool
 | .shl=>true
 | .shr=>true
 | _=>false
def QK (op:BinOp) (x y:C) (K:C->Prop):Prop:=
 match x,y with
 | .s a,.s b=>match op with
  | .add=>a.length+b.length<=4611686018427387904/\K (.s (a++b))
  | .eql=>K (.bo (decide (a=b)))
  | .neq=>K (.bo (!decide (a=b)))
  | .lss=>K (.bo (Op.bytesLess a b))
  | .leq=>K (.bo (Op.bytesLess a b||decide (a=b)))
  | .gtr=>K (.bo (!(Op.bytesLess a b||decide (a=b))))
  | .geq=>K (.bo (!Op.bytesLess a b))
  | _=>False
 | x,y=>match uI x,uI y with
  | some (k,a),some (k',b)=>if abY op=true\/k=k' then UF op k a b K else False
  | _,_=>False
def eqC (ck:CK) (x y:C):Option Bool:=
 match ck with
 | .i=>match uI x,uI y with
  | some (k,a),some (k',b)=>if k=k' then some (decide (a=b)) else none
  | _,_=>none
 | .s=>match x,y with
  | .s a,.s b=>some (decide (a=b))
  | _,_=>none
 | .b=>match x,y with
  | .bo a,.bo b=>some (a==b)
  | _,_=>none
def Ty:List (Nat×CK)->List C->List C->Option Bool
 | [],_,_=>some true
 | (o,ck)::l,xs,ys=>match xs[o]?,ys[o]? with
  | some x,some y=>match eqC ck x y,l with
   | some b,[]=>some b
   | some b,l=>match Ty l xs ys with
    | some r=>some (b&&r)
    | none=>none
   | none,_=>none
  | _,_=>none
def TC:Tt->C
 | .d c=>c
 | _=>.any
def QN (P:Program) (op:BinOp) (t:TypeId) (x y:At) (k:At->Prop):Prop:=
 match x,y with
 | .one (.c (.d (.bo a))),.one (.c (.d (.bo b)))=>match (ty P t).k with
  | .bool=>match op with
   | .eql=>k (sct (.bo (a==b)))
   | .neq=>k (sct (.bo (!(a==b))))
   | _=>False
  | _=>False
 | .one (.c (.d a)),.one (.c (.d b))=>QK op a b fun d=>k (sct d)
 | .one (.agg xs),.one (.agg ys)=>match P5 P t with
  | some l=>match Ty l (xs.map TC) (ys.map TC),op with
   | some b,.eql=>k (sct (.bo b))
   | some b,.neq=>k (sct (.bo (!b)))
   | _,_=>False
  | none=>False
 | _,_=>False
def unT (op:UnOp) (x:At) (k:At->Prop):Prop:=
 match op,x with
 | .not,.one (.c (.d (.bo b)))=>k (sct (.bo (!b)))
 | .neg,.one (.c (.d c))=>match uI c with
  | some (κ,n)=>k (sct (mkC κ (κ.wrap (0-n))))
  | none=>False
 | .xor,.one (.c (.d c))=>match uI c with
  | some (κ,n)=>k (sct (mkC κ (κ.wrap (BitVec.ofInt κ.bits (if κ.signed then -1 else κ.max) ^^^ BitVec.ofInt κ.bits n).toNat)))
  | none=>False
 | _,_=>False
def lX (x:At) (i:Nat) (k:At->Prop):Prop:=
 match x with
 | .tup vs=>match vs[i]? with
  | some v=>k (.one v)
  | none=>False
 | _=>False
def inT (sub:List Sh) (u:U) (l:List (El u)) (n:Nat):List Step->Option (List Tt)
 | []=>none
 | [st]=>match Nat.ble (st.off+n) sub.length with
  | true=>some (List.zipWith (fun s c=>match s,c with
    | Sh.fr,x=>Tt.d x
    | Sh.ow s,C.li u' l'=>Tt.ow s u' l'
    | _,_=>Tt.any) ((sub.drop st.off).take n) (((flat u (l.getD st.idx (dflt u))).drop st.off).take n))
  | false=>none
 | st::st'::r=>match sub[st.off]?,(flat u (l.getD st.idx (dflt u)))[st.off]? with
  | some (.ow s),some (.li u' l')=>inT s u' l' n (st'::r)
  | _,_=>none
def ZG:Option (Nat×Step×List Step)->List Step->Bool
 | none,_=>true
 | some (_,_,q'),p=>Nat.blt p.length (q'.length+1)
def atT (m:List (Nm×Nat×Rt)) (p:Pl) (n:Nat):Option (List Tt):=
 match cg m p.root with
 | none=>none
 | some r=>match p.path with
  | []=>match Nat.ble (p.off+n) r.cells.length with
   | true=>some ((r.cells.drop p.off).take n)
   | false=>none
  | st::q=>match ZG r.hole (st::q),r.cells[p.off]? with
   | true,some (.ow sub u l)=>inT sub u l n (st::q)
   | _,_=>none
def We (q:Pl):Tt->Tt
 | .ow _ _ _=>.rf q
 | t=>t
def MN (p:Pl) (ts:List Tt):List Tt:=ts.zipIdx.map fun x=>We (p.add x.2) x.1
def sliceAt (m:List (Nm×Nat×Rt)) (p:Pl):Option ((_:List Sh)×(u:U)×List (El u)):=
 match atT m p 1 with
 | some [.ow sh u l]=>some ⟨sh,u,l⟩
 | _=>none
def gift:Option (Nat×Bool)->Nat->Prop->Prop
 | none,n,q=>n<=4611686018427387904->q
 | some _,_,q=>q
def Rn (gd:Option (Nat×Bool)) (m:List (Nm×Nat×Rt)) (x:At) (k:Nat->Prop):Prop:=
 match x with
 | .one (.c (.d (.s l)))=>gift gd l.length (k l.length)
 | .one (.c (.d (.li _ l)))=>gift gd l.length (k l.length)
 | .one (.c .nil)=>k 0
 | .one (.c (.rf p))=>match sliceAt m p with
  | some ⟨_,_,l⟩=>gift gd l.length (k l.length)
  | _=>False
 | _=>False
def vY (x i:At) (k:At->Prop):Prop:=
 match x,i with
 | .one (.c (.d (.s l))),.one (.c (.d (.i _ n)))=>(0<=n/\n.toNat<l.length)/\k (sct (.b (l.getD n.toNat 0)))
 | _,_=>False
def gN (x:Option At) (d:Nat) (k:Nat->Prop):Prop:=
 match x with
 | none=>k d
 | some (.one (.c (.d (.i _ n))))=>0<=n/\k n.toNat
 | _=>False
def vS (P:Program) (t:TypeId) (x:At) (lo hi:Option At) (k:At->Prop):Prop:=
 match x with
 | .one (.c (.d (.s l)))=>match (ty P t).k with
  | .str=>gN lo 0 fun a=>gN hi l.length fun b=>(a<=b/\b<=l.length)/\k (sct (.s ((l.drop a).take (b-a))))
  | _=>False
 | .one (.c (.d (.li u l)))=>match (ty P t).k with
  | .sl e=>match (ty P e).ok&&Nat.beq (nc u) (ty P e).size with
   | true=>gN lo 0 fun a=>gN hi l.length fun b=>(a<=b/\b<=l.length)/\k (sct (.li u ((l.drop a).take (b-a))))
   | false=>False
  | _=>False
 | .one (.c .nil)=>match (ty P t).k with
  | .sl e=>match (ty P e).ok with
   | true=>gN lo 0 fun a=>gN hi 0 fun b=>a<=b/\b<=0/\k (.one (.c .nil))
   | false=>False
  | _=>False
 | _=>False
def pG (m:List (Nm×Nat×Rt)) (p:Pl) (n:Nat):Bool:=
 match cg m p.root with
 | none=>false
 | some r=>match p.path,r.cells[p.off]? with
  | [],_=>Nat.ble (n+1) (r.cells.length-p.off)
  | st::q,some (.ow sub _ _)=>match xr sub (st::q) with
   | some k=>Nat.ble (n+1) k
   | none=>false
  | _,_=>false
def iE (P:Program) (m:List (Nm×Nat×Rt)) (t:TypeId) (x:At) (i:Nat) (k:At->Prop):Prop:=
 match (ty P t).k with
 | .st fs=>match fs[i]? with
  | some (off,size+1,_)=>match x with
   | .one (.c (.pl p))=>match pG m p off with
    | true=>k (.one (.c (.pl (p.add off))))
    | false=>False
   | .one (.c (.el row o))=>k (.one (.c (.el row (o+off))))
   | _=>False
  | _=>False
 | _=>False
def iB (P:Program) (m:List (Nm×Nat×Rt)) (t:TypeId) (x i:At) (k:At->Prop):Prop:=
 match i with
 | .one (.c (.d (.i _ n)))=>match (ty P t).k with
  | .sl e=>match x with
   | .one (.c (.d (.li u l)))=>match (ty P e).ok&&Nat.beq (nc u) (ty P e).size with
    | true=>(0<=n/\n.toNat<l.length)/\k (.one (.c (.el (flat u (l.getD n.toNat (dflt u))) 0)))
    | false=>False
   | .one (.c (.rf p))=>match (ty P e).ok&&Nat.ble 1 (ty P e).size with
    | true=>match sliceAt m p with
     | some ⟨sh,_,l⟩=>match Nat.beq sh.length (ty P e).size with
      | true=>(0<=n/\n < (l.length:Int))/\k (.one (.c (.pl (p.at n.toNat (ty P e).size))))
      | false=>False
     | _=>False
    | false=>False
   | _=>False
  | .ar N e=>match x with
   | .one (.c (.ga u l i))=>match (ty P e).ok&&Nat.beq (ty P e).size 1&&leaf u with
    | true=>(0<=n/\n < (N:Int))/\k (.one (.c (.ga u l (n.toNat+i))))
    | false=>False
   | .one (.c (.pl p))=>match (ty P e).ok&&pG m p (n.toNat*(ty P e).size) with
    | true=>(0<=n/\n < (N:Int))/\k (.one (.c (.pl (p.add (n.toNat*(ty P e).size)))))
    | false=>False
   | _=>False
  | _=>False
 | _=>False
def rH (P:Program) (m:List (Nm×Nat×Rt)) (t:TypeId) (x:At) (k:At->Prop):Prop:=
 match (ty P t).ok with
 | true=>match x with
  | .one (.c (.el row o))=>match (ty P t).agg with
   | true=>match Nat.ble (o+(ty P t).size) row.length with
    | true=>k (.one (.agg (((row.drop o).take (ty P t).size).map Tt.d)))
    | false=>False
   | false=>match row[o]? with
    | some c=>k (sct c)
    | none=>False
  | .one (.c (.ga u l i))=>match (ty P t).agg,leaf u with
   | false,true=>i<l.length/\k (sct (jo u (l.getD i (dflt u))))
   | _,_=>False
  | .one (.c (.pl p))=>match (ty P t).agg with
   | true=>match atT m p (ty P t).size with
    | some ts=>k (.one (.agg (MN p ts)))
    | none=>False
   | false=>match atT m p 1 with
    | some [t']=>k (.one (.c (We p t')))
    | _=>False
  | _=>False
 | false=>False
def wZ (P:Program) (t:TypeId) (x:At) (i:Nat) (k:At->Prop):Prop:=
 match (ty P t).k,x with
 | .st fs,.one (.agg ts)=>match fs[i]? with
  | some (off,_,some false)=>match ts[off]? with
   | some t'=>k (.one (.c t'))
   | none=>False
  | some (off,size,some true)=>match Nat.ble (off+size) ts.length with
   | true=>k (.one (.agg ((ts.drop off).take size)))
   | false=>False
  | _=>False
 | _,_=>False
def jQ (x:At) (k:At->Prop):Prop:=
 match x with
 | .one (.c (.pl _))=>k x
 | .one (.c (.el _ _))=>k x
 | .one (.c (.ga _ _ _))=>k x
 | _=>False
def Tt.sure:Tt->Bool
 | .any=>false
 | .d .any=>false
 | _=>true
def q8:At->Option (List Tt)
 | .one (.c t)=>some [t]
 | .one (.agg ts)=>some ts
 | _=>none
def tm (pl:Nat->Option (Nat×Nat)):List Tt->List (Nat×At)->Option (List Tt)
 | ts,[]=>some ts
 | ts,(i,x)::r=>match pl i,q8 x with
  | some (off,size),some cs=>match Nat.beq cs.length size&&Nat.ble (off+cs.length) ts.length&&cs.all Tt.sure with
   | true=>tm pl (overw ts off cs) r
   | false=>none
  | _,_=>none
def nJ (s:St) (ps:Array (Nat×Operand)):List (Nat×At):=ps.toList.map fun x=>(x.1,evA s x.2)
def wj (P:Program) (t:TypeId) (parts:List (Nat×At)) (k:At->Prop):Prop:=
 match zst P t with
 | some (zs,places)=>match tm (places[·]?) (zs.map uB) parts with
  | some ts=>k (.one (.agg ts))
  | none=>False
 | none=>False
def EN (P:Program) (su du:TypeId) (x:At) (k:At->Prop):Prop:=
 match (ty P su).k,(ty P du).k with
 | .int _,.int κ=>match x with
  | .one (.c (.d c))=>match uI c with
   | some (_,n)=>k (sct (mkC κ (κ.wrap n)))
   | none=>False
  | _=>False
 | .sl e,.str=>match (ty P e).k with
  | .int .u8=>match x with
   | .one (.c (.d (.li .b8 l)))=>k (sct (.s l))
   | .one (.c .nil)=>k (sct (.s []))
   | _=>False
  | _=>False
 | _,_=>False
def wA (P:Program) (s:St) (t:TypeId) (d:Tmp) (k:St->Prop):Prop:=
 match zcells P t with
 | some (z::zs)=>match Nat.blt d 1000000 with
  | true=>k (((s.fresh (nz t d)).root (nz t d) ⟨true,(z::zs).map uB,none⟩).put (some d) (.one (.c (.pl ⟨nz t d,0,[]⟩))))
  | false=>False
 | _=>False
def RU (s:St) (x:Operand) (d:Tmp) (k:St->Prop):Prop:=
 match q8 (evA (s.fresh (.loc d)) x) with
 | some (t::ts)=>match (t::ts).all Tt.sure&&Nat.blt d 1000000 with
  | true=>k (((s.fresh (.loc d)).root (.loc d) ⟨true,t::ts,none⟩).put (some d) (.one (.c (.pl ⟨.loc d,0,[]⟩))))
  | false=>False
 | _=>False
def Ut:=List (TypeId×U)
def Ut.get:Ut->TypeId->Option U
 | [],_=>none
 | (t,u)::r,i=>match Nat.beq t i with
  | true=>some u
  | false=>Ut.get r i
def L6 (u:U) (c:Tt):Option (El u):=
 match c with
 | .d c=>wT u c
 | .nil=>match u with
  | .sl _=>some []
  | _=>none
 | _=>none
def kW:(us:List U)->List Tt->Option (Fl us)
 | [],[]=>some ()
 | u::r,c::cs=>match L6 u c,kW r cs with
  | some x,some y=>some (Fl.cons u r x y)
  | _,_=>none
 | _,_=>none
def kN (u:U) (ts:List Tt):Option (El u):=
 match u with
 | .st n=>match kW (sd n).fs ts with
  | some y=>some ((sd n).mkF y)
  | none=>none
 | u=>match ts with
  | [t]=>L6 u t
  | _=>none
def nV (u:U):List (List Tt)->Option (List (El u))
 | []=>some []
 | r::rs=>match kN u r,nV u rs with
  | some x,some xs=>some (x::xs)
  | _,_=>none
def Tt.noRf:Tt->Bool
 | .rf _=>false
 | _=>true
def At.noRf:At->Bool
 | .one (.c t)=>t.noRf
 | .one (.agg ts)=>ts.all Tt.noRf
 | _=>true
def gm (P:Program) (E:Ut) (s0:St) (t:TypeId) (len:Nat) (ps:Array (Nat×Operand)) (d:Tmp) (k:St->Prop):Prop:=
 match (ty P t).k with
 | .sl e=>match E.get e,zcells P e with
  | some u,some _=>match (ty P e).ok&&Nat.beq (nc u) (ty P e).size&&Nat.ble (len*nc u) 16777216&&Nat.ble len 16777216 with
   | true=>
    let s1:=cT s0 (ps.toList.map fun x=>evA s0 x.2)
    let s:=s1.fresh (.gh d)
    match tm (fun i=>some (i*nc u,nc u)) (List.replicate (len*nc u) .any) (nJ s ps),(nJ s1 ps).all (fun x=>x.2.noRf) with
    | some ts,true=>match nV u (chunk (nc u) len ts) with
     | some l=>k ((s.root (.gh d) ⟨false,[.ow (List.replicate (nc u) .fr) u l],none⟩).put (some d) (.one (.c (.rf ⟨.gh d,0,[]⟩))))
     | none=>False
    | _,_=>False
   | false=>False
  | _,_=>False
 | _=>False
def Tt.owned:Tt->Bool
 | .ow _ _ _=>true
 | _=>false
def KD (u:U) (x:El u) (off:Nat) (c:C):Option (El u):=match (flat u x)[off]? with
 | some _=>unflat u ((flat u x).set off c)
 | none=>none
def Ls (sub:List Sh) (u:U) (l:List (El u)) (t:Tt):List Step->Option (List (El u))
 | []=>none
 | [st]=>match sub[st.off]?,t with
  | some .fr,.d c=>match KD u (l.getD st.idx (dflt u)) st.off c with
   | some x=>some (l.set st.idx x)
   | none=>none
  | some .fr,.nil=>match (flat u (l.getD st.idx (dflt u)))[st.off]? with
   | some (.li u' _)=>match KD u (l.getD st.idx (dflt u)) st.off (.li u' []) with
    | some x=>some (l.set st.idx x)
    | none=>none
   | _=>none
  | _,_=>none
 | st::st'::r=>match sub[st.off]?,(flat u (l.getD st.idx (dflt u)))[st.off]? with
  | some (.ow s),some (.li u' l')=>match Ls s u' l' t (st'::r) with
   | some l''=>match KD u (l.getD st.idx (dflt u)) st.off (.li u' l'') with
    | some x=>some (l.set st.idx x)
    | none=>none
   | none=>none
  | _,_=>none
mutual
def Ja:Sh->Sh->Bool
 | .fr,.fr=>true
 | .ow a,.ow b=>pq a b
 | _,_=>false
def pq:List Sh->List Sh->Bool
 | [],[]=>true
 | a::r,b::q=>Ja a b&&pq r q
 | _,_=>false
end
def Jv (sub:List Sh) (u:U) (l:List (El u)) (sh:List Sh) (v:U) (lv:List (El v)):List Step->Option (List (El u))
 | []=>none
 | [st]=>match sub[st.off]?,(flat u (l.getD st.idx (dflt u)))[st.off]? with
  | some (.ow s),some _=>match pq s sh,KD u (l.getD st.idx (dflt u)) st.off (.li v lv) with
   | true,some x=>some (l.set st.idx x)
   | _,_=>none
  | _,_=>none
 | st::st'::r=>match sub[st.off]?,(flat u (l.getD st.idx (dflt u)))[st.off]? with
  | some (.ow s),some (.li u' l')=>match Jv s u' l' sh v lv (st'::r) with
   | some l''=>match KD u (l.getD st.idx (dflt u)) st.off (.li u' l'') with
    | some x=>some (l.set st.idx x)
    | none=>none
   | none=>none
  | _,_=>none
def frs (sub:List Sh) (off:Nat):Nat->Bool
 | 0=>true
 | n+1=>match sub[off]? with
  | some .fr=>frs sub (off+1) n
  | _=>false
def kq (cs:List C) (off:Nat):List Tt->Option (List C)
 | []=>some cs
 | .d c::r=>match c,cs[off]? with
  | .any,_=>none
  | c,some _=>kq (cs.set off c) (off+1) r
  | _,none=>none
 | .nil::r=>match cs[off]? with
  | some (.li u' _)=>kq (cs.set off (.li u' [])) (off+1) r
  | _=>none
 | _=>none
def uT (sub:List Sh) (u:U) (l:List (El u)) (ts:List Tt):List Step->Option (List (El u))
 | []=>none
 | [st]=>match frs sub st.off ts.length,kq (flat u (l.getD st.idx (dflt u))) st.off ts with
  | true,some cs=>match unflat u cs with
   | some x=>some (l.set st.idx x)
   | none=>none
  | _,_=>none
 | st::st'::r=>match sub[st.off]?,(flat u (l.getD st.idx (dflt u)))[st.off]? with
  | some (.ow s),some (.li u' l')=>match uT s u' l' ts (st'::r) with
   | some l''=>match KD u (l.getD st.idx (dflt u)) st.off (.li u' l'') with
    | some x=>some (l.set st.idx x)
    | none=>none
   | none=>none
  | _,_=>none
def tn (sub:List Sh) (u:U) (l:List (El u)):List Step->Prop->Prop
 | [],_=>False
 | [st],k=>st.idx<l.length/\k
 | st::st'::r,k=>match sub[st.off]?,(flat u (l.getD st.idx (dflt u)))[st.off]? with
  | some (.ow s),some (.li u' l')=>st.idx<l.length/\tn s u' l' (st'::r) k
  | _,_=>False
def sA:List Step->List Step->Prop->Prop
 | [],[],p=>p
 | a::r,b::q,p=>match Nat.beq a.esz b.esz&&Nat.beq a.off b.off with
  | true=>a.idx=b.idx/\sA r q p
  | false=>False
 | _,_,_=>False
def Je (s:St) (p:Pl) (t:Tt) (k:St->Prop):Prop:=
 match cg s.m p.root with
 | none=>False
 | some r=>match p.path,r.hole,r.cells[p.off]? with
  | [],none,some t0=>match t0.owned with
   | false=>k ⟨s.nx+1,s.t,iC s.m p.root s.nx { r with cells:=r.cells.set p.off t }⟩
   | true=>False
  | st::q,none,some (.ow sub u l)=>match Ls sub u l t (st::q) with
   | some l'=>tn sub u l (st::q) (k ⟨s.nx+1,s.t,iC s.m p.root s.nx { r with cells:=r.cells.set p.off (.ow sub u l') }⟩)
   | none=>False
  | st::q,some (off,st',q'),some (.ow sub u l)=>match Nat.beq off p.off,t with
   | true,.ow sh v lv=>match Jv sub u l sh v lv (st::q) with
    | some l'=>tn sub u l (st::q) (sA (st'::q') (st::q) (k ⟨s.nx+1,s.t,iC s.m p.root s.nx ⟨r.blk,r.cells.set p.off (.ow sub u l'),none⟩⟩))
    | none=>False
   | _,_=>False
  | _,_,_=>False
def acV:Tt->Bool
 | .d _=>true
 | .nil=>true
 | _=>false
def Ze (p:Pl) (ts:List Tt):Bool:=!p.path.isEmpty&&Nat.blt 1 ts.length&&ts.all acV
def re (s:St) (p:Pl) (ts:List Tt) (k:St->Prop):Prop:=
 match cg s.m p.root with
 | none=>False
 | some r=>match p.path,r.hole,r.cells[p.off]? with
  | st::q,none,some (.ow sub u l)=>match uT sub u l ts (st::q) with
   | some l'=>tn sub u l (st::q) (k ⟨s.nx+1,s.t,iC s.m p.root s.nx { r with cells:=r.cells.set p.off (.ow sub u l') }⟩)
   | none=>False
  | _,_,_=>False
def jy (s:St) (p:Pl):List Tt->(St->Prop)->Prop
 | [],k=>k s
 | .rf q::ts,k=>match cg s.m q.root with
  | some ⟨false,[.ow sub u l],none⟩=>match q.path,decide (q.root=p.root),ts.all fun t=>!t.ment q.root with
   | [],false,true=>Je (s.drop q.root) p (.ow sub u l) fun s'=>jy s' (p.add 1) ts k
   | _,_,_=>False
  | _=>False
 | .any::_,_=>False
 | .d .any::_,_=>False
 | t::ts,k=>Je s p t fun s'=>jy s' (p.add 1) ts k
def we (P:Program) (s:St) (t:TypeId) (x v:At) (k:St->Prop):Prop:=
 match x,q8 v with
 | .one (.c (.pl p)),some ts=>match (ty P t).ok&&Nat.beq ts.length (ty P t).size&&pG s.m p (ts.length - 1) with
  | true=>match Ze p ts with
   | true=>re s p ts k
   | false=>jy s p ts k
  | false=>False
 | _,_=>False
def VO (s:St) (q:Pl):Option St:=
 match cg s.m q.root with
 | none=>none
 | some r=>match q.path,r.hole with
  | [],none=>some ⟨s.nx+1,gr (thr q) s.nx s.t,bO (thr q) s.nx (iC s.m q.root s.nx { r with cells:=r.cells.set q.off .any })⟩
  | st::p,none=>some ⟨s.nx+1,gr (thr q) s.nx s.t,bO (thr q) s.nx (iC s.m q.root s.nx { r with hole:=some (q.off,st,p) })⟩
  | _,_=>none
def ZY (u:U):At->Option (List (El u))
 | .one (.c .nil)=>some []
 | .one (.c (.d (.li u' l)))=>ym u' u l
 | .one (.c (.d (.s b)))=>match u with
  | .b8=>some b
  | _=>none
 | _=>none
def ye (s:St) (u:U):At->Option (St×List Sh×List (El u))
 | .one (.c .nil)=>some (s,List.replicate (nc u) .fr,[])
 | .one (.c (.rf q))=>match sliceAt s.m q with
  | some ⟨sub,u',l⟩=>match ym u' u l,Nat.beq sub.length (nc u),VO s q with
   | some l',true,some s'=>some (s',sub,l')
   | _,_,_=>none
  | none=>none
 | _=>none
def qW (P:Program) (E:Ut) (s00:St) (t u0:TypeId) (x y:Operand) (d:Tmp) (k:St->Prop):Prop:=
 let s:=lm s00 (evA s00 y)
 match (ty P t).k with
 | .sl e=>match E.get e,zcells P e with
  | some u,some z=>match (ty P e).ok&&(ty P u0).k.isSS&&Nat.beq z.length (ty P e).size&&Nat.beq (nc u) (ty P e).size with
   | true=>match ZY u (evA s y),ye s u (evA s x) with
    | some ys,some (s1,sub,l)=>match sub.all Sh.isFr with
     | true=>(l.length+ys.length<=4611686018427387904/\(l.length+ys.length)*(ty P e).bytes<=140737488355328) /\
      k (((s1.fresh (.gh d)).root (.gh d) ⟨false,[.ow sub u (l++ys)],none⟩).put (some d) (.one (.c (.rf ⟨.gh d,0,[]⟩))))
     | false=>False
    | _,_=>False
   | false=>False
  | _,_=>False
 | _=>False
def rM:List Sh->List Tt->Bool
 | [],[]=>true
 | .fr::r,_::ts=>rM r ts
 | .ow _::r,.nil::ts=>rM r ts
 | _,_=>false
def fV (P:Program) (E:Ut) (sub:List Sh) (s0:St) (t:TypeId) (len:Nat) (ps:Array (Nat×Operand)) (d:Tmp) (k:St->Prop):Prop:=
 match (ty P t).k with
 | .sl e=>match E.get e,zcells P e with
  | some u,some _=>match (ty P e).ok&&Nat.beq (nc u) (ty P e).size&&Nat.ble (len*nc u) 16777216&&Nat.ble len 16777216&&Nat.beq sub.length (nc u) with
   | true=>
    let s1:=cT s0 (ps.toList.map fun x=>evA s0 x.2)
    let s:=s1.fresh (.gh d)
    match tm (fun i=>some (i*nc u,nc u)) (List.replicate (len*nc u) .any) (nJ s ps),(nJ s1 ps).all (fun x=>x.2.noRf) with
    | some ts,true=>match nV u (chunk (nc u) len ts),rM (List.replicate len sub).flatten ts with
     | some l,true=>k ((s.root (.gh d) ⟨false,[.ow sub u l],none⟩).put (some d) (.one (.c (.rf ⟨.gh d,0,[]⟩))))
     | _,_=>False
    | _,_=>False
   | false=>False
  | _,_=>False
 | _=>False
def mH (P:Program) (E:Ut) (s:St) (t u0:TypeId) (x y:Operand) (d:Tmp) (k:St->Prop):Prop:=
 match (ty P t).k with
 | .sl e=>match E.get e,zcells P e with
  | some u,some z=>match (ty P e).ok&&(ty P u0).k.isSS&&Nat.beq z.length (ty P e).size&&Nat.beq (nc u) (ty P e).size with
   | true=>match ye s u (evA s y) with
    | some (s1,sub1,ys)=>match ye s1 u (evA s1 x) with
     | some (s2,sub,l)=>match pq sub1 sub with
      | true=>(l.length+ys.length<=4611686018427387904/\(l.length+ys.length)*(ty P e).bytes<=140737488355328) /\
       k (((s2.fresh (.gh d)).root (.gh d) ⟨false,[.ow sub u (l++ys)],none⟩).put (some d) (.one (.c (.rf ⟨.gh d,0,[]⟩))))
      | false=>False
     | none=>False
    | none=>False
   | false=>False
  | _,_=>False
 | _=>False
def aaA (s:St):At->Bool
 | .one (.c (.rf q))=>match sliceAt s.m q with
  | some ⟨sub,_,_⟩=>!(sub.all Sh.isFr)
  | none=>false
 | _=>false
def Uw (sub:List Sh):List Step->Bool
 | []=>false
 | [st]=>match sub[st.off]? with
  | some .fr=>true
  | _=>false
 | st::st'::r=>match sub[st.off]? with
  | some (.ow s)=>Uw s (st'::r)
  | _=>false
def ZK (m:List (Nm×Nat×Rt)) (p:Pl):Bool:=
 match cg m p.root with
 | none=>false
 | some r=>match p.path,r.hole,r.cells[p.off]? with
  | st::q,none,some (.ow sub _ _)=>Uw sub (st::q)
  | _,_,_=>false
def abR (m:List (Nm×Nat×Rt)) (n:Nm):Bool:=
 match cg m n with
 | some r=>r.blk
 | none=>false
def xN (s:St) (p:Pl):List Tt->St
 | []=>s
 | .rf q::ts=>match ZK s.m p||abR s.m q.root with
  | true=>xN (uz s q) (p.add 1) ts
  | false=>xN s (p.add 1) ts
 | _::ts=>xN s (p.add 1) ts
def IM (s:St) (x v:At):St:=
 match x,q8 v with
 | .one (.c (.pl p)),some ts=>xN s p ts
 | _,_=>s
abbrev PKt:=Value->St->Prop
abbrev CKt:=PKt->St->List Operand->(St->At->Prop)->Prop
abbrev CTt:=List (Nat×CKt)
def CTt.get:CTt->Nat->Option CKt
 | [],_=>none
 | (f,c)::r,i=>match Nat.beq f i with
  | true=>some c
  | false=>CTt.get r i
def WE:At->Bool
 | .one (.c (.d (.s _)))=>true
 | _=>false
structure En where
 P:Program
 E:Ut
 cs:CTt
 sh:List (TypeId×List Sh)
 pk:PKt
def Y1:List (TypeId×List Sh)->TypeId->Option (List Sh)
 | [],_=>none
 | (t,u)::r,i=>match Nat.beq t i with
  | true=>some u
  | false=>Y1 r i
def acX (e:En) (t:TypeId):Option (List Sh):=match (ty e.P t).k with
 | .sl el=>Y1 e.sh el
 | _=>none
def acK:At->Option Nat
 | .one (.c (.d (.v (.func (.func f) a b))))=>match a.size,b.size with
  | 0,0=>some f
  | _,_=>none
 | _=>none
def IS (s:St) (o:Oper):St:=
 match o.op with
 | .convert _ _ x=>lm s (evA s x)
 | .slice _ x _ _ _=>lm s (evA s x)
 | _=>s
def qT (e:En) (o:Oper) (s:St) (k:At->Prop):Prop:=
 match o.op with
 | .move x=>k (evA s x)
 | .assign x=>k (evA s x)
 | .pick c x y=>Ex (evA s c) (evA s x) (evA s y) k
 | .binOp op t x y _=>QN e.P op t (evA s x) (evA s y) k
 | .unOp op _ x=>unT op (evA s x) k
 | .load t x=>rH e.P s.m t (evA s x) k
 | .field t x i=>wZ e.P t (evA s x) i k
 | .fieldAddr t x i=>iE e.P s.m t (evA s x) i k
 | .indexAddr t x i=>iB e.P s.m t (evA s x) (evA s i) k
 | .index t x i=>match (ty e.P t).k with
  | .str=>vY (evA s x) (evA s i) k
  | _=>False
 | .extract x i=>lX (evA s x) i k
 | .convert su du x=>EN e.P su du (evA s x) k
 | .slice t x lo hi none=>vS e.P t (evA s x) (lo.map (evA s)) (hi.map (evA s)) k
 | .nilCheck x=>jQ (evA s x) k
 | .build t ps=>wj e.P t (nJ s ps) k
 | .call c=>match c.callee,c.args.toList,c.argTypes.toList with
  | .builtin .len,[x],[t]=>match Ci (ty e.P t).k (WE (evA s x)) with
   | true=>Rn o.guard s.m (evA s x) fun n=>k (sct (.i .i64 (n:Int)))
   | false=>False
  | _,_,_=>False
 | _=>False
def lT (e:En) (o:Oper) (s:St) (k:St->Prop):Prop:=
 match o.op with
 | .store t x v=>let s1:=IM s (evA s x) (evA s v); we e.P s1 t (evA s1 x) (evA s1 v) fun s'=>k (s'.put o.dst .any)
 | .alloc t=>match o.dst with
  | some d=>wA e.P s t d k
  | none=>False
 | .box _ x=>match o.dst with
  | some d=>RU s x d k
  | none=>False
 | .buildSlice t n ps=>match o.dst with
  | some d=>match acX e t with
   | none=>gm e.P e.E s t n ps d k
   | some sub=>fV e.P e.E sub s t n ps d k
  | none=>False
 | .call c=>match c.callee,c.args.toList,c.argTypes.toList with
  | .builtin .append,[x,y],[t,u]=>match o.dst with
   | some d=>match aaA s (evA s x) with
    | false=>qW e.P e.E s t u x y d k
    | true=>mH e.P e.E s t u x y d k
   | none=>False
  | .value (.func f),args,_=>match e.cs.get f with
   | some C=>C e.pk s args fun s' av=>k (s'.put o.dst av)
   | none=>False
  | .value (.tmp t),args,_=>match acK (gtA s.t t),Nat.blt t 100000 with
   | some f,true=>match e.cs.get f with
    | some C=>C e.pk s args fun s' av=>k (s'.put o.dst av)
    | none=>False
   | _,_=>False
  | _,_,_=>False
 | _=>False
def opT (e:En) (o:Oper) (s:St) (k:St->Prop):Prop:=
 match isQ o with
 | true=>let s1:=IS s o; qT e o s1 fun v=>k (s1.put o.dst v)
 | false=>lT e o s k
end Go.Am
end

section
namespace Go.Am
def nT (e:En) (all:List Oper):List Oper->St->(St->Prop)->Prop
 | [],s,k=>k s
 | o::r,s,k=>match o.guard with
  | none=>opT e o s fun s'=>nT e all r s' k
  | some (j,want)=>match (all[j]?).bind (·.dst) with
   | some d=>match gtA s.t d with
    | .one (.c (.d (.bo c)))=>match want with
     | true=>if c=true then opT e o (s.put (some d) (sct (.bo true))) fun s'=>nT e all r s' k
      else nT e all r ((s.put (some d) (sct (.bo false))).put o.dst (.tup [])) k
     | false=>if c=true then nT e all r ((s.put (some d) (sct (.bo true))).put o.dst (.tup [])) k
      else opT e o (s.put (some d) (sct (.bo false))) fun s'=>nT e all r s' k
    | .tup []=>nT e all r (s.put o.dst (.tup [])) k
    | _=>False
   | none=>False
def St.clr (s:St):St:=⟨s.nx,[],s.m⟩
abbrev En.cl (e:En):En:=⟨e.P,e.E,e.cs,e.sh,fun v s=>e.pk v s.clr⟩
def WS:At->Bool
 | .one (.c (.el _ _))=>true
 | .one (.c (.ga _ _ _))=>true
 | _=>false
def m6 (s:St) (o:Oper):Bool:=
 match o.op with
 | .load _ x=>WS (evA s x)
 | _=>true
def ab6 (ops:Array Oper) (listed:Array Bool) (i:Nat):List Nat:=
 (List.range ops.size).foldl (fun A j=>if unlisted listed j&&!(Nat.beq j i)&&(match ops[j]? with
  | some o=>o.after.any fun e=>Region.binds .any e&&unlisted listed e.on&&(Nat.beq e.on i||A.contains e.on)
  | none=>false) then j::A else A) []
def AM (ops:Array Oper) (listed:Array Bool) (s:St):List Nat->Option (Nat×List Nat×Bool)
 | []=>none
 | i::r=>match ops[i]? with
  | none=>AM ops listed s r
  | some o=>match isQ o with
   | false=>AM ops listed s r
   | true=>match m6 s o with
    | true=>match Cy ops listed i [] true with
     | true=>some (i,[],true)
     | false=>AM ops listed s r
    | false=>match Cy ops listed i (ab6 ops listed i) false with
     | true=>some (i,ab6 ops listed i,false)
     | false=>AM ops listed s r
def gT (ops:List Oper) (o:Oper) (s:St) (f:St->Prop) (no:St->Prop):Prop:=
 match o.guard with
 | none=>f s
 | some (j,want)=>match (ops[j]?).bind (·.dst) with
  | some d=>match gtA s.t d with
   | .one (.c (.d (.bo c)))=>match want with
    | true=>if c=true then f (s.put (some d) (sct (.bo true))) else no ((s.put (some d) (sct (.bo false))).put o.dst (.tup []))
    | false=>if c=true then no ((s.put (some d) (sct (.bo true))).put o.dst (.tup [])) else f (s.put (some d) (sct (.bo false)))
   | .tup []=>no (s.put o.dst (.tup []))
   | _=>False
  | none=>False
def Tv (f:Nat->Prop):List Nat->Prop
 | []=>True
 | [i]=>f i
 | i::r=>f i/\Tv f r
def ju (e:En) (ops:Array Oper):Nat->Array Bool->St->(St->Prop)->Prop
 | 0,listed,s,k=>match Region.ready .any ops listed with
  | []=>k s
  | _=>False
 | n+1,listed,s,k=>match Region.ready .any ops listed with
  | []=>k s
  | i0::rd=>match AM ops listed s (i0::rd) with
   | some (i,_,fz)=>match ops[i]? with
    | some o=>match o.guard with
     | none=>let s1:=IS s o; qT e o s1 fun v=>ju e ops n (listed.setIfInBounds i true) (s1.put o.dst v) k
     | some _=>gT ops.toList o s (fun s=>match !fz||m6 s o with
      | true=>qT e o s fun v=>ju e ops n (listed.setIfInBounds i true) (s.put o.dst v) k
      | false=>False) (fun s=>ju e ops n (listed.setIfInBounds i true) s k)
    | none=>False
   | none=>Tv (fun i=>match ops[i]? with
    | some o=>gT ops.toList o s (fun s=>opT e.cl o s fun s'=>ju e ops n (listed.setIfInBounds i true) s' k) (fun s=>ju e ops n (listed.setIfInBounds i true) s k)
    | none=>False) (i0::rd)
inductive Sp where
 | sl (k:Nat) (u:U)
 | ow (k:Nat) (sh:List Sh) (u:U)
 | rt (n:Nm) (sh:List Sh) (u:U)
def Sp.u:Sp->U
 | .sl _ u=>u
 | .ow _ _ u=>.sl u
 | .rt _ _ u=>u
abbrev fY:List Sp->List U
 | []=>[]
 | p::r=>p.u::fY r
structure Sg where
 ks:List Nat
 kr:List Nm
 ps:List (Nat×Nm×Nat)
 sp:List Sp
def CV:(u:U)->El u->At
 | .st n,x=>.one (.agg ((flat (.st n) x).map Tt.d))
 | u,x=>sct (jo u x)
def RR:(u:U)->El u->A1
 | .st n,x=>.agg ((flat (.st n) x).map Tt.d)
 | u,x=>.c (.d (jo u x))
def jx (k:Nat):Nm:=.gh (900000+k)
def aC:List Sh->List C->List Tt
 | .ow s::r,.li u l::cs=>.ow s u l::aC r cs
 | _::r,c::cs=>.d c::aC r cs
 | _,_=>[]
def dG:List Sh->List C->List Tt
 | .ow []::r,_::cs=>.nil::dG r cs
 | .ow (a::b)::r,.li u l::cs=>.ow (a::b) u l::dG r cs
 | _::r,c::cs=>.d c::dG r cs
 | _,_=>[]
def unmark:List Sh->List Sh
 | []=>[]
 | .ow []::r=>.fr::unmark r
 | s::r=>s::unmark r
def cM:List (Nat×Nat×At)->Nat->Option (Nat×At)
 | [],_=>none
 | (k,j,v)::t,i=>match Nat.beq k i with
  | true=>some (j,v)
  | false=>cM t i
def dN:List (Nm×Nat×Rt)->Nm->Option (Nat×Rt)
 | [],_=>none
 | (k,j,v)::t,i=>if k=i then some (j,v) else dN t i
def xk (nx:Nat):(sp:List Sp)->Fl (fY sp)->List (Nat×Nat×At)
 | [],_=>[]
 | .sl k u::r,x=>(k,nx,CV u (Fl.hd u (fY r) x))::xk nx r (Fl.tl u (fY r) x)
 | .ow k _ u::r,x=>(k,nx,.one (.c (.rf ⟨jx k,0,[]⟩)))::xk nx r (Fl.tl (.sl u) (fY r) x)
 | .rt _ _ u::r,x=>xk nx r (Fl.tl u (fY r) x)
def mw (nx:Nat):(sp:List Sp)->Fl (fY sp)->List (Nm×Nat×Rt)
 | [],_=>[]
 | .sl _ u::r,x=>mw nx r (Fl.tl u (fY r) x)
 | .ow k sh u::r,x=>(jx k,nx,⟨false,[.ow sh u (Fl.hd (.sl u) (fY r) x)],none⟩)::mw nx r (Fl.tl (.sl u) (fY r) x)
 | .rt n sh u::r,x=>(n,nx,⟨true,dG sh (flat u (Fl.hd u (fY r) x)),none⟩)::mw nx r (Fl.tl u (fY r) x)
def ED (t:List (Nat×Nat×At)):List Nat->List (Nat×Nat×At)
 | []=>[]
 | k::r=>match cM t k with
  | some (j,v)=>(k,j,v)::ED t r
  | none=>ED t r
def oR (m:List (Nm×Nat×Rt)):List Nm->List (Nm×Nat×Rt)
 | []=>[]
 | k::r=>match dN m k with
  | some (j,v)=>(k,j,v)::oR m r
  | none=>oR m r
def Sg.st (σ:Sg) (s:St) (x:Fl (fY σ.sp)):St:=⟨s.nx+1,ED s.t σ.ks++(σ.ps.map (fun p=>(p.1,s.nx,.one (.c (.pl ⟨p.2.1,p.2.2,[]⟩))))++xk s.nx σ.sp x),oR s.m σ.kr++mw s.nx σ.sp x⟩
def DJ (s:St) (k:Nat) (sh:List Sh) (u:U):St:=
 match gtA s.t k with
 | .one (.c .nil)=>
  let s1:=s.fresh (jx k)
  ⟨s1.nx+1,(k,s1.nx,.one (.c (.rf ⟨jx k,0,[]⟩)))::s1.t,(jx k,s1.nx,⟨false,[.ow sh u []],none⟩)::s1.m⟩
 | .one (.c (.rf ⟨n,0,[]⟩))=>match decide (n=jx k),cg s.m n with
  | false,some ⟨false,[.ow sh' u' l],none⟩=>
   let s1:=(s.drop n).fresh (jx k)
   ⟨s1.nx+1,(k,s1.nx,.one (.c (.rf ⟨jx k,0,[]⟩)))::s1.t,(jx k,s1.nx,⟨false,[.ow sh' u' l],none⟩)::s1.m⟩
  | _,_=>s
 | _=>s
def bu (s:St) (n:Nm) (us:List U):List Sh->Nat->St
 | [],_=>s
 | .ow sh::r,off=>match cg s.m n with
  | some ⟨true,cells,none⟩=>match cells[off]?,us[off]? with
   | some .nil,some (.sl u)=>bu ⟨s.nx+1,s.t,iC s.m n s.nx ⟨true,cells.set off (.ow sh u []),none⟩⟩ n us r (off+1)
   | _,_=>bu s n us r (off+1)
  | _=>s
 | .fr::r,off=>match cg s.m n with
  | some ⟨true,cells,none⟩=>match cells[off]? with
   | some (.ow _ _ _)=>bu (uz s ⟨n,off,[]⟩) n us r (off+1)
   | _=>bu s n us r (off+1)
  | _=>s
def gk:U->List U
 | .st n=>(sd n).fs
 | u=>[u]
def prep:List Sp->St->St
 | [],s=>s
 | .sl k _::r,s=>prep r (lm s (gtA s.t k))
 | .ow k sh u::r,s=>prep r (DJ s k sh u)
 | .rt n sh u::r,s=>prep r (bu s n (gk u) (unmark sh) 0)
mutual
def acI:Sh->Sh->Bool
 | .fr,.fr=>true
 | .ow a,.ow b=>pE a b
 | _,_=>false
def pE:List Sh->List Sh->Bool
 | [],[]=>true
 | a::r,b::q=>acI a b&&pE r q
 | _,_=>false
end
def VI (u:U):A1->Option (El u)
 | .c t=>match leaf u with
  | true=>kN u [t]
  | false=>none
 | .agg ts=>match leaf u with
  | true=>none
  | false=>kN u ts
def qm (u:U):At->Option (El u)
 | .one x=>VI u x
 | _=>none
def fC:List Sh->List Tt->Option (List Tt)
 | [],[]=>some []
 | .ow s::r,.ow s' u l::cs=>match pE s s',fC r cs with
  | true,some x=>some (.d (.li u l)::x)
  | _,_=>none
 | .fr::r,.d c::cs=>match fC r cs with
  | some x=>some (.d c::x)
  | none=>none
 | .fr::r,.nil::cs=>match fC r cs with
  | some x=>some (.nil::x)
  | none=>none
 | _,_=>none
def gZ:List Sh->List Tt->Option (List Tt)
 | [],[]=>some []
 | .ow []::r,.nil::cs=>match gZ r cs with
  | some x=>some (.nil::x)
  | none=>none
 | .ow (a::b)::r,.ow s' u l::cs=>match pE (a::b) s',gZ r cs with
  | true,some x=>some (.d (.li u l)::x)
  | _,_=>none
 | .fr::r,.d c::cs=>match gZ r cs with
  | some x=>some (.d c::x)
  | none=>none
 | .fr::r,.nil::cs=>match gZ r cs with
  | some x=>some (.nil::x)
  | none=>none
 | _,_=>none
def YU (s:St):(p:Sp)->Option (El p.u)
 | .sl k u=>qm u (gtA s.t k)
 | .ow k sh u=>match gtA s.t k,cg s.m (jx k) with
  | .one (.c (.rf ⟨n,0,[]⟩)),some ⟨false,[.ow sh' u' l],none⟩=>match decide (n=jx k),pE sh sh' with
   | true,true=>ym u' u l
   | _,_=>none
  | _,_=>none
 | .rt n sh u=>match cg s.m n with
  | some ⟨true,cells,none⟩=>match gZ sh cells with
   | some ts=>kN u ts
   | none=>none
  | _=>none
def unS (s:St):(sp:List Sp)->Option (Fl (fY sp))
 | []=>some ()
 | p::r=>match YU s p,unS s r with
  | some x,some y=>some (Fl.cons p.u (fY r) x y)
  | _,_=>none
def Sp.rn:Sp->List Nm
 | .sl _ _=>[]
 | .ow k _ _=>[jx k]
 | .rt n _ _=>[n]
def Sg.rn (σ:Sg):List Nm:=σ.kr++σ.sp.flatMap Sp.rn
def Tt.inR (rs:List Nm):Tt->Bool
 | .pl p=>rs.contains p.root
 | .rf p=>rs.contains p.root
 | _=>true
def A1.inR (rs:List Nm):A1->Bool
 | .c t=>t.inR rs
 | .agg ts=>ts.all (·.inR rs)
def At.inR (rs:List Nm):At->Bool
 | .one x=>x.inR rs
 | .tup xs=>xs.all (·.inR rs)
 | .any=>true
def GG:List Nm->Bool
 | []=>true
 | n::r=>!r.contains n&&GG r
def YO (s0 s:St) (rs:List Nm):List Nat->Bool
 | []=>true
 | k::r=>(match cM s0.t k,cM s.t k with
  | some (j,_),some (j',v)=>Nat.beq j j'&&Nat.blt j s0.nx&&v.inR rs
  | _,_=>false)&&YO s0 s rs r
def RD (s0 s:St) (rs:List Nm):List Nm->Bool
 | []=>true
 | k::r=>(match dN s0.m k,dN s.m k with
  | some (j,_),some (j',v)=>Nat.beq j j'&&Nat.blt j s0.nx&&v.cells.all (·.inR rs)
  | _,_=>false)&&RD s0 s rs r
def XV (s:St) (rs:List Nm):List (Nat×Nm×Nat)->Bool
 | []=>true
 | (k,n,o)::r=>(match gtA s.t k with
  | .one (.c (.pl ⟨n',o',[]⟩))=>decide (n'=n)&&Nat.beq o' o&&rs.contains n
  | _=>false)&&XV s rs r
def Sg.fit (σ:Sg) (s0 s:St):Bool:=GG σ.rn&&XV s σ.rn σ.ps&&YO s0 s σ.rn σ.ks&&RD s0 s σ.rn σ.kr
def jn (σ:Sg) (s0:St) (J:Fl (fY σ.sp)->Prop) (s:St):Prop:=
 let s1:=prep σ.sp s
 match σ.fit s0 s1 with
 | true=>match unS s1 σ.sp with
  | some x=>J x
  | none=>False
 | false=>False
def ab {α:Type} (A:(α->Prop)->Prop) (B:α->Prop):Prop:=∀ J:α->Prop,(∀ x,B x->J x)->A J
def oZ {α:Type} (body:(α->Prop)->α->Prop):Nat->α->Prop
 | 0,_=>False
 | n+1,x=>body (oZ body n) x
def aB {α:Type} (body:(α->Prop)->α->Prop) (x:α):Prop:=∃ n,oZ body n x
inductive An where
 | l
 | s (a b:An)
 | j (σ:Sg) (a b:An)
 | c (a b:An)
 | b (a:An)
 | lp (σ:Sg) (a:An)
 | a (t:Nat) (n:Nm) (x y:An)
 | un (n:Nat) (a:An)
def An.pick:An->St->An
 | .a t n x y,st0=>match gtA st0.t t with
  | .one (.c (.pl p))=>match decide (p.root=n) with
   | true=>x
   | false=>y
  | _=>y
 | an,_=>an
structure Kt where
 n:St->Prop
 x:Nat->St->Prop
 r:St->Prop
def yj (body:(St->Prop)->St->Prop):Nat->St->Prop
 | 0,_=>False
 | n+1,s=>body (yj body n) s
def wpT (e:En):An->Code->St->Kt->Prop
 | _,.skip,s,K=>K.n s
 | _,.region _ ops false,s,K=>nT e ops.toList ops.toList s K.n
 | _,.region _ ops true,s,K=>ju e ops ops.size (Array.replicate ops.size false) s K.n
 | .s a b,.seq x y,s,K=>wpT e a x s ⟨fun s'=>wpT e (b.pick s') y s' K,K.x,K.r⟩
 | .j σ a b,.seq x y,s,K=>ab (fun J=>wpT e a x s ⟨jn σ s J,K.x,K.r⟩) (fun v=>wpT e b y (σ.st s v) K)
 | .c a b,.cond (.tmp t) x y,s,K=>match gtA s.t t with
  | .one (.c (.d (.bo c)))=>if c=true then wpT e a x s K else wpT e b y s K
  | _=>False
 | .b a,.block id x,s,K=>wpT e a x s ⟨K.n,fun i s'=>match Nat.beq i id with
  | true=>K.n s'
  | false=>K.x i s',K.r⟩
 | .lp σ a,.loop x,s,K=>
  let s1:=prep σ.sp s
  match σ.fit s1 s1 with
  | true=>match unS s1 σ.sp with
   | some x0=>aB (fun R v=>wpT e a x (σ.st s1 v) ⟨jn σ s1 R,K.x,K.r⟩) x0
   | none=>False
  | false=>False
 | .un n a,.loop x,s,K=>yj (fun R s'=>wpT e a x s' ⟨R,K.x,K.r⟩) n s
 | _,.exit id,s,K=>K.x id s
 | _,.ret,s,K=>K.r s
 | _,_,_,_=>False
def fh:(us:List U)->Fl us->At
 | [],_=>.tup []
 | [u],x=>CV u x
 | u::v::r,x=>.tup (resL (u::v::r) x)
where resL:(us:List U)->Fl us->List A1
 | [],_=>[]
 | u::r,x=>RR u (Fl.hd u r x)::resL r (Fl.tl u r x)
def cF:(us:List U)->List At->Option (Fl us)
 | [],[]=>some ()
 | u::r,v::vs=>match qm u v,cF r vs with
  | some x,some y=>some (Fl.cons u r x y)
  | _,_=>none
 | _,_=>none
def AJ (s:St) (n:Nm):Nat->St
 | 0=>s
 | i+1=>uz (AJ s n i) ⟨n,i,[]⟩
def F6 (s:St):ResultVar->St
 | .tmp t=>lm s (gtA s.t t)
 | .cell a _=>match gtA s.t a with
  | .one (.c (.pl p))=>match cg s.m p.root with
   | some r=>AJ s p.root r.cells.length
   | none=>s
  | _=>s
def l9:St->List ResultVar->St
 | s,[]=>s
 | s,r::rs=>l9 (F6 s r) rs
def qu (P:Program) (s:St) (k:At->Prop):ResultVar->Prop
 | .tmp t=>k (gtA s.t t)
 | .cell a t=>match gtA s.t a with
  | .one (.c (.pl p))=>match cg s.m p.root with
   | some r=>match r.hole.isNone&&r.cells.all (fun t=>!t.owned) with
    | true=>rH P s.m t (gtA s.t a) k
    | false=>False
   | none=>False
  | _=>False
def eX (P:Program) (s:St):List ResultVar->(List At->Prop)->Prop
 | [],k=>k []
 | r::rs,k=>qu P s (fun v=>eX P s rs fun vs=>k (v::vs)) r
def vU (P:Program) (rs:List ResultVar) (us:List U) (KK:Fl us->Prop) (s:St):Prop:=
 eX P (l9 s rs) rs fun vs=>match cF us vs with
  | some x=>KK x
  | none=>False
def eK (ps rs:List U) (pre:Fl ps->Prop) (f:Fl ps->Fl rs):CKt:=fun _ s ops k=>
 let s1:=cT s (ops.map (evA s))
 match cF ps (ops.map (evA s1)) with
 | some x=>pre x/\k s1 (fh rs (f x))
 | none=>False
def aP (ps rs:List U) (f:Fl ps->Fl rs):CKt:=fun _ s ops k=>
 let s1:=cT s (ops.map (evA s))
 match cF ps (ops.map (evA s1)) with
 | some x=>k s1 (fh rs (f x))
 | none=>False
def fa (r:Nm) (rf:Bool) (p:Pl):Bool:=decide (p.root=r)&&(rf||!p.path.isEmpty)
def Gp (sh:List Sh) (u:U) (ps rs:List U) (pre:El u->Fl ps->Prop) (f:El u->Fl ps->Fl rs×El u):CKt:=fun _ s ops k=>
 match ops with
 | []=>False
 | o::os=>
  let s1:=cT s (os.map (evA s))
  match evA s1 o with
  | .one (.c (.pl ⟨r,0,[]⟩))=>
   let s2:=bu s1 r (gk u) sh 0
   match evA s2 o with
   | .one (.c (.pl ⟨r',0,[]⟩))=>match decide (r'=r),r.tyd,cg s2.m r with
    | true,none,some ⟨true,cells,none⟩=>match fC sh cells with
     | some ts=>match kN u ts,cF ps (os.map (evA s2)) with
      | some x,some y=>pre x y/\k ⟨s2.nx+1,gr (fa r) s2.nx s2.t,(r,s2.nx,⟨true,aC sh (flat u (f x y).2),none⟩)::bO (bR r) s2.nx (eT s2.m r)⟩ (fh rs (f x y).1)
      | _,_=>False
     | none=>False
    | _,_,_=>False
   | _=>False
  | _=>False
abbrev noP:PKt:=fun _ _=>False
def swP (w:List UInt8) (K:Nat->Prop) (df:Nat):List (List UInt8×Nat)->Prop
 | []=>K df
 | (w0,f)::r=>if decide (w=w0)=true then K f else swP w K df r
def swT (tab:List (List UInt8×Nat)) (df:Nat):CKt:=fun _ s ops k=>
 let s1:=cT s (ops.map (evA s))
 match cF [.s] (ops.map (evA s1)) with
 | some w=>swP w (fun f=>k s1 (sct (.v (.func (.func f) #[] #[])))) df tab
 | none=>False
def exP {α β:Type} (r:Except Value α×β) (K:α->β->Prop) (KP:Value->β->Prop):Prop:=match r.1 with
 | .ok a=>K a r.2
 | .error v=>KP v r.2
def exQ {α:Type} (r:Except Value α) (K:α->Prop) (KP:Value->Prop):Prop:=match r with
 | .ok a=>K a
 | .error v=>KP v
def ni (ps rs:List U) (pre:Fl ps->Prop) (f:Fl ps->Except Value (Fl rs)):CKt:=fun pk s ops k=>
 let s1:=cT s (ops.map (evA s))
 match cF ps (ops.map (evA s1)) with
 | some x=>pre x/\exQ (f x) (fun y=>k s1 (fh rs y)) (fun v=>pk v s1)
 | none=>False
def gS (sh:List Sh) (u:U) (ps rs:List U) (pre:El u->Fl ps->Prop) (f:El u->Fl ps->Except Value (Fl rs)×El u):CKt:=fun pk s ops k=>
 match ops with
 | []=>False
 | o::os=>
  let s1:=cT s (os.map (evA s))
  match evA s1 o with
  | .one (.c (.pl ⟨r,0,[]⟩))=>
   let s2:=bu s1 r (gk u) sh 0
   match evA s2 o with
   | .one (.c (.pl ⟨r',0,[]⟩))=>match decide (r'=r),r.tyd,cg s2.m r with
    | true,none,some ⟨true,cells,none⟩=>match fC sh cells with
     | some ts=>match kN u ts,cF ps (os.map (evA s2)) with
      | some x,some y=>pre x y/\exP (f x y) (fun z x'=>k ⟨s2.nx+1,gr (fa r) s2.nx s2.t,(r,s2.nx,⟨true,aC sh (flat u x'),none⟩)::bO (fa r) s2.nx (eT s2.m r)⟩ (fh rs z))
        (fun v x'=>pk v ⟨s2.nx+1,gr (fa r) s2.nx s2.t,(r,s2.nx,⟨true,aC sh (flat u x'),none⟩)::bO (fa r) s2.nx (eT s2.m r)⟩)
      | _,_=>False
     | none=>False
    | _,_,_=>False
   | _=>False
  | _=>False
def aa2 (v:Int->Value):CKt:=fun pk s ops _=>
 match cF [.i .i64] (ops.map (evA s)) with
 | some n=>pk (v n) s
 | none=>False
def shT:List (Nat×Nat×At)->List (Nat×Nat×At)
 | []=>[]
 | (k,j,v)::r=>(k+100000,j,v)::shT r
def vP:List (Nat×Nat×At)->List (Nat×Nat×At)
 | []=>[]
 | (k,j,v)::r=>match Nat.ble 100000 k with
  | true=>(k - 100000,j,v)::vP r
  | false=>vP r
def Dd (nx:Nat):Nat->List At->List (Nat×Nat×At)
 | _,[]=>[]
 | i,v::r=>(i,nx,v)::Dd nx (i+1) r
def SQ (s:St):List ResultVar->Option (List A1)
 | []=>some []
 | .tmp t::r=>match gtA s.t t,SQ s r,Nat.blt t 100000 with
  | .one x,some xs,true=>some (x::xs)
  | _,_,_=>none
 | _=>none
def acW:List A1->At
 | [x]=>.one x
 | xs=>.tup xs
def yI (res:List ResultVar) (k:St->At->Prop) (s:St):Prop:=
 match SQ s res with
 | some xs=>k ⟨s.nx,vP s.t,s.m⟩ (acW xs)
 | none=>False
def bd (e:En) (fn:Func) (an:An):CKt:=fun pk s ops k=>
 match Nat.ble ops.length fn.ntmps with
 | true=>wpT ⟨e.P,e.E,e.cs,e.sh,fun v s=>pk v ⟨s.nx,vP s.t,s.m⟩⟩ an (fn.body.getD .skip) ⟨s.nx+1,Dd s.nx 0 (ops.map (evA s))++shT s.t,s.m⟩ ⟨yI fn.results.toList k,fun _ _=>False,yI fn.results.toList k⟩
 | false=>False
def XP (t:Nat) (C D:CKt):CKt:=fun pk s ops k=>match ops with
 | .tmp i::_=>match Nat.beq i t with
  | true=>C pk s ops k
  | false=>D pk s ops k
 | _=>D pk s ops k
def vK (s:St) (k:Nat) (sh:List Sh) (u:U):St:=
 match gtA s.t k with
 | .one (.c .nil)=>DJ s k sh u
 | _=>s
def Xh (u:U) (ps:List U) (pre:List (El u)->Fl ps->Prop) (f:List (El u)->Fl ps->List (El u)):CKt:=fun _ s ops k=>
 match ops with
 | .tmp t::os=>
  let s0:=vK s t (List.replicate (nc u) .fr) u
  let s1:=cT s0 (os.map (evA s0))
  match evA s1 (.tmp t) with
  | .one (.c (.rf ⟨r,0,[]⟩))=>match cg s1.m r with
   | some ⟨false,[.ow sh u' l],none⟩=>match pE sh (List.replicate (nc u) .fr),ym u' u l,cF ps (os.map (evA s1)) with
    | true,some l',some x=>pre l' x/\k ⟨s1.nx+1,gr (bR r) s1.nx s1.t,(r,s1.nx,⟨false,[.ow sh u (f l' x)],none⟩)::bO (bR r) s1.nx (eT s1.m r)⟩ (.one (.c (.rf ⟨r,0,[]⟩)))
    | _,_,_=>False
   | _=>False
  | _=>False
 | _=>False
def Dm:Nat->(us:List U)->Fl us->List (Nat×Nat×At)
 | _,[],_=>[]
 | i,u::r,x=>(i,0,CV u (Fl.hd u r x))::Dm (i+1) r (Fl.tl u r x)
def FP (us:List U) (x:Fl us):St:=⟨1,Dm 0 us x,[]⟩
def bf (e:En) (fn:Func) (an:An) (ps rs:List U) (x:Fl ps) (KK:Fl rs->Prop):Prop:=
 wpT ⟨e.P,e.E,e.cs,e.sh,fun _ _=>False⟩ an (fn.body.getD .skip) (FP ps x) ⟨vU e.P fn.results.toList rs KK,fun _ _=>False,vU e.P fn.results.toList rs KK⟩
def tc (e:En) (fn:Func) (an:An) (ps rs:List U) (x:Fl ps) (KK:Fl rs->Prop) (KP:Value->Prop):Prop:=
 wpT ⟨e.P,e.E,e.cs,e.sh,fun v _=>KP v⟩ an (fn.body.getD .skip) (FP ps x) ⟨vU e.P fn.results.toList rs KK,fun _ _=>False,vU e.P fn.results.toList rs KK⟩
def rR (P:Program) (res:List ResultVar) (sh:List Sh) (u:U) (rs:List U) (KK:Fl rs×El u->Prop) (s:St):Prop:=
 let s1:=bu (l9 s res) (.out 0) (gk u) sh 0
 eX P s1 res fun vs=>match cF rs vs,cg s1.m (.out 0) with
  | some x,some ⟨true,cells,none⟩=>match fC sh cells with
   | some ts=>match kN u ts with
    | some y=>KK (x,y)
    | none=>False
   | none=>False
  | _,_=>False
def sR (e:En) (fn:Func) (an:An) (sh:List Sh) (u:U) (ps rs:List U) (x:El u) (y:Fl ps) (KK:Fl rs×El u->Prop):Prop:=
 wpT ⟨e.P,e.E,e.cs,e.sh,fun _ _=>False⟩ an (fn.body.getD .skip) ⟨1,(0,0,.one (.c (.pl ⟨.out 0,0,[]⟩)))::Dm 1 ps y,[(.out 0,0,⟨true,aC sh (flat u x),none⟩)]⟩ ⟨rR e.P fn.results.toList sh u rs KK,fun _ _=>False,rR e.P fn.results.toList sh u rs KK⟩
def Ue (sh:List Sh) (u:U) (KP:Value->El u->Prop) (v:Value) (s:St):Prop:=
 let s1:=bu s (.out 0) (gk u) sh 0
 match cg s1.m (.out 0) with
 | some ⟨true,cells,none⟩=>match fC sh cells with
  | some ts=>match kN u ts with
   | some y=>KP v y
   | none=>False
  | none=>False
 | _=>False
def dH (e:En) (fn:Func) (an:An) (sh:List Sh) (u:U) (ps rs:List U) (x:El u) (y:Fl ps) (KK:Fl rs×El u->Prop) (KP:Value->El u->Prop):Prop:=
 wpT ⟨e.P,e.E,e.cs,e.sh,Ue sh u KP⟩ an (fn.body.getD .skip) ⟨1,(0,0,.one (.c (.pl ⟨.out 0,0,[]⟩)))::Dm 1 ps y,[(.out 0,0,⟨true,aC sh (flat u x),none⟩)]⟩ ⟨rR e.P fn.results.toList sh u rs KK,fun _ _=>False,rR e.P fn.results.toList sh u rs KK⟩
def Qt (res:List ResultVar) (u:U) (KK:List (El u)->Prop) (s:St):Prop:=
 match res with
 | [.tmp t]=>match gtA s.t t with
  | .one (.c (.rf ⟨n,0,[]⟩))=>match cg s.m n with
   | some ⟨false,[.ow sh u' l],none⟩=>match pE sh (List.replicate (nc u) .fr),ym u' u l with
    | true,some l'=>KK l'
    | _,_=>False
   | _=>False
  | _=>False
 | _=>False
def T0 (e:En) (fn:Func) (an:An) (u:U) (ps:List U) (x:List (El u)) (y:Fl ps) (KK:List (El u)->Prop):Prop:=
 wpT ⟨e.P,e.E,e.cs,e.sh,fun _ _=>False⟩ an (fn.body.getD .skip) ⟨1,(0,0,.one (.c (.rf ⟨.out 0,0,[]⟩)))::Dm 1 ps y,[(.out 0,0,⟨false,[.ow (List.replicate (nc u) .fr) u x],none⟩)]⟩ ⟨Qt fn.results.toList u KK,fun _ _=>False,Qt fn.results.toList u KK⟩
end Go.Am
end

section
namespace Go.Am
open Go
def LEN:Nat:=4611686018427387904
theorem ob {i n:Nat} (h:i<n):(0:Int)<=(i:Int)/\(i:Int).toNat<n:=by
 rw [Int.toNat_natCast]; exact ⟨adC i,h⟩
theorem cX {i n:Nat} (h:i<n):decide ((i:Int) < (n:Int))=true:=by simpa using h
theorem dz {n:Nat}:decide ((n:Int) < (n:Int))=false:=by simp
section
variable {α:Type}
theorem al (x:α) (B:α->Prop):ab (fun J=>J x) B=B x:=
 propext ⟨fun h=>h B (fun _ h=>h),fun h J hJ=>hJ x h⟩
theorem bL (c:Prop) [Decidable c] (A A':(α->Prop)->Prop) (B:α->Prop):ab (fun J=>if c then A J else A' J) B=if c then ab A B else ab A' B:=by
 unfold ab;by_cases hc:c <;> simp only [hc,if_true,if_false]
theorem au (P:Prop) (A:(α->Prop)->Prop) (B:α->Prop):ab (fun J=>P/\A J) B=(P/\ab A B):=
 propext ⟨fun h=>⟨(h (fun _=>True) (fun _ _=>trivial)).1,fun J hJ=>(h J hJ).2⟩,fun h J hJ=>⟨h.1,h.2 J hJ⟩⟩
theorem aA (P:Prop) (A:(α->Prop)->Prop) (B:α->Prop):ab (fun J=>P->A J) B=(P->ab A B):=
 propext ⟨fun h hp J hJ=>h J hJ hp,fun h J hJ hp=>h hp J hJ⟩
theorem aQ (P:Prop) (B:α->Prop):ab (fun _=>P) B=P:=
 propext ⟨fun h=>h (fun _=>True) (fun _ _=>trivial),fun h _ _=>h⟩
theorem jval (c:Prop) [Decidable c] (x y:α) (J:α->Prop):(if c then J x else J y)=J (if c then x else y):=by split <;> rfl
theorem bor (b c:Bool):(if b=true then true else c)=(b||c):=by cases b <;> rfl
theorem band (b c:Bool):(if b=true then c else false)=(b&&c):=by cases b <;> rfl
theorem bnand (b c:Bool):(if b=true then false else c)=(!b&&c):=by cases b <;> rfl
theorem bimp (b c:Bool):(if b=true then c else true)=(!b||c):=by cases b <;> rfl
theorem ac6 (c:Prop) [Decidable c] (P A B:Prop):(if c then (P/\A) else B)=((c->P)/\if c then A else B):=by
 by_cases hc:c <;> simp [hc]
theorem ac4 (c:Prop) [Decidable c] (P A B:Prop):(if c then A else (P/\B))=((¬ c->P)/\if c then A else B):=by
 by_cases hc:c <;> simp [hc]
theorem abZ (c:Prop) [Decidable c] (P A B:Prop):(if c then (P/\A) else (P/\B))=(P/\if c then A else B):=by
 by_cases hc:c <;> simp [hc]
end
theorem eV {α:Type} (body:(α->Prop)->α->Prop) (m:Nat) (P:Nat->α->Prop)
  (hs:∀ R i x,i<m->P i x->(∀ y,P (i+1) y->R y)->body R x) (he:∀ R x,P m x->body R x) (x:α) (h:P 0 x):aB body x:=by
 have key:∀ k i x,i+k=m->P i x->oZ body (k+1) x:=by
  intro k;induction k with
  | zero=>
   intro i x hi h;have e:i=m:=by omega
   subst e;exact he _ x h
  | succ k ih=>
   intro i x hi h;exact hs _ i x (by omega) h (fun y hy=>ih (i+1) y (by omega) hy)
 exact ⟨m+1,key m 0 x (by omega) h⟩
theorem nS {α β ρ σ:Type} [Inhabited α] (l:List α) (hl:l.length<=LEN) (st:β->Int->σ) (go:List α->β->ρ) (KK:ρ->Prop) (body:(σ->Prop)->σ->Prop)
  (hs:∀ R b i,i<l.length->(∀ b',KK (go (l.drop (i+1)) b')->R (st b' (IntKind.i64.wrap ((i:Int)+1))))->KK (go (l.getD i default::l.drop (i+1)) b)->body R (st b i))
  (he:∀ R b,KK (go [] b)->body R (st b l.length)) (b:β) (h:KK (go l b)):aB body (st b 0):=by
 have key:∀ k i b,i+k=l.length->KK (go (l.drop i) b)->oZ body (k+1) (st b (i:Int)):=by
  intro k;induction k with
  | zero=>
   intro i b hi h;have e:i=l.length:=by omega
   subst e;rw [afW] at h;exact he _ b h
  | succ k ih=>
   intro i b hi h;have hlt:i<l.length:=by omega
   rw [aeB hlt] at h;have e:l.getD i default=l[i]:=by rw [List.getD,adA hlt]; rfl
   rw [<- e] at h;refine hs _ b i hlt (fun b' h'=>?_) h;rw [b9 (by unfold LEN at hl; omega)];exact ih (i+1) b' (by omega) h'
 exact ⟨l.length+1,key l.length 0 b (by omega) h⟩
theorem SJ {α β ρ:Type} [Inhabited α] (l:List α) (hl:l.length<=LEN) (go:List α->β->ρ) (KK:ρ->Prop) (body:(β×Int->Prop)->β×Int->Prop)
  (hs:∀ R b i,i<l.length->(∀ b',KK (go (l.drop (i+1)) b')->R (b',(IntKind.i64.wrap ((i:Int)+1))))->KK (go (l.getD i default::l.drop (i+1)) b)->body R (b,(i:Int)))
  (he:∀ R b,KK (go [] b)->body R (b,(l.length:Int))) (b:β) (h:KK (go l b)):aB body (b,0):=
 nS l hl (fun b i=>(b,i)) go KK body hs he b h
theorem dT {α:Type} [Inhabited α] (l:List α) (hl:l.length<=LEN) (p:α->Bool) (rest:Bool) (KK:Bool->Prop) (body:(Int->Prop)->Int->Prop)
  (hs:∀ R i,i<l.length->(p (l.getD i default)=true->R (IntKind.i64.wrap ((i:Int)+1)))->(p (l.getD i default)=false->KK false)->body R (i:Int))
  (he:∀ R,KK rest->body R (l.length:Int)) (h:KK (l.all p&&rest)):aB body 0:=by
 refine nS l hl (fun (_:Unit) i=>i) (fun t _=>t.all p&&rest) KK body (fun R _ i hi ih h=>?_) (fun R _ h=>he R (by simpa using h)) () h;refine hs R i hi (fun hp=>ih () ?_) (fun hp=>?_)
 ·simp only [adQ,hp,aeE] at h; exact h
 ·simp only [adQ,hp,afB] at h; exact h
theorem BJ {β:Type} (N:Nat) (hN:N<=LEN) (g:Nat->β) (body:(β×Int->Prop)->β×Int->Prop)
  (hs:∀ R i,i<N->R (g (i+1),IntKind.i64.wrap ((i:Int)+1))->body R (g i,(i:Int)))
  (he:∀ R,body R (g N,(N:Int))) {b:β} (hb:g 0=b):aB body (b,0):=by
 subst hb;refine eV body N (fun i x=>x=(g i,(i:Int))) (fun R i x hi hx ih=>?_) (fun R x hx=>?_) _ rfl
 ·subst hx;refine hs R i hi (ih _ ?_);rw [b9 (by unfold LEN at hN; omega)]
 ·subst hx; exact he R
theorem fT {β:Type} (N:Nat) (hN:N<=LEN) (g:Nat->β) (body:(Int×β->Prop)->Int×β->Prop)
  (hs:∀ R i,i<N->R (IntKind.i64.wrap ((i:Int)+1),g (i+1))->body R ((i:Int),g i))
  (he:∀ R,body R ((N:Int),g N)) {b:β} (hb:g 0=b):aB body (0,b):=by
 subst hb;refine eV body N (fun i x=>x=((i:Int),g i)) (fun R i x hi hx ih=>?_) (fun R x hx=>?_) _ rfl
 ·subst hx;refine hs R i hi (ih _ ?_);rw [b9 (by unfold LEN at hN; omega)]
 ·subst hx; exact he R
theorem fP {α:Type} [Inhabited α] (l:List α) {i:Nat} (h:i<l.length):l.take (i+1)=l.take i++[l.getD i default]:=by
 rw [List.take_add_one,List.getD,adA h]; rfl
theorem eM {α:Type} [Inhabited α] (l:List α) {i:Nat} (h:i<l.length):l.getD i default∈l:=by
 rw [List.getD,adA h]; exact aeZ h
end Go.Am
end

section
namespace Lt
open Go
def PE (n:Int):Int:=IntKind.i64.wrap n
def DE (n:Int) (c:UInt8):Int:=IntKind.u64.wrap ((IntKind.u64.wrap ((IntKind.u64.wrap (n*10))+(IntKind.u64.wrap ((c.toNat:Nat):Int)))) - 48)
def UQ (s:List UInt8):Int:=if s.getD 0 0=45 then ((s.take 30).drop 1).foldl DE 0 else (s.take 30).foldl DE 0
def Qh (s:List UInt8):Int:=PE (if s.getD 0 0=45 then IntKind.u64.wrap (0-UQ s) else UQ s)
def aY (s:List UInt8):Int×Bool:=if yw (Qh s)=s then (Qh s,true) else (0,false)
def Ki (u:Int) (c:UInt8):Int:=
 IntKind.u64.wrap ((IntKind.u64.wrap (u*16))+(Int.tmod (if 97<=(IntKind.u64.wrap ((c.toNat:Nat):Int)) then IntKind.u64.wrap ((IntKind.u64.wrap ((c.toNat:Nat):Int)) - 87) else IntKind.u64.wrap ((IntKind.u64.wrap ((c.toNat:Nat):Int)) - 48)) 16))
def JO (s:List UInt8):Int:=IntKind.i64.wrap (((s.drop 2).take 16).foldl Ki 0)
def iw (s:List UInt8):Int×Bool:=if s.length=18/\om (JO s)=s then (JO s,true) else (0,false)
def lR (s:List UInt8) (a:Arg):Bool:=Il a&&decide (fX a=s)
def cm (s:List UInt8):Arg×Bool:=
 if lR s ⟨1,s,0⟩ then (⟨1,s,0⟩,true)
 else if lR s ⟨2,[],(aY s).1⟩ then (⟨2,[],(aY s).1⟩,true)
 else if lR s ⟨3,[],(iw s).1⟩ then (⟨3,[],(iw s).1⟩,true)
 else if lR s ⟨4,[],0⟩ then (⟨4,[],0⟩,true)
 else if lR s ⟨5,[],(aY (s.drop 1)).1⟩ then (⟨5,[],(aY (s.drop 1)).1⟩,true)
 else (⟨0,[],0⟩,false)
def pg (w:List UInt8):Bool:=decide (w=[105,110,116])||(decide (w=[102,108,111,97,116])||bV w)
def fv (l:List (List UInt8)):Bool:=decide (l.length=3)&&(bV (l.getD 1 [])&&pg (l.getD 2 []))
def OB (w:List UInt8):List (List UInt8)->Int->Int×Bool
 | [],_=>(0,false)
 | x::r,n=>if x=w then (n,true) else OB w r (n+1)
def sOp (w:List UInt8):Int×Bool:=OB w (Go.Am.gw.drop 1) 1
def dC (objs:Bool) (w:List UInt8):Bool:=(cm w).2&&!(decide ((cm w).1.Kind=5)&&!objs)
def dg (l:List (List UInt8)) (objs:Bool):List Arg×Bool:=if l.all (dC objs) then (l.map fun w=>(cm w).1,true) else ([],false)
def bw (objs:Bool):List (List UInt8)->Option (List Bind)
 | []=>some []
 | [_]=>none
 | a::b::r=>if bV a&&dC objs b then (bw objs r).map (⟨a,(cm b).1⟩::·) else none
def aH (l:List (List UInt8)) (from_:Int) (objs:Bool):List Bind×Bool:=
 if (l.length:Int)<from_ then ([],false) else match bw objs (l.drop from_.toNat) with
 | some x=>(x,true)
 | none=>([],false)
abbrev Read.out (r:Read):Bool:=decide (r.Where<=2)||decide (r.Where=9)
abbrev Read.ins (r:Read):Bool:=decide (5<=r.Where)&&decide (r.Where<=8)
def last {α:Type} [Inhabited α] (l:List α) (f:α->α):List α:=l.set (l.length - 1) (f (l.getD (l.length - 1) default))
def Read.func (r:Read) (f:Func->Func):Read:={ r with P:={ r.P with Funcs:=last r.P.Funcs f } }
def Read.block (r:Read) (f:Block->Block):Read:=r.func fun g=>{ g with Blocks:=last g.Blocks f }
def Read.instr (r:Read) (f:Instr->Instr):Read:=r.block fun b=>{ b with Code:=last b.Code f }
def Read.curF (r:Read):Func:=r.P.Funcs.getD (r.P.Funcs.length - 1) default
def Read.curB (r:Read):Block:=r.curF.Blocks.getD (r.curF.Blocks.length - 1) default
def Read.curI (r:Read):Instr:=r.curB.Code.getD (r.curB.Code.length - 1) default
def pd (f:Func) (w n:Int):Prop:=
 (Name f.Name=true/\kind f.Result=true/\typed f.Params 6=true/\typed f.Vars 1024=true)/\(f.Blocks.length<=256/\0<=n/\n<=1024) /\
 (w<=4->f.Blocks=[]/\n=0) /\
 (5<=w->∃ bs b,f.Blocks=bs++[b]/\bs.all block=true/\n=((f.Blocks.map fun b=>b.Phis.length+b.Code.length).sum:Nat) /\
  (Name b.Name=true/\b.Phis.all phi=true/\b.Code.all instr=true)/\(w=9->cr b.End=true) /\
  (6<=w->w<=8->∃ cs c,b.Code=cs++[c]/\(7<=w->c.Op=31\/c.Op=34)))
def Inv (r:Read):Prop:=
 (0<=r.Where/\r.Where<=9)/\(r.P.Classes.length<=8/\r.P.Externs.length<=8/\r.P.Funcs.length<=8) /\
 (typed r.P.Globals 8=true/\r.P.Classes.all bD=true/\r.P.Externs.all bT=true) /\
 (r.Where=1->r.P.Classes≠[])/\(r.Where<=2->r.P.Funcs.all ax=true) /\
 (3<=r.Where->∃ fs f,r.P.Funcs=fs++[f]/\fs.all ax=true/\pd f r.Where r.Long)
def iZ (l:List (List UInt8)) (_:Bool):Prop:=l.length<=room
abbrev w0 (l:List (List UInt8)):List UInt8:=l.getD 0 default
abbrev w1 (l:List (List UInt8)):List UInt8:=l.getD 1 default
abbrev w2 (l:List (List UInt8)):List UInt8:=l.getD 2 default
abbrev w3 (l:List (List UInt8)):List UInt8:=l.getD 3 default
def dk (r:Read) (l:List (List UInt8)):Int×Read:=
 if (r.out&&decide (l.length=2)&&bV (w1 l))=false then (3,r)
 else if 8<=r.P.Classes.length then (2,r) else (0,{ r with P:={ r.P with Classes:=r.P.Classes++[⟨w1 l,[]⟩] },Where:=1 })
def eE (r:Read) (l:List (List UInt8)):Int×Read:=
 if (decide (r.Where=1)&&fv l)=false then (3,r)
 else if 8<=(r.P.Classes.getD (r.P.Classes.length - 1) default).Fields.length then (2,r) else (0,{ r with P:={ r.P with Classes:=last r.P.Classes fun c=>{ c with Fields:=c.Fields++[⟨w1 l,w2 l⟩] } } })
def da (r:Read) (l:List (List UInt8)):Int×Read:=
 if (r.out&&fv l)=false then (3,r)
 else (if 8<=r.P.Globals.length then 2 else 0,{ r with P:={ r.P with Globals:=r.P.Globals++[⟨w1 l,w2 l⟩] },Where:=2 })
def cY (r:Read) (l:List (List UInt8)):Int×Read:=
 if (r.out&&decide (l.length=3)&&bV (w1 l)&&((aY (w2 l)).2&&decide (0<=(aY (w2 l)).1)&&decide ((aY (w2 l)).1<=8)))=false then (3,r)
 else (if 8<=r.P.Externs.length then 2 else 0,{ r with P:={ r.P with Externs:=r.P.Externs++[⟨w1 l,(aY (w2 l)).1⟩] },Where:=2 })
def fp (r:Read) (l:List (List UInt8)):Int×Read:=
 if (r.out&&fv l)=false then (3,r)
 else (if 8<=r.P.Funcs.length then 2 else 0,{ r with P:={ r.P with Funcs:=r.P.Funcs++[⟨w1 l,w2 l,[],[],[]⟩] },Where:=3,Long:=0 })
abbrev fw:List UInt8:=[99,108,97,115,115]
abbrev gR:List UInt8:=[102,105,101,108,100]
abbrev fj:List UInt8:=[103,108,111,98,97,108]
abbrev eu:List UInt8:=[101,120,116,101,114,110]
abbrev pi:List UInt8:=[102,117,110,99]
abbrev eh:List UInt8:=[112,97,114,97,109]
abbrev oF:List UInt8:=[118,97,114]
abbrev eI:List UInt8:=[98,108,111,99,107]
abbrev t8:List UInt8:=[112,104,105]
abbrev kAt:List UInt8:=[97,116]
abbrev l6:List UInt8:=[111,98,106]
abbrev ig:List UInt8:=[106,117,109,112]
abbrev cu:List UInt8:=[98,114,97,110,99,104]
abbrev nY:List UInt8:=[114,101,116]
abbrev jg:List UInt8:=[116,114,97,112]
abbrev kB:List UInt8:=[115,115,97]
def bA (r:Read) (l:List (List UInt8)):(Bool×Int)×Read:=
 if w0 l=fw then ((true,(dk r l).1),(dk r l).2)
 else if w0 l=gR then ((true,(eE r l).1),(eE r l).2)
 else if w0 l=fj then ((true,(da r l).1),(da r l).2)
 else if w0 l=eu then ((true,(cY r l).1),(cY r l).2)
 else if w0 l=pi then ((true,(fp r l).1),(fp r l).2)
 else ((false,0),r)
def eJ (r:Read) (l:List (List UInt8)):Int×Read:=
 if (decide (r.Where=3)&&fv l)=false then (3,r)
 else (if 6<=r.curF.Params.length then 2 else 0,r.func fun f=>{ f with Params:=f.Params++[⟨w1 l,w2 l⟩] })
def ic (r:Read) (l:List (List UInt8)):Int×Read:=
 if ((decide (r.Where=3)||decide (r.Where=4))&&fv l)=false then (3,r)
 else (if 1024<=r.curF.Vars.length then 2 else 0,{ r.func (fun f=>{ f with Vars:=f.Vars++[⟨w1 l,w2 l⟩] }) with Where:=4 })
def cR (r:Read) (l:List (List UInt8)):Int×Read:=
 if ((decide (r.Where=3)||decide (r.Where=4)||decide (r.Where=9))&&decide (l.length=2)&&bV (w1 l))=false then (3,r)
 else (if 256<=r.curF.Blocks.length then 2 else 0,{ r.func (fun f=>{ f with Blocks:=f.Blocks++[⟨w1 l,[],[],⟨0,⟨0,[],0⟩,[],0⟩⟩] }) with Where:=5 })
def jD (r:Read) (l:List (List UInt8)):Int×Read:=
 if (decide (r.Where=5)&&(aH l 2 false).2&&!decide ((aH l 2 false).1.length=0)&&bV (w1 l))=false then (3,r)
 else if 256 < (aH l 2 false).1.length\/1024<=r.Long then (2,r)
 else (0,{ r.block (fun b=>{ b with Phis:=b.Phis++[⟨w1 l,(aH l 2 false).1.map fun x=>⟨x.Name,x.A⟩⟩] }) with Long:=r.Long+1 })
def bN (r:Read) (l:List (List UInt8)):(Bool×Int)×Read:=
 if w0 l=eh then ((true,(eJ r l).1),(eJ r l).2)
 else if w0 l=oF then ((true,(ic r l).1),(ic r l).2)
 else if w0 l=eI then ((true,(cR r l).1),(cR r l).2)
 else if w0 l=t8 then ((true,(jD r l).1),(jD r l).2)
 else ((false,0),r)
def sAt (r:Read) (l:List (List UInt8)):Int×Read:=
 if (decide (r.Where=7)&&(aH l 4 true).2&&bV (w1 l)&&bV (w2 l)&&((aY (w3 l)).2&&decide (0<=(aY (w3 l)).1)&&decide ((aY (w3 l)).1<=1024)))=false then (3,r)
 else if 16 < (aH l 4 true).1.length\/16<=r.curI.Frames.length then (2,r)
 else (0,r.instr fun x=>{ x with Frames:=x.Frames++[⟨w1 l,w2 l,(aY (w3 l)).1,(aH l 4 true).1⟩] })
def jB (r:Read) (l:List (List UInt8)):Int×Read:=
 if (decide (7<=r.Where)&&decide (2<=l.length)&&decide (l.length<=10)&&bV (w1 l)&&(dg (l.drop 2) true).2)=false then (3,r)
 else (if 99<=r.curI.Objs.length then 2 else 0,{ r.instr (fun x=>{ x with Objs:=x.Objs++[⟨w1 l,(dg (l.drop 2) true).1⟩] }) with Where:=8 })
def gJ (l:List (List UInt8)):Option Term:=
 if w0 l=ig then (if (decide (l.length=2)&&bV (w1 l))=true then some ⟨1,⟨0,[],0⟩,[w1 l],0⟩ else none)
 else if w0 l=cu then (if (decide (l.length=4)&&(bV (w2 l)&&bV (w3 l))&&dC false (w1 l))=true then some ⟨2,(cm (w1 l)).1,[w2 l,w3 l],0⟩ else none)
 else if w0 l=nY then (if (decide (l.length=2)&&dC false (w1 l))=true then some ⟨3,(cm (w1 l)).1,[],0⟩ else none)
 else if w0 l=jg then (if (decide (l.length=2)&&(aY (w1 l)).2)=true then some ⟨4,⟨0,[],0⟩,[],(aY (w1 l)).1⟩ else none)
 else none
def oE (r:Read) (l:List (List UInt8)):Int×Read:=match gJ l with
 | some t=>(0,{ r.block (fun b=>{ b with End:=t }) with Where:=9 })
 | none=>(3,{ r with Where:=9 })
def bg (r:Read) (l:List (List UInt8)):(Bool×Int)×Read:=
 if w0 l=kAt\/w0 l=l6\/w0 l=ig\/w0 l=cu\/w0 l=nY\/w0 l=jg then
  if r.ins=false then ((true,3),r)
  else if w0 l=kAt then ((true,(sAt r l).1),(sAt r l).2)
  else if w0 l=l6 then ((true,(jB r l).1),(jB r l).2)
  else ((true,(oE r l).1),(oE r l).2)
 else ((false,0),r)
def Fe (op:Int) (l:List (List UInt8)):Option (List UInt8×List (List UInt8)):=
 if op=26\/op=27 then (if l.length < 3 then none else some (w2 l,w1 l::l.drop 3))
 else if (rOf op).1.Named then (if l.length < 2 then none else some (w1 l,l.drop 2))
 else some ([],l.drop 1)
def ej (dst:List UInt8) (l:List (List UInt8)):Option Instr:=
 if ((sOp (w0 l)).2&&((rOf (sOp (w0 l)).1).1.Dst==!decide (dst=[])))=false then none
 else match Fe (sOp (w0 l)).1 l with
 | none=>none
 | some (nm,rest)=>
  if ((dg rest false).2&&!((rOf (sOp (w0 l)).1).1.Named&&!bV nm)&&decide ((rOf (sOp (w0 l)).1).1.Least<=((dg rest false).1.length:Int))&&decide (((dg rest false).1.length:Int)<=(rOf (sOp (w0 l)).1).1.Most))=true
  then some ⟨(sOp (w0 l)).1,dst,nm,(dg rest false).1,[],[]⟩ else none
def sEq (l:List (List UInt8)):Bool:=decide (2<l.length)&&decide (w1 l=[61])
def cz (r:Read) (l:List (List UInt8)):Int×Read:=
 if (sEq l&&!bV (w0 l))=true then (3,r)
 else if r.ins=false then (3,r)
 else match ej (if sEq l then w0 l else []) (if sEq l then l.drop 2 else l) with
 | none=>(3,r)
 | some x=>if 1024<=r.Long then (2,r) else (0,{ r.block (fun b=>{ b with Code:=b.Code++[x] }) with Where:=if x.Op=31\/x.Op=34 then 7 else 6,Long:=r.Long+1 })
def aI (r:Read) (l:List (List UInt8)) (first:Bool):Int×Read:=
 if sEq l then cz r l
 else if w0 l=kB then (if (first&&decide (l.length=1))=false then (3,r) else (0,{ r with P:={ r.P with SSA:=true } }))
 else if (bA r l).1.1 then ((bA r l).1.2,(bA r l).2)
 else if (bN r l).1.1 then ((bN r l).1.2,(bN r l).2)
 else if (bg r l).1.1 then ((bg r l).1.2,(bg r l).2)
 else cz r l
structure Cut where
 out:List RLine
 l:List (List UInt8)
 w:List UInt8
 n:Int
 remark:Bool
 bad:Bool
def Cut.word (k:Cut):Cut:={ k with l:=if k.w=[] then k.l else k.l++[k.w],w:=[] }
def Cut.byte (k:Cut) (c:UInt8):Cut:=
 if c=59 then { k.word with remark:=true }
 else if (k.remark||c=32||c=9)=true then k.word
 else { k with bad:=k.bad||(decide (c.toNat < 33)||decide (126<c.toNat)),w:=k.w++[c] }
def Cut.line (k:Cut):Cut:={ out:=if k.word.l=[] then k.out else k.out++[⟨k.n,k.word.l⟩],l:=[],w:=[],n:=k.n+1,remark:=false,bad:=k.bad }
def cq:List UInt8->Cut->List RLine×Int×Int
 | [],k=>if k.bad then ([],k.n,3) else (k.line.out,0,0)
 | c::r,k=>if c=10 then (if k.bad then ([],k.n,3) else cq r k.line) else cq r (k.byte c)
def cZ (s:List UInt8):List RLine×Int×Int:=if 4194304<s.length then ([],0,2) else cq s ⟨[],[],[],1,false,false⟩
def dx:List RLine->Bool->Read->Program×Int×Int
 | [],_,r=>if r.out then (r.P,0,0) else (⟨false,[],[],[],[]⟩,0,3)
 | x::t,first,r=>if (aI r x.Words first).1=0 then dx t false (aI r x.Words first).2 else (⟨false,[],[],[],[]⟩,x.N,(aI r x.Words first).1)
def bY (s:List UInt8):Program×Int×Int:=
 if (cZ s).2.2=0 then dx (cZ s).1 true ⟨⟨false,[],[],[],[]⟩,0,0⟩ else (⟨false,[],[],[],[]⟩,(cZ s).2.1,(cZ s).2.2)
def Bv (p:Program):Prop:=p.ok/\(∀ e∈p.Externs,inR e.N)/\(∀ f∈p.Funcs,∀ b∈f.Blocks,∀ i∈b.Code,∀ r∈i.Frames,inR r.At)/\(Few p 20000=true->(s8 p).length<=4194304)
end Lt
end
