/-
  Part 18: AmRead · AmCall · AmKp4 · AmKp5 · AmKp6 · AmE13.
-/
import Derived.Test.YtlikflolhhlgjaaGreatDoorKe17
import Derived.SizedLaws
set_option linter.unusedSimpArgs false
set_option linter.unusedVariables false
set_option linter.unusedSectionVars false
set_option linter.unnecessarySimpa false
section
namespace Go.Am
def snap (W:World):FH:=fun b o=>W.cell? ⟨b,o,none⟩
section
variable {P:Program} {W:World} {t:TypeId}
end
end Go.Am
end

section
namespace Go.Am
open Go.RowKit
section
variable {P:Program} {W:World} {γ:Gam}
theorem Sl {w:World} {H:FH} {m:Mm} {v:Value} (h:AR w H γ m (o1 cB true) v):v=.bool true:=by
 obtain ⟨_,h⟩:=h;exact mn h
end
end Go.Am
end

section
namespace Go.Am
open Go Go.RowKit Go.Proofs
set_option maxRecDepth 100000
section
variable {H:FH} {G:Nat->Prop}
theorem Kf {m b o j:Nat} {row:List D} {l:List UInt8} (h:lI H m row b o) (hj:row[j]? = some (.str l)):∃ l',H b (o+j)=some (.string l'):=by
 obtain ⟨y,h1,h2⟩:=h j (WV.1 hj).1;rw [show row.getD j default=.str l by rw [List.getD,hj]; rfl] at h2;have:y=.string ⟨l.toArray⟩:=by cases m <;> exact h2.1
 subst this;exact ⟨_,h1⟩
theorem AZ {m b o j:Nat} {row:List D} {L:List (List D)} (h:lI H m row b o) (hj:row[j]? = some (.li L)) :
  ∃ a c,H b (o+j)=some (.slice a L.length c)/\L.length<=BIG/\∃ m',∀ (i:Nat) x,L[i]? = some x->∃ b' o',a=some ⟨b',o',none⟩/\lI H m' x b' (o'+i*x.length):=by
 obtain ⟨y,h1,h2⟩:=h j (WV.1 hj).1;rw [show row.getD j default=.li L by rw [List.getD,hj]; rfl] at h2;cases m with
 | zero=>exact h2.elim
 | succ m=>
  obtain ⟨a,c,rfl,_,hb,h3⟩:=ma.1 h2;refine ⟨a,c,h1,hb,m,fun i x hi=>?_⟩;have hlt:=(WV.1 hi).1
  rcases h3 with rfl | ⟨b',o',e,rfl,h3⟩
  ·simp at hlt
  ·refine ⟨b',o',rfl,?_⟩;have hx:L.getD i []=x:=by rw [List.getD,hi]; rfl
   obtain ⟨h4,h5⟩:=h3 i hlt;rw [hx] at h4 h5;intro q hq;rw [h4];exact h5 q (by omega)
theorem VK (hG:∀ b o a n c,H b o=some (.slice a n c)->G b) {m b o:Nat} (x:Lt.Instr) (h:lI H m (ao (.st .Instr) x) b o):SI H G b o:=by
 obtain ⟨a,c,h1,_⟩:=AZ (j:=3) h rfl;exact ⟨hG _ _ _ _ _ h1,Kf (j:=2) h rfl⟩
theorem VO (hG:∀ b o a n c,H b o=some (.slice a n c)->G b) {m b o:Nat} (x:Lt.Block) (h:lI H m (ao (.st .Block) x) b o):SB H G b o:=by
 obtain ⟨a,c,h1,h2,m',h3⟩:=AZ (j:=2) (L:=x.Code.map (ao (.st .Instr))) h rfl;refine ⟨hG _ _ _ _ _ h1,Kf (j:=0) h rfl,a,_,c,h1,h2,fun j hj=>?_⟩;obtain ⟨b',o',e,h4⟩:=h3 j _ (V8 hj);rw [List.getElem_map] at h4;exact ⟨b',o',e,VK hG _ h4⟩
theorem VI (hG:∀ b o a n c,H b o=some (.slice a n c)->G b) {m b o:Nat} (x:Lt.Func) (h:lI H m (ao (.st .Func) x) b o):SF H G b o:=by
 obtain ⟨a,c,h1,h2,m',h3⟩:=AZ (j:=4) (L:=x.Blocks.map (ao (.st .Block))) h rfl;refine ⟨a,_,c,h1,h2,fun j hj=>?_⟩;obtain ⟨b',o',e,h4⟩:=h3 j _ (V8 hj);rw [List.getElem_map] at h4;exact ⟨b',o',e,VO hG _ h4⟩
theorem VF (hG:∀ b o a n c,H b o=some (.slice a n c)->G b) {m b o:Nat} (x:Lt.Program) (h:lI H m (ao (.st .Program) x) b o):SP H G b o:=by
 obtain ⟨a,c,h1,h2,m',h3⟩:=AZ (j:=4) (L:=x.Funcs.map (ao (.st .Func))) h rfl;refine ⟨a,_,c,h1,h2,fun j hj=>?_⟩;obtain ⟨b',o',e,h4⟩:=h3 j _ (V8 hj);rw [List.getElem_map] at h4;exact ⟨b',o',e,VI hG _ h4⟩
theorem B7 {n:Nat} {w:World} {a:Act} {s:S} (hm:s.m=[]) (hag:∀ b o y,H b o=some y->w.cell? ⟨b,o,none⟩=some y) (hgl:Globs H) (hsz:a.tmps.size=n) (hdf:a.defers=[])
  (ht:∀ x∈s.t,AR w H (fun _=>.blk 0) [] x.2 (a.tmps.getD x.1 undef)):RX ⟨n,w,H,fun _=>0,fun _=>none,none,[]⟩ s a w H (fun _=>.blk 0) (fun _ _=>0):=by
 obtain ⟨t,m⟩:=s;dsimp only at hm ht;subst hm;refine ⟨⟨hag,fun x hx=>by simp at hx,by simp,fun b=>WP _,fun b hb=>absurd rfl hb,fun b hb=>absurd rfl hb⟩,⟨Wb _,rfl,rfl,rfl,fun _ _ _=>rfl,fun _ _ _ h=>h,fun b o h2 h3=>absurd h3 h2,fun b hb=>absurd rfl hb,kZ⟩,hsz,
  ⟨hdf,fun j b e=>(by simp at e),hgl⟩,fun i=>?_⟩
 rw [G.tv_none rfl];dsimp only;clear hsz hdf hgl hag;induction t with
 | nil=>exact trivial
 | cons x t ih=>
  unfold aA;split
  ·rename_i e; rw [<- e]; exact ht x (by simp)
  ·exact ih (fun y hy=>ht y (Wr _ hy))
end
def Hg (W:World):FH:=fun b o=>if o < ((gP b).getD []).length\/(O2=some b/\o=0) then snap W b o else none
theorem SY {W:World} {b o:Nat} {y:Value} (h:Hg W b o=some y):snap W b o=some y:=by
 unfold Hg at h;split at h
 ·exact h
 ·cases h
theorem Kq {H H':FH} {m:Nat} {d:D} {y:Value} (hd:∀ l,d≠.li l) (h:FD H m d y):FD H' m d y:=by
 cases d with
 | li l=>exact absurd rfl (hd l)
 | _=>cases m <;> exact h
theorem Nn {W:World} (h:Globs (snap W)) (hf:∀ k row,gP k=some row->∀ d∈row,∃ l,d=.str l):Globs (Hg W):=by
 refine ⟨fun k row e=>?_,fun k e=>?_⟩
 ·obtain ⟨m,hm⟩:=h.1 k row e;refine ⟨m,fun j hj=>?_⟩;obtain ⟨y,h1,h2⟩:=hm j hj;refine ⟨y,?_,Kq (fun l e1=>?_) h2⟩
  ·unfold Hg;rw [if_pos (.inl (by rw [e]; simpa using hj))];exact h1
  ·obtain ⟨l',e2⟩:=hf k row e (row.getD j default) (by rw [List.getD,V8 hj]; exact WX hj);rw [e2] at e1;cases e1
 ·obtain ⟨n,m,hm⟩:=h.2 k e;refine ⟨n,m,fun j hj=>?_⟩;obtain ⟨y,h1,h2⟩:=hm j hj;have hj0:j=0:=by simpa using hj
  subst hj0;refine ⟨y,?_,Kq (fun l e1=>by cases e1) h2⟩;unfold Hg;rw [if_pos (.inr ⟨e,rfl⟩)];exact h1
theorem Qs {W:World} (h:Globs (snap W)) (hf:∀ k row,gP k=some row->∀ d∈row,∃ l,d=.str l) {b o:Nat} {a:Option Addr} {n c:Nat}:Hg W b o≠some (.slice a n c):=by
 intro e;unfold Hg at e;split at e
 ·rename_i hc;rcases hc with hc | ⟨hc,rfl⟩
  ·cases hg:gP b with
   | none=>rw [hg] at hc; simp at hc
   | some row=>
    rw [hg] at hc;have hc:o<row.length:=hc
    obtain ⟨m,hm⟩:=h.1 b row hg;obtain ⟨y,h1,h2⟩:=hm o hc;obtain ⟨l',e2⟩:=hf b row hg (row.getD o default) (by rw [List.getD,V8 hc]; exact WX hc);rw [e2] at h2;rw [Xu] at h1;rw [h1] at e;have:y=.string ⟨l'.toArray⟩:=by cases m <;> exact h2.1
    subst this;cases e
  ·obtain ⟨n',m,hm⟩:=h.2 b hc;obtain ⟨y,h1,h2⟩:=hm 0 (by simp);rw [Xu] at h1;rw [h1] at e;have:y=.int .i64 n':=by cases m <;> exact h2.1
   subst this;cases e
 ·cases e
end Go.Am
end

section
namespace Go.Am
open Go Go.RowKit Go.Proofs
set_option maxRecDepth 100000
noncomputable abbrev eKp:En:=⟨Tryz.prog,eU,[(6,wD),(7,FSx),(8,Fw),(9,OF)],[],fun _ _=>False⟩
theorem Bb:eKp.ok:=En.okc C1 (En.okc PB (En.okc PV (En.okc TN En.ok0)))
def stR (l:List (Nat×At)):St:=⟨1,l.map fun x=>(x.1,0,x.2),[]⟩
def ML (p:Lt.Program):List D:=[.bool p.SSA,.li (p.Classes.map (ao (.st .Class))),.li (p.Globals.map (ao (.st .Var))),.li (p.Externs.map (ao (.st .Extern))),.li (p.Funcs.map (ao (.st .Func)))]
def Vs (p:Lt.Program):List C:=[.bo p.SSA,.li (.st .Class) p.Classes,.li (.st .Var) p.Globals,.li (.st .Extern) p.Externs,.li (.st .Func) p.Funcs]
def K1 (s:List UInt8) (st:St):Prop:=aA (st.toS.frzB (.loc 3)).t 0=.one (.c (.d (.str s)))/\aA (st.toS.frzB (.loc 3)).t 3=.one (.c (.el (ML (Lt.cR s).1) 0))/\(st.toS.frzB (.loc 3)).m=[]
def K2 (s:List UInt8) (v:Value) (st:St):Prop:=aA (st.toS.frzB (.loc 6)).t 0=.one (.c (.d (.str s)))/\aA (st.toS.frzB (.loc 6)).t 3=.one (.c (.d (.v v))) /\
 aA (st.toS.frzB (.loc 6)).t 6=.one (.c (.el (ML (Lt.cR s).1) 0))/\(st.toS.frzB (.loc 6)).m=[]
noncomputable abbrev kR0:Code:=kpL kq0
noncomputable abbrev kR1:Code:=kpL kq1
noncomputable abbrev kR2:Code:=kpL kq2
theorem w1 (s:List UInt8):wpT eKp .l kR0 (stR [(0,sct (.s s))]) ⟨fun st=>wpT eKp .l kR1 st ⟨K1 s,fun _ _=>False,fun _=>False⟩,fun _ _=>False,fun _=>False⟩:=
 Eq.mp (by kernel_rfl:(AV.one (.c (.d (.str s)))=.one (.c (.d (.str s)))/\AV.one (.c (.el (ML (Lt.cR s).1) 0))=.one (.c (.el (ML (Lt.cR s).1) 0))/\([]:Mm)=[])=_) ⟨rfl,rfl,rfl⟩
theorem w2 (s:List UInt8) (v:Value):wpT eKp .l kR2 (stR [(0,sct (.s s)),(3,sct (.v v))]) ⟨K2 s v,fun _ _=>False,fun _=>False⟩:=
 Eq.mp (by kernel_rfl:(AV.one (.c (.d (.str s)))=.one (.c (.d (.str s)))/\AV.one (.c (.d (.v v)))=.one (.c (.d (.v v)))/\AV.one (.c (.el (ML (Lt.cR s).1) 0))=.one (.c (.el (ML (Lt.cR s).1) 0))/\([]:Mm)=[])=_) ⟨rfl,rfl,rfl,rfl⟩
theorem w3 (s:List UInt8) (p:Lt.Program) (h:Lt.Cc=true/\Lt.Same p (Lt.oA s).1=true):wpT eKp (.s .l (.s .l .l)) kqT (stR [(0,sct (.s s)),(6,.one (.c (.el (Vs p) 0)))]) ⟨fun _=>False,fun _ _=>False,qA Tryz.prog Tryz.f4.results.toList [.bo] (fun r=>r=true)⟩:=
 Eq.mp (by kernel_rfl:(if Lt.Cc=true then (Lt.Same p (Lt.oA s).1=true) else (false=true))=_) (by rw [if_pos h.1]; exact h.2)
end Go.Am
end

section
namespace Go.Am
open Go Go.RowKit Go.Proofs
set_option maxRecDepth 100000
theorem IC {P:Program} {f:Nat} {fn:Func} {c:Code} (hf:P.funcs[f]? = some fn) (hb:fn.body=some c) (args:List Value) (W:World) (Q:Value->World->Prop) (hle:args.length<=fn.ntmps)
  (h:∀ a0:Act,a0.tmps.size=fn.ntmps->a0.defers=[]->(∀ (i:Nat) v,args[i]? = some v->a0.tmps.getD i undef=v) ->
   c.wp P (fun e a' w'=>(e=.normal\/e=.ret)/\a'.defers=[]/\∃ v,(results fn a'.tmps).run P w'=.ok v w'/\Q v w') a0 W):Calls P f args.toArray W (fun e w'=>∃ v,e=.returned v/\Q v w'):=by
 refine calls_of_wp hf hb (Code.wp_mono (fun e a' w' hl=>?_) (h _ ?_ rfl ?_))
 ·obtain ⟨he,hd,v,hr,hq⟩:=hl;rcases he with rfl | rfl
  ·exact ⟨hd,v,hr,v,rfl,hq⟩
  ·exact ⟨hd,v,hr,v,rfl,hq⟩
 ·simp; omega
 ·intro i v hi;have hlt:=(WV.1 hi).1
  rw [WD,W2 (by simpa using hlt)];simp [hi]
theorem N7 {w:World} {H:FH} {γ:Gam} {m:Mm} {row:List D} {off:Nat} {y:Value} (h:AR w H γ m (.one (.c (.el row off))) y):∃ b o k,y=.pointer (some ⟨b,o+off,none⟩)/\lI H k row b o:=by
 obtain ⟨_,b,o,k,h1,h2⟩:=h;exact ⟨b,o,k,h1,h2⟩
theorem QX {w:World} {H:FH} {γ:Gam} {m:Mm} {row:List D} {off b o k:Nat} (h:lI H k row b o):AR w H γ m (.one (.c (.el row off))) (.pointer (some ⟨b,o+off,none⟩)):=⟨fun _=>rfl,b,o,k,rfl,h⟩
theorem Vb {w:World} {H:FH} {γ:Gam} {m:Mm} {v y:Value} (h:AR w H γ m (.one (.c (.d (.v v)))) y):y=v:=by
 obtain ⟨_,k,h⟩:=h;cases k <;> exact h.1
theorem Ul {w:World} {H:FH} {γ:Gam} {m:Mm} {v:Value} (h:jM v=true):AR w H γ m (.one (.c (.d (.v v)))) v:=⟨fun _=>rfl,0,rfl,h⟩
theorem PC {w:World} {H:FH} {γ:Gam} {m:Mm} {l:List UInt8} {y:Value} (h:AR w H γ m (.one (.c (.d (.str l)))) y):y=.string ⟨l.toArray⟩:=by
 obtain ⟨_,k,h⟩:=h;cases k <;> exact h.1
theorem Fb:∀ k row,gP k=some row->∀ d∈row,∃ l,d=.str l:=by
 intro k row h d hd;unfold gP at h;split at h
 ·have h:=Option.some.inj h
  subst h;obtain ⟨x,_,rfl⟩:=WW.1 hd;exact ⟨_,rfl⟩
 ·cases h
theorem Lj:∀ {l:List (Nat×Value)} {i:Nat} {v:Value},lkV l i=some v->(i,v)∈l
 | [],_,_,h=>by cases h
 | (k,x)::r,i,v,h=>by
  unfold lkV at h;cases hb:Nat.beq k i with
  | true=>
   rw [hb] at h;obtain rfl:=Wg hb;obtain rfl:=Option.some.inj h;simp
  | false=>rw [hb] at h; exact Wr _ (Lj h)
theorem VA {nt:Nat} {l:List (Nat×Value)} {a:Act} (hn:a.tmps.size=nt) (hd:a.defers=[]) (h:∀ x∈l,a.tmps.getD x.1 undef=x.2):KT nt l a:=⟨hn,hd,fun i v hi=>h (i,v) (Lj hi)⟩
theorem CA (W:World) (s:List UInt8) (hs:s.length<=BIG) (hglob:Globs (snap W)):Calls Tryz.prog 4 [.string ⟨s.toArray⟩].toArray W (fun e w'=>∃ v,e=.returned v/\v=.bool true/\Below W.heap.size W w'):=by
 refine IC (fn:=Tryz.f4) (c:=kq0) Tryz.func4 (by kernel_rfl) _ W (fun v w'=>v=.bool true/\Below W.heap.size W w') (show 1<=Tryz.f4.ntmps by decide +kernel) (fun a0 hn0 hd0 ht0=>?_);have hgl:=Nn hglob Fb
 have hgs:=fun b o a n c=>Qs (W:=W) hglob Fb (b:=b) (o:=o) (a:=a) (n:=n) (c:=c)
 have hgW:∀ b o y,Hg W b o=some y->W.cell? ⟨b,o,none⟩=some y:=fun b o y h=>SY h
 have hgb:∀ b o y,Hg W b o=some y->b<W.heap.size:=fun b o y h=>World.block_lt_of_cell? _ _ (hgW b o y h)
 have hX0:=B7 (n:=Tryz.f4.ntmps) (s:=(stR [(0,sct (.s s))]).toS) rfl hgW hgl hn0 hd0 (fun x hx=>by
  simp only [stR,St.toS,List.map_cons,List.map_nil,WJ] at hx;subst hx;rw [show a0.tmps.getD 0 undef=.string ⟨s.toArray⟩ from ht0 0 _ rfl];exact vi hs)
 refine gG (x:=kR0) (y:=kq1) (by kernel_rfl) ?_;refine Code.wp_mono (fun e a w hl=>?_) (fS Bb mixed kR0 .l _ _ (by kernel_rfl) (w1 s) a0 W ⟨_,_,_,hX0⟩);obtain ⟨s',hq,hR⟩:=hl;cases e with
 | normal=>?_
 | exit i=>exact hq.elim (fun t ht=>ht.2.elim)
 | ret=>exact hq.elim (fun t ht=>ht.2.elim)
 | panic c=>obtain ⟨_,_,_,_,hf⟩:=hq; exact hf.elim
 | _=>exact hq.elim
 obtain ⟨st,rfl,hst⟩:=hq;refine gG (x:=kR1) (y:=kq2) (by kernel_rfl) ?_;refine Code.wp_mono (fun e a w hl=>?_) (fS Bb mixed kR1 .l st _ (by kernel_rfl) hst a w hR);clear hR hst st hX0;obtain ⟨s',hq,hR⟩:=hl;cases e with
 | normal=>?_
 | exit i=>exact hq.elim (fun t ht=>ht.2.elim)
 | ret=>exact hq.elim (fun t ht=>ht.2.elim)
 | panic c=>obtain ⟨_,_,_,_,hf⟩:=hq; exact hf.elim
 | _=>exact hq.elim
 obtain ⟨st,rfl,h0,h3,hm⟩:=hq;obtain ⟨H1,γ1,F1,hX1⟩:=If hR (.loc 3);have hfr1:=hX1.fr
 dsimp only at hfr1;have e0:a.tmps.getD 0 undef=.string ⟨s.toArray⟩:=PC (by have h:=hX1.t 0; rw [h0,G.tv_none rfl] at h; exact h)
 obtain ⟨bp,op,k1,e3,hrow⟩:=N7 (by have h:=hX1.t 3; rw [h3,G.tv_none rfl] at h; exact h);rw [XE] at e3;have hG:∀ b o x n c,H1 b o=some (.slice x n c)->(W.heap.size<=b/\b<w.heap.size/\Thawed w b):=fun b o x n c hb=>by
  have hn:Hg W b o=none:=by
   cases h:Hg W b o with
   | none=>rfl
   | some y=>
    have h2:=hfr1.hold b o y h
    rw [hb] at h2;rw [<- Option.some.inj h2] at h;exact absurd h (hgs b o x n c)
  have ht:=hfr1.nz.2 b o x n c hb hn
  rcases hfr1.hnew b o (by rw [hb]; simp) hn with h' | h'
  ·exact absurd rfl h'
  ·exact ⟨h',ht.lt,ht⟩
 have hSP:=VF (G:=fun b=>W.heap.size<=b/\b<w.heap.size/\Thawed w b) hG (Lt.cR s).1 hrow
 have hX0:=B7 (n:=Tryz.f4.ntmps) (s:=(stR [(0,sct (.s s)),(3,sct (.v (.pointer (some ⟨bp,op,none⟩))))]).toS) rfl (fun b o y h=>hX1.mem.agree b o y (hfr1.hold b o y h)) hgl hX1.nt hX1.df.1 (fun x hx=>by
  simp only [stR,St.toS,List.map_cons,List.map_nil,Wk,List.not_mem_nil,or_false] at hx;rcases hx with rfl | rfl
  ·rw [e0]; exact vi hs
  ·rw [e3]; exact Ul rfl)
 refine gG (x:=kR2) (y:=kq3) (by kernel_rfl) ?_;refine Code.wp_mono (fun e a2 w2' hl=>?_) (fS Bb mixed kR2 .l _ _ (by kernel_rfl) (w2 s (.pointer (some ⟨bp,op,none⟩))) a w ⟨_,_,_,hX0⟩);clear hR h0 h3 hm hX0;obtain ⟨s',hq,hR⟩:=hl;cases e with
 | normal=>?_
 | exit i=>exact hq.elim (fun t ht=>ht.2.elim)
 | ret=>exact hq.elim (fun t ht=>ht.2.elim)
 | panic c=>obtain ⟨_,_,_,_,hf⟩:=hq; exact hf.elim
 | _=>exact hq.elim
 obtain ⟨st2,rfl,h0,h3,h6,hm⟩:=hq;obtain ⟨H2,γ2,F2,hX2⟩:=If hR (.loc 6);have hfr2:=hX2.fr
 dsimp only at hfr2;have f0:a2.tmps.getD 0 undef=.string ⟨s.toArray⟩:=PC (by have h:=hX2.t 0; rw [h0,G.tv_none rfl] at h; exact h)
 have f3:a2.tmps.getD 3 undef=.pointer (some ⟨bp,op,none⟩):=Vb (by have h:=hX2.t 3; rw [h3,G.tv_none rfl] at h; exact h)
 obtain ⟨b6,o6,k6,f6,hrow6⟩:=N7 (by have h:=hX2.t 6; rw [h6,G.tv_none rfl] at h; exact h);have hk:=VA (nt:=94) (l:=[(0,.string ⟨s.toArray⟩),(3,.pointer (some ⟨bp,op,none⟩)),(6,.pointer (some ⟨b6,o6+0,none⟩))]) hX2.nt hX2.df.1 (fun x hx=>by
  simp only [Wk,List.not_mem_nil,or_false] at hx;rcases hx with rfl | rfl | rfl
  ·exact f0
  ·exact f3
  ·exact f6)
 have hold2:∀ b,b<w.heap.size->w2'.heap[b]? = w.heap[b]? := fun b hb=>hfr2.block b hb rfl
 have hcell:∀ b o y,H1 b o=some y->w2'.cell? ⟨b,o,none⟩=some y:=fun b o y hy=>by
  have:=hX1.mem.agree b o y hy
  rw [aP (hold2 b (World.block_lt_of_cell? _ _ this))];exact this
 have hW:Wd H1 (fun b=>W.heap.size<=b/\b<w.heap.size/\Thawed w b) w2' w2':=
  ⟨rfl,rfl,rfl,rfl,fun _ _=>rfl,fun b o y hy _=>hcell b o y hy,fun b o l hy=>⟨l,hcell b o _ hy⟩,fun b hb=>hb.2.2.of_block (hold2 b hb.2.1)⟩
 refine gG (x:=kqL) (y:=kqT) (by kernel_rfl) ?_;refine lp1 hSP hk hW (fun a3 w3' hk3 hW3=>?_);have hag3:∀ b o y,H2 b o=some y->w3'.cell? ⟨b,o,none⟩=some y:=fun b o y hy=>by
  have hnG:¬ (W.heap.size<=b/\b<w.heap.size/\Thawed w b):=by
   cases hc:Hg W b o with
   | some z=>have:=hgb b o z hc; omega
   | none=>
    rcases hfr2.hnew b o (by rw [hy]; simp) hc with h' | h'
    ·exact absurd rfl h'
    ·omega
  rw [aP (hW3.old b hnG)];exact hX2.mem.agree b o y hy
 have g0:=hk3.t 0 _ rfl
 have g6:=hk3.t 6 _ rfl
 have hX0:=B7 (n:=Tryz.f4.ntmps) (s:=(stR [(0,sct (.s s)),(6,.one (.c (.el (Vs (Lt.cR s).1) 0)))]).toS) rfl hag3 (uU hfr2.hold hgl) hk3.nt hk3.df (fun x hx=>by
  simp only [stR,St.toS,List.map_cons,List.map_nil,Wk,List.not_mem_nil,or_false] at hx;rcases hx with rfl | rfl
  ·rw [g0]; exact vi hs
  ·rw [g6]; exact QX hrow6)
 refine Code.wp_mono (fun e a4 w4 hl=>?_) (fS Bb mixed kqT (.s .l (.s .l .l)) _ _ (by kernel_rfl) (w3 s (Lt.cR s).1 ⟨rfl,by simp [Lt.Same,Lt.cR]⟩) a3 w3' ⟨_,_,_,hX0⟩);clear hR h0 h3 h6 hm hX0;obtain ⟨s',hq,hR⟩:=hl;cases e with
 | normal=>exact hq.elim (fun t ht=>ht.2.elim)
 | exit i=>exact hq.elim (fun t ht=>ht.2.elim)
 | ret=>?_
 | panic c=>obtain ⟨_,_,_,_,hf⟩:=hq; exact hf.elim
 | _=>exact hq.elim
 obtain ⟨t,rfl,ht⟩:=hq;obtain ⟨s'',hrk,H4,γ4,F4,hX4⟩:=qd (K:=fun r=>r=o1 cB true) (fun r h=>by subst h; rfl) ht hR;obtain ⟨y,v,s3,H5,F5,r1,r2,r3,r4,r5⟩:=uA hX4 rfl hrk;have hfr4:=r2.fr
 dsimp only at hfr4;refine ⟨.inr rfl,r2.df.1,y,r1,Sl (by rw [<- r5]; exact dT ch r3),?_⟩;refine ⟨hfr4.os.trans (hW3.os.trans (hfr2.os.trans hfr1.os)),hfr4.tape.trans (hW3.tape.trans (hfr2.tape.trans hfr1.tape)),hfr4.output.trans (hW3.output.trans (hfr2.output.trans hfr1.output)),?_,fun b hb=>?_⟩
 ·have h1:=hfr1.size; have h2:=hfr2.size; have h4:=hfr4.size; have h3:=hW3.size; omega
 ·have h1:=hfr1.size
  have h2:=hfr2.size
  have h3:=hW3.size
  rw [hfr4.block b (by omega) rfl,hW3.old b (by omega),hfr2.block b (by omega) rfl,hfr1.block b hb rfl]
end Go.Am
end

section
namespace Go.Am
end Go.Am
end
