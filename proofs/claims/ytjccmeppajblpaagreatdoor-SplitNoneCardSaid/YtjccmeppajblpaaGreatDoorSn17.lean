/-
  Part 17: AmCp1 · AmCp2 · AmCp3 · AmE17 · AmE18 · AmL18d · AmSw · AmPan.
-/
import Derived.Test.YtjccmeppajblpaaGreatDoorSn16
import Derived.Laws.Cover3
set_option linter.unusedSimpArgs false
set_option linter.unusedVariables false
set_option linter.unusedSectionVars false
set_option linter.unnecessarySimpa false
section
namespace Go.Am
open Go Go.RowKit Go.Proofs
theorem MS {α β:Type} {R:α->β->Fp->Value->Prop}:∀ (ss:List α) (xs:List β) (f:Fp) (vs:List Value) (k:Nat),
  Cs R ss xs f vs->k<xs.length ->
  ∃ s x v,∃ fk fr:Fp,ss[k]? = some s/\xs[k]? = some x/\vs[k]? = some v/\(∀ b,f b=fk b+fr b)/\R s x fk v /\
   (∀ (R':α->β->Fp->Value->Prop) (s':α) (x':β) (v':Value) (f':Fp),
    (∀ s x g v,(∀ b,g b<=fr b)->R s x g v->R' s x g v)->R' s' x' f' v' ->
    Cs R' (ss.set k s') (xs.set k x') (fun b=>f' b+fr b) (vs.set k v'))
 | [],[],_,_,k,_,hk=>by simp at hk
 | s::ss,x::xs,f,vs,0,h,_=>by
  obtain ⟨v,r,f1,f2,hv,hf,h1,h2⟩:=h;subst hv;refine ⟨s,x,v,f1,f2,rfl,rfl,rfl,hf,h1,?_⟩;intro R' s' x' v' f' hR hx';exact ⟨v',r,f',f2,rfl,fun _=>rfl,hx',fJ _ _ _ _ hR h2⟩
 | s::ss,x::xs,f,vs,k+1,h,hk=>by
  obtain ⟨v,r,f1,f2,hv,hf,h1,h2⟩:=h;subst hv;obtain ⟨s',x',v',fk,fr,a1,a2,a3,a4,a5,a6⟩:=MS ss xs f2 r k h2 (by simpa using hk);refine ⟨s',x',v',fk,fun b=>f1 b+fr b,by simpa using a1,by simpa using a2,by simpa using a3,(show ∀ b,f b=fk b+(f1 b+fr b) from fun b=>by have:=hf b; have:=a4 b; omega),a5,?_⟩;intro R' t y w g hR hy;refine ⟨v,r.set k w,f1,fun b=>g b+fr b,rfl,fun b=>by (try dsimp only at *); omega,hR _ _ _ _ (fun b=>by (try dsimp only at *); omega) h1,?_⟩;exact a6 R' t y w g (fun s x g v hg=>hR s x g v (fun b=>by have:=hg b; (try dsimp only at *); omega)) hy
 | [],_::_,_,_,_,h,_=>h.elim
 | _::_,[],_,_,_,h,_=>h.elim
def Own (w:World) (H:FH) (B sz:Nat) (ss:List Sh) (xs:List D) (f:Fp):Prop:=
 ∃ m cs ty g,w.heap[B]? = some (.cells cs ty (0,0))/\cs.size=sz/\Cs (OD w H m) ss xs g cs.toList/\∀ k,f k=g k+if k=B then 1 else 0
section
variable {P:Program} {w w':World} {H H':FH} {B sz:Nat} {ss:List Sh} {xs:List D} {f:Fp}
theorem Own.ne (h:Own w H B sz ss xs f):f B≠0:=by
 obtain ⟨m,cs,ty,g,_,_,_,h4⟩:=h;rw [h4,if_pos rfl]; omega
theorem Own.frame (h:Own w H B sz ss xs f) (hw:∀ b,f b≠0->w'.heap[b]? = w.heap[b]?):Own w' H B sz ss xs f:=by
 have hb:=h.ne
 obtain ⟨m,cs,ty,g,h1,h2,h3,h4⟩:=h;exact ⟨m,cs,ty,g,by rw [hw B hb]; exact h1,h2,fJ _ _ _ _ (fun s x g' v hg hx=>be (fun _ _ _ h=>h) m m _ _ _ _ (SN _) (fun b hb=>hw b (by have:=hg b; have:=h4 b; omega)) hx) h3,h4⟩
theorem Own.cell (h:Own w H B sz ss xs f) {j:Nat} (hj:j<xs.length):∃ s x v m,∃ fk fr:Fp,ss[j]? = some s/\xs[j]? = some x/\w.cell? ⟨B,j,none⟩=some v/\OD w H m s x fk v/\(∀ b,f b=fk b+fr b)/\fr B≠0/\Thawed w B /\
  (∀ s' x' f' m',OD w H m' s' x' f' v->Own w H B sz (ss.set j s') (xs.set j x') (fun b=>f' b+fr b)) /\
  (∀ s' x' f' m' v',(∀ b,f b<=1)->f' B=0->OD w H m' s' x' f' v'->Own (w.setCell ⟨B,j,none⟩ v') H B sz (ss.set j s') (xs.set j x') (fun b=>f' b+fr b)):=by
 obtain ⟨m,cs,ty,g,h1,h2,h3,h4⟩:=h;obtain ⟨s,x,v,fk,fr,a1,a2,a3,a4,a5,a6⟩:=MS _ _ _ _ _ h3 hj;have hcell:w.cell? ⟨B,j,none⟩=some v:=by
  simp only [World.cell?,h1,TN,SV,if_false];simpa using a3
 refine ⟨s,x,v,m,fk,fun b=>fr b+if b=B then 1 else 0,a1,a2,hcell,a5,fun b=>by have:=a4 b; have:=h4 b; dsimp only; omega,by simp,⟨_,_,h1⟩,?_,?_⟩
 ·intro s' x' f' m' hz;have h:=a6 (OD w H (max m m')) s' x' v f' (fun s x g v hg hx=>be (fun _ _ _ h=>h) m _ _ _ _ _ (Nat.le_max_left _ _) (fun _ _=>rfl) hx) (be (fun _ _ _ h=>h) m' _ _ _ _ _ (UE _ _) (fun _ _=>rfl) hz)
  have e:cs.toList.set j v=cs.toList:=Tw (fun i=>by
   rw [Tp];split
   ·rename_i e; subst e;split
    ·exact a3.symm
    ·rename_i h; rw [SZ (by omega)]
   ·rfl)
  rw [e] at h;exact ⟨_,cs,ty,_,h1,h2,h,fun k=>by dsimp only; omega⟩
 ·intro s' x' f' m' v' hf hfB hz;have hgB:g B=0:=by have:=hf B; rw [h4,if_pos rfl] at this; omega
  have h:=a6 (OD (w.setCell ⟨B,j,none⟩ v') H (max m m')) s' x' v' f' (fun s x g' v hg hx=>be (fun _ _ _ h=>h) m _ _ _ _ _ (Nat.le_max_left _ _) (fun b hb=>bj (fun e=>by subst e; have:=hg b; have:=a4 b; omega)) hx)
   (be (fun _ _ _ h=>h) m' _ _ _ _ _ (UE _ _) (fun b hb=>bj (fun e=>by subst e; exact hb hfB)) hz)
  refine ⟨_,cs.setIfInBounds j v',ty,_,fD h1,by simpa using h2,by simpa using h,fun k=>by dsimp only; omega⟩
def OM (w:World) (H:FH) (R:List (List Sh)) (rows:List (List D)) (q:Nat) (f:Fp) (ad:Option Addr) (c:Nat):Prop:=
 (rows=[]/\ad=none/\c=0/\∀ b,f b=0)\/∃ B,ad=some ⟨B,0,none⟩/\rows.length<=c/\rows.length<=BIG/\(∀ x∈rows,x.length=q)/\Own w H B (c*q) R.flatten rows.flatten f
theorem Pu {m:Nat} {sub:List Sh} {rows:List (List D)} {y:Value} (h:OD w H m (.ow sub) (.li rows) f y):∃ ad c,y=.slice ad rows.length c/\OM w H (List.replicate rows.length sub) rows sub.length f ad c:=by
 cases m with
 | zero=>simp [OD] at h
 | succ m=>
 rw [cM] at h;rcases h with ⟨rfl,rfl,h0⟩ | ⟨b,c,cs,ty,fz,g,h1,h2,h3,h4,h5,h6,h7,h8,h9⟩
 ·exact ⟨none,0,rfl,.inl ⟨rfl,rfl,rfl,h0⟩⟩
 ·obtain rfl:fz=(0,0):=h3;exact ⟨_,c,h1,.inr ⟨b,rfl,h5,h6,h7,m,cs,ty,g,h2,h4,h8,h9⟩⟩
theorem OM.od {sub:List Sh} {rows:List (List D)} {ad:Option Addr} {c:Nat} (h:OM w H (List.replicate rows.length sub) rows sub.length f ad c):∃ m,OD w H m (.ow sub) (.li rows) f (.slice ad rows.length c):=by
 rcases h with ⟨rfl,rfl,rfl,h0⟩ | ⟨B,rfl,h5,h6,h7,m,cs,ty,g,h2,h4,h8,h9⟩
 ·exact ⟨1,cM.2 (.inl ⟨rfl,rfl,h0⟩)⟩
 ·exact ⟨m+1,cM.2 (.inr ⟨B,c,cs,ty,(0,0),g,rfl,h2,rfl,h4,h5,h6,h7,h8,h9⟩)⟩
theorem OM.frame {R:List (List Sh)} {rows:List (List D)} {q:Nat} {ad:Option Addr} {c:Nat} (h:OM w H R rows q f ad c) (hw:∀ b,f b≠0->w'.heap[b]? = w.heap[b]?):OM w' H R rows q f ad c:=by
 rcases h with h | ⟨B,h1,h2,h3,h4,h5⟩
 ·exact .inl h
 ·exact .inr ⟨B,h1,h2,h3,h4,h5.frame hw⟩
end
section
variable {w w':World} {H:FH} {R:List (List Sh)} {rows:List (List D)} {q c:Nat} {f:Fp} {ad:Option Addr}
theorem OM.row (h:OM w H R rows q f ad c) (hR:∀ s∈R,s.length=q) (hl:R.length=rows.length) {i j:Nat} (hi:i<rows.length) (hj:j<q) :
  ∃ B,ad=some ⟨B,0,none⟩/\∃ s x v m,∃ fk fr:Fp,(R.getD i [])[j]? = some s/\(rows.getD i [])[j]? = some x/\w.cell? ⟨B,i*q+j,none⟩=some v/\OD w H m s x fk v/\(∀ b,f b=fk b+fr b)/\f B≠0/\Thawed w B /\
  (∀ s' x' f' m',OD w H m' s' x' f' v->OM w H (R.set i ((R.getD i []).set j s')) (rows.set i ((rows.getD i []).set j x')) q (fun b=>f' b+fr b) ad c) /\
  (∀ s' x' f' m' v',(∀ b,f b<=1)->f' B=0->OD w H m' s' x' f' v'->OM (w.setCell ⟨B,i*q+j,none⟩ v') H (R.set i ((R.getD i []).set j s')) (rows.set i ((rows.getD i []).set j x')) q (fun b=>f' b+fr b) ad c):=by
 rcases h with ⟨rfl,_⟩ | ⟨B,rfl,h2,h3,h4,h5⟩
 ·simp at hi
 ·have hne:=h5.ne
  have hlen:rows.flatten.length=rows.length*q:=bI q rows h4
  have hk:i*q+j<rows.flatten.length:=by
   rw [hlen];have:(i+1)*q<=rows.length*q:=TA _ hi
   rw [TO] at this; omega
  obtain ⟨s,x,v,m,fk,fr,a1,a2,a3,a4,a5,a6,a7,a8,a9⟩:=h5.cell hk;rw [b9 q R i j hR (by omega) hj] at a1;rw [b9 q rows i j h4 hi hj] at a2;refine ⟨B,rfl,s,x,v,m,fk,fr,a1,a2,a3,a4,a5,hne,a7,fun s' x' f' m' hz=>?_,fun s' x' f' m' v' hf hfB hz=>?_⟩
  ·have h:=a8 s' x' f' m' hz
   rw [fu q R i j s' hR (by omega) hj,fu q rows i j x' h4 hi hj] at h;exact .inr ⟨B,rfl,by simpa using h2,by simpa using h3,oT h4 i hi j x',h⟩
  ·have h:=a9 s' x' f' m' v' hf hfB hz
   rw [fu q R i j s' hR (by omega) hj,fu q rows i j x' h4 hi hj] at h;exact .inr ⟨B,rfl,by simpa using h2,by simpa using h3,oT h4 i hi j x',h⟩
theorem OM.put (h:OM w H R rows q f ad c) (hR:∀ s∈R,s.length=q) (hl:R.length=rows.length) {i j:Nat} (hi:i<rows.length) (hj:j<q) (h1:∀ b,f b<=1) (hlt:∀ b,f b≠0->b<w.heap.size) (hb:Below w.heap.size w w') {s':Sh} {x':D} {m':Nat} {g:Fp} {y:Value} (hy:OD w' H m' s' x' g y) (hg:∀ b,g b≠0->w.heap.size<=b) :
  ∃ B,ad=some ⟨B,0,none⟩/\f B≠0/\(∃ z,w'.cell? ⟨B,i*q+j,none⟩=some z)/\Thawed w' B/\∃ f',OM (w'.setCell ⟨B,i*q+j,none⟩ y) H (R.set i ((R.getD i []).set j s')) (rows.set i ((rows.getD i []).set j x')) q f' ad c/\∀ b,f' b<=f b+g b:=by
 have h':=h.frame (w':=w') (fun b hb'=>hb.block b (hlt b hb'))
 obtain ⟨B,e,s,x,v,m,fk,fr,a1,a2,a3,a4,a5,a6,a7,a8,a9⟩:=h'.row hR hl hi hj;refine ⟨B,e,a6,⟨v,a3⟩,a7,_,a9 s' x' g m' y h1 ?_ hy,fun b=>by have:=a5 b; omega⟩;rcases S7 (g B) with h0 | h0
 ·exact h0
 ·have:=hg B (by omega); have:=hlt B a6; omega
theorem ni {α:Type} {l:List α} {i:Nat} {x:α} (h:l[i]? = some x):l.set i x=l:=by
 refine Tw (fun j=>?_);rw [Tp];split
 ·rename_i e; subst e;split
  ·exact h.symm
  ·rename_i h2; rw [SZ (by omega)]
 ·rfl
theorem qU {α:Type} {rows:List (List α)} {i j:Nat} {x:α} (h:(rows.getD i [])[j]? = some x):rows.set i ((rows.getD i []).set j x)=rows:=by
 rw [ni h];by_cases hi:i<rows.length
 ·exact ni (by simp [List.getD,hi])
 ·exact List.set_eq_of_length_le (by omega)
end
def Rn (n i:Nat) (s z:List Sh):List (List Sh):=List.replicate i s++List.replicate (n-i) z
theorem MW {n i:Nat} {s z:List Sh} (h:i<=n):(Rn n i s z).length=n:=by simp [Rn]; omega
theorem Lw {n i:Nat} {s z:List Sh} (h:z.length=s.length):∀ x∈Rn n i s z,x.length=s.length:=by
 intro x hx;rcases Tj.1 hx with hx | hx
 ·rw [List.eq_of_mem_replicate hx]
 ·rw [List.eq_of_mem_replicate hx,h]
theorem yU {n i:Nat} {s z:List Sh} (h:i<n):(Rn n i s z).getD i []=z:=by
 have h1:¬ i<i:=by omega
 unfold Rn;rw [List.getD,TQ (by simp)];simp only [T3,Nat.sub_self];rw [Uv,if_pos (by omega)];rfl
theorem LM {n i:Nat} {s z:List Sh} (h:i<n):(Rn n i s z).set i s=Rn n (i+1) s z:=by
 unfold Rn;rw [show n-i=(n - (i+1))+1 from by omega,TX,List.set_append_right _ _ (by simp)];simp [List.replicate_succ',TL]
theorem RA {n:Nat} {s z:List Sh}:Rn n 0 s z=List.replicate n z:=by simp [Rn]
theorem Rz {n:Nat} {s z:List Sh}:Rn n n s z=List.replicate n s:=by simp [Rn]
def AB (o:Oper) (d:Option Nat) (x:Op):Prop:=o.op=x/\o.dst=d/\o.guard=none
structure IsClone (P:Program) (fn:Func) (c:Code) (t e n bytes:Nat):Prop where
 ntmps:fn.ntmps=8
 res:fn.results=#[.tmp 2]
 c0:c=.seq (kpL c) (kpR c)
 c1:kpR c=.seq (.seq (kpL (kpL (kpR c))) (.cond (.tmp 4) (.seq (kpL (kpL (kpR (kpL (kpR c))))) .ret) .skip)) (kpR (kpR c))
 c2:kpR (kpR c)=.seq (kpL (kpR (kpR c))) .ret
 r0:kpL c=.region 0 [opN (kpL c) 0].toArray false
 r1:kpL (kpL (kpR c))=.region 1 [opN (kpL (kpL (kpR c))) 0,opN (kpL (kpL (kpR c))) 1].toArray false
 r2:kpL (kpL (kpR (kpL (kpR c))))=.region 2 [opN (kpL (kpL (kpR (kpL (kpR c))))) 0].toArray false
 r3:kpL (kpR (kpR c))=.region 3 [opN (kpL (kpR (kpR c))) 0,opN (kpL (kpR (kpR c))) 1,opN (kpL (kpR (kpR c))) 2,opN (kpL (kpR (kpR c))) 3].toArray false
 o0:AB (opN (kpL c) 0) (some 2) (.assign (.const (.slice none 0 0)))
 o1:AB (opN (kpL (kpL (kpR c))) 0) (some 3) (.move (.tmp 0))
 o2:∃ z,AB (opN (kpL (kpL (kpR c))) 1) (some 4) (.binOp .eql t (.tmp 3) (.const (.slice none 0 0)) z)
 o3:AB (opN (kpL (kpL (kpR (kpL (kpR c))))) 0) (some 2) (.assign (.const (.slice none 0 0)))
 o4:AB (opN (kpL (kpR (kpR c))) 0) (some 5) (.buildSlice t 0 #[])
 o5:AB (opN (kpL (kpR (kpR c))) 1) (some 6) (.move (.tmp 0))
 o6:AB (opN (kpL (kpR (kpR c))) 2) (some 7) (.call ⟨.builtin .append,#[.tmp 5,.tmp 6],#[t,t]⟩)
 o7:AB (opN (kpL (kpR (kpR c))) 3) (some 2) (.assign (.tmp 7))
 tk:(ty P t).k=.sl e
 ek:(ty P e).ok=true/\(ty P e).size=n/\(ty P e).bytes=bytes
 ez:∃ zs,zcells P e=some zs/\zs.length=n
 big:bytes<=140000000
def Prc (st sz:Nat):Nat->Bs:=fun j b=>j≠st/\b<sz
abbrev Zn:Exit->Act->World->Prop:=fun _ _ _=>False
section
variable {P:Program} {ops:Array Oper} {Q:Act->World->Prop} {o:Oper} {l:List (Nat×Value)} {a:Act} {w:World} {nt d st sz fuel i:Nat} {v:Value} {listed:Array Bool}
theorem LU {id:Nat} {R:Code} {ol:List Oper} {Q:Exit->Act->World->Prop} (hR:R=.region id ol.toArray true) (st sz:Nat) (hm:P.follows .mixedOrders=true)
  (h:∀ w2:World,w2.heap=w.heap->w2.os=w.os->w2.tape=w.tape->w2.output=w.output->dO P .any ol.toArray Zn (Q .normal) ol.toArray.size (Array.replicate ol.toArray.size false) (Prc st sz) a w2):R.wp P Q a w:=by
 rw [hR];exact wp_region_any hm (iV (Z:=Zn) (Q:=Q .normal) (fun a w h=>h) (fun e a w h=>h.elim) _ _ (Prc st sz) _ _ (h _ rfl rfl rfl rfl))
theorem cE (A:List Nat) (hs:Region.noSelect ops=true) (hi:ops[i]? = some o) (ht:pF ops listed i A true=true) (hA:A.contains st=true) (hg:o.guard=none) (ho:o.dst=some d) (hd:d<nt) (hk:KT nt l a)
  (hrun:∀ w':World,(∀ b,b<sz->w'.heap[b]? = w.heap[b]?)->(execOp a.eval o).run P w'=.ok (.value v) w') (h:∀ a',KT nt ((d,v)::l) a'->dO P .any ops Zn Q fuel (listed.setIfInBounds i true) (Prc st sz) a' w) :
  dO P .any ops Zn Q (fuel+1) listed (Prc st sz) a w:=by
 simp only [pF,SL] at ht;obtain ⟨⟨⟨⟨t1,t2⟩,t3⟩,t4⟩,t5⟩:=ht;have hready:=Region.ready_mem_of_contains t2
 have hbeh:behind .any ops i (fun j=>A.contains j) listed:=by
  intro j hj hun;have:=SQ.1 t4 j (by simpa using hj)
  rw [cq.2 hun] at this;cases ho:ops[j]? with
  | none=>rw [ho] at this; simp at this
  | some oj=>
   rw [ho] at this;simp only [UO,TW] at this;obtain ⟨e,he,h1⟩:=Array.any_eq_true'.1 this;simp only [SL,T5,beq_iff_eq] at h1;exact ⟨oj,rfl,e,he,h1.1.1,cq.1 h1.1.2,h1.2⟩
 refine fG (fun _ _ _ _ _ h=>h) (A:=fun j=>A.contains j) (B:=fun b=>b<sz) (v:=v) hi (Region.noSelect_spec hs) fuel listed (Prc st sz) (Prc st sz) a w (fun j b h=>h) (fun j b h1 h2=>⟨fun e=>?_,h2⟩)
   (Region.free_spec hi t1) hbeh hready (.inl ⟨by simp [Region.wanted,hg],fun w2 hs2=>hrun w2 hs2⟩) (by rw [ho]; exact h _ (hk.put hd v))
 rw [e,hA] at h1; cases h1
theorem Mj (hr:Region.ready .any ops listed=[i]) (hi:ops[i]? = some o) (hg:o.guard=none) (h:o.wp P a w (fun a' w'=>uo (Prc st sz i) w w'/\dO P .any ops Zn Q fuel (listed.setIfInBounds i true) (Prc st sz) a' w') Zn) :
  dO P .any ops Zn Q (fuel+1) listed (Prc st sz) a w:=by
 refine ⟨fun e=>(by rw [hr] at e; cases e),fun j hj=>?_⟩;rw [hr] at hj;obtain rfl:=SY.1 hj;unfold lOp;simp only [hi];rw [if_pos (by simp [Region.wanted,hg])];exact bt (fun a w ⟨h1,h2⟩=>⟨h1,_,fun _ _ h=>h,h2⟩) (fun _ _ _ h=>h) h
theorem Qh (hr:Region.ready .any ops listed=[]) (h:Q a w):dO P .any ops Zn Q fuel listed (Prc st sz) a w:=by
 cases fuel with
 | zero=>exact ⟨hr,h⟩
 | succ n=>exact ⟨fun _=>h,fun j hj=>by rw [hr] at hj; cases hj⟩
end
def ClR (w:World) (H:FH) (n:Nat) (rows:List (List D)) (y:Value) (w':World):Prop:=
 Below w.heap.size w w'/\∃ m g,OD w' H m (.ow (List.replicate n .fr)) (.li rows) g y/\(∀ b,g b<=1)/\∀ b,g b≠0->w.heap.size<=b/\b<w'.heap.size
theorem vt {P:Program} {f:Nat} {fn:Func} {c:Code} (hf:P.funcs[f]? = some fn) (hb:fn.body=some c) (args:List Value) (W:World) (Q:Value->World->Prop) (hle:args.length<=fn.ntmps)
  (h:∀ a0:Act,a0.tmps.size=fn.ntmps->a0.defers=[]->(∀ (i:Nat) v,args[i]? = some v->a0.tmps.getD i undef=v) ->
   c.wp P (fun e a' w'=>(e=.normal\/e=.ret)/\a'.defers=[]/\∃ v,(results fn a'.tmps).run P w'=.ok v w'/\Q v w') a0 W):Calls P f args.toArray W (fun e w'=>∃ v,e=.returned v/\Q v w'):=by
 refine calls_of_wp hf hb (Code.wp_mono (fun e a' w' hl=>?_) (h _ ?_ rfl ?_))
 ·obtain ⟨he,hd,v,hr,hq⟩:=hl;rcases he with rfl | rfl
  ·exact ⟨hd,v,hr,v,rfl,hq⟩
  ·exact ⟨hd,v,hr,v,rfl,hq⟩
 ·simp; omega
 ·intro i v hi;have hlt:=(Tl.1 hi).1
  rw [S5,Tx (by simpa using hlt)];simp [hi]
theorem F9:∀ {l:List (Nat×Value)} {i:Nat} {v:Value},lkV l i=some v->(i,v)∈l
 | [],_,_,h=>by cases h
 | (k,x)::r,i,v,h=>by
  unfold lkV at h;cases hb:Nat.beq k i with
  | true=>
   rw [hb] at h;obtain rfl:=SO hb;obtain rfl:=Option.some.inj h;simp
  | false=>rw [hb] at h; exact S4 _ (F9 h)
theorem Pi {nt:Nat} {l:List (Nat×Value)} {a:Act} (hn:a.tmps.size=nt) (hd:a.defers=[]) (h:∀ x∈l,a.tmps.getD x.1 undef=x.2):KT nt l a:=⟨hn,hd,fun i v hi=>h (i,v) (F9 hi)⟩
theorem yc {P:Program} {fn:Func} {i nt:Nat} {l:List (Nat×Value)} {a:Act} {w:World} {v:Value} (hr:fn.results=#[.tmp i]) (hk:KT nt l a) (hi:lkV l i=some v) (hlt:i<nt):(results fn a.tmps).run P w=.ok v w:=by
 rw [dJ,hr];have h1:a.tmps.getD i undef=v:=hk.t i v hi
 have h2:a.tmps[i]? = some v:=by
  have:i<a.tmps.size:=by rw [hk.nt]; exact hlt
  rw [T0 this,<- h1,S5,T0 this];rfl
 simp [gV,h2]
section
variable {P:Program} {all:Array Oper} {rest:List Oper} {Q:Exit->Act->World->Prop} {o:Oper} {l:List (Nat×Value)} {a:Act} {w w':World} {nt d:Nat} {v:Value}
theorem wpW (hg:o.guard=none) (ho:o.dst=some d) (hd:d<nt) (hk:KT nt l a) (hrun:(execOp a.eval o).run P w=.ok (.value v) w') (h:∀ a',KT nt ((d,v)::l) a'->wpList P all Q rest a' w') :
  wpList P all Q (o::rest) a w:=
 wpList_plain hg fun K hK=>by
  unfold Oper.wp;rw [hrun];exact hK _ _ (by rw [ho]; exact h _ (hk.put hd v))
theorem wpC {f:Nat} {fn:Func} {ts:Array TypeId} {x:Operand} {R:Value->World->Prop} (hf:P.funcs[f]? = some fn) (hn:(fn.name == "runtime.NumGoroutine")=false) (hb:fn.body.isSome=true) (hg:o.guard=none) (ho:o.dst=some d) (hd:d<nt) (hk:KT nt l a)
  (hop:o.op=.call ⟨.value (.func f),#[x],ts⟩) (hx:a.eval x=v) (hC:Calls P f #[v] w (fun e w'=>∃ y,e=.returned y/\R y w')) (h:∀ y w' a',R y w'->KT nt ((d,y)::l) a'->wpList P all Q rest a' w') :
  wpList P all Q (o::rest) a w:=
 wpList_plain hg fun K hK=>by
  unfold Oper.wp;have hr:(execOp a.eval o).run P w=.ok (.enter f #[v]) w:=by
   simp only [execOp,hop,resolve,Act.eval,Deferred.ofValue,Sem.run_bind,Sem.run_pure,Result.andThen_ok,invoke];rw [fP hf hn hb];simp [hx]
  rw [hr];refine Calls.mono hC (fun e w' ⟨y,h1,h2⟩=>?_);subst h1;exact hK _ _ (by rw [ho]; exact h y w' _ h2 (hk.put hd y))
end
section
variable {P:Program} {ops:Array Oper} {Q:Act->World->Prop} {o:Oper} {l:List (Nat×Value)} {a:Act} {w:World} {nt d st sz fuel i:Nat} {v:Value} {listed:Array Bool}
theorem O3 {f:Nat} {fn:Func} {ts:Array TypeId} {x:Operand} {R:Value->World->Prop} (hr:Region.ready .any ops listed=[i]) (hi:ops[i]? = some o) (hf:P.funcs[f]? = some fn) (hn:(fn.name == "runtime.NumGoroutine")=false) (hb:fn.body.isSome=true) (hg:o.guard=none) (ho:o.dst=some d) (hd:d<nt) (hk:KT nt l a)
  (hop:o.op=.call ⟨.value (.func f),#[x],ts⟩) (hx:a.eval x=v) (hC:Calls P f #[v] w (fun e w'=>∃ y,e=.returned y/\R y w')) (hR:∀ y w',R y w'->∀ b,b<sz->w'.heap[b]? = w.heap[b]?)
  (h:∀ y w' a',R y w'->KT nt ((d,y)::l) a'->dO P .any ops Zn Q fuel (listed.setIfInBounds i true) (Prc st sz) a' w') :
  dO P .any ops Zn Q (fuel+1) listed (Prc st sz) a w:=by
 refine Mj hr hi hg ?_;unfold Oper.wp;have hr:(execOp a.eval o).run P w=.ok (.enter f #[v]) w:=by
  simp only [execOp,hop,resolve,Act.eval,Deferred.ofValue,Sem.run_bind,Sem.run_pure,Result.andThen_ok,invoke];rw [fP hf hn hb];simp [hx]
 rw [hr];refine Calls.mono hC (fun e w' ⟨y,h1,h2⟩=>?_);subst h1;exact ⟨fun b hb=>hR y w' h2 b hb.2,by rw [ho]; exact h y w' _ h2 (hk.put hd y)⟩
theorem Mx {t:TypeId} {x y:Operand} {b off:Nat} {z:Value} (hr:Region.ready .any ops listed=[st]) (hi:ops[st]? = some o) (hg:o.guard=none) (ho:o.dst=none) (hop:o.op=.store t x y) (hx:a.eval x=.pointer (some ⟨b,off,none⟩)) (hy:a.eval y=v) (ht:(ty P t).ok=true/\(ty P t).size=1) (hv:gc v=true)
  (hc:w.cell? ⟨b,off,none⟩=some z) (hf:w.frozen? ⟨b,off,none⟩=false) (h:dO P .any ops Zn Q fuel (listed.setIfInBounds st true) (Prc st sz) a (w.setCell ⟨b,off,none⟩ v)):dO P .any ops Zn Q (fuel+1) listed (Prc st sz) a w:=by
 refine Mj hr hi hg ?_;obtain ⟨it,_,hit,_⟩:=cV ht.1;have hsz:P.cellsOf t=1:=by rw [<- eK ht.1,ht.2]
 have hcells:v.cells=#[v]:=by cases v <;> first | rfl | (simp [gc] at hv)
 have hr:(execOp a.eval o).run P w=.ok .skip (w.setCell ⟨b,off,none⟩ v):=by
  simp only [execOp,hop,hx,hy];simp only [Instr.storeAt,Instr.sureAddr,Sem.run_bind,Sem.run_pure,Result.andThen_ok,storeVar,bc hit];rw [if_neg (by rw [hcells,hsz]; simp),hcells];simp only [storeCells,Sem.run_bind,bO];rw [Uf,nD hv hc hf];rfl
 unfold Oper.wp;rw [hr];exact ⟨fun c hc=>absurd rfl hc.1,by rw [ho]; exact h⟩
end
theorem jA {P:Program} {f:Nat} {fn:Func} {c:Code} {t e n bytes:Nat} (hf:P.funcs[f]? = some fn) (hb:fn.body=some c) (hC:IsClone P fn c t e n bytes) {w:World} {H:FH} {rows:List (List D)} {v:Value}
  (hv:FDx H (.li rows) v) (hag:∀ b o y,H b o=some y->w.cell? ⟨b,o,none⟩=some y) (hrows:eN n rows) (hbig:rows.length<=1000000):Calls P f #[v] w (fun e w'=>∃ y,e=.returned y/\ClR w H n rows y w'):=by
 refine vt (args:=[v]) hf hb w (ClR w H n rows) (by rw [hC.ntmps]; simp) (fun a0 hn0 hd0 ht0=>?_);have hk0:=Pi (nt:=8) (l:=[(0,v)]) (hn0.trans hC.ntmps) hd0 (fun x hx=>by obtain rfl:=SY.1 hx; exact ht0 0 v rfl)
 have hvv:∃ a cc,v=.slice a rows.length cc/\(a=none->rows=[]):=by
  obtain ⟨m,hv⟩:=hv;cases m with
  | zero=>exact hv.elim
  | succ m=>
   obtain ⟨a,cc,rfl,_,_,h3⟩:=lj.1 hv;refine ⟨a,cc,rfl,fun ha=>?_⟩;rcases h3 with h3 | ⟨b,o,_,h3,_⟩
   ·exact h3
   ·rw [ha] at h3; cases h3
 obtain ⟨va,vc,hve,hvn⟩:=hvv;obtain ⟨_,td,_,hud,htk,_⟩:=aO hC.tk (by simp);obtain rfl:=je htk;obtain ⟨ie,de,hie,hde,_,hsize,hbytes,_⟩:=cV hC.ek.1;obtain ⟨zs,hzs,hzl⟩:=hC.ez;obtain ⟨it',z,hi',hz,hzc,_⟩:=f7 hzs;rw [hie] at hi';obtain rfl:ie=it':=by simpa using hi'
 have hn:ie.size=n:=by rw [<- hsize,hC.ek.2.1]
 have hby:ie.bytes=bytes:=by rw [<- hbytes,hC.ek.2.2]
 have hzsz:z.cells.size=ie.size:=by rw [hn,<- hzl,<- hzc]; simp
 refine ej hC.c0 ?_;refine dC hC.r0 ?_;refine wpV hC.o0.2.2 hC.o0.2.1 (by decide) hk0 (jy hC.o0.1 rfl) (fun a hk=>wpList_nil ?_);refine ej hC.c1 ?_;refine ej rfl ?_;refine dC hC.r1 ?_;refine wpV hC.o1.2.2 hC.o1.2.1 (by decide) hk (cQ hC.o1.1 (hk.ev rfl)) (fun a hk=>?_);obtain ⟨z2,ho2⟩:=hC.o2;refine wpV (v:=.bool va.isNone) ho2.2.2 ho2.2.1 (by decide) hk ?_ (fun a hk=>wpList_nil ?_)
 ·simp only [execOp,ho2.1];rw [show a.eval (.tmp 3)=.slice va rows.length vc from by rw [hk.ev (i:=3) rfl,hve],show a.eval (.const (.slice none 0 0))=.slice none 0 0 from rfl,Sem.run_bind,Sem.run_bind,show (eqGuard .eql t (.tmp 3) (.const (.slice none 0 0)) (.slice va rows.length vc) (.slice none 0 0)).run P w=.ok () w from rfl,Result.andThen_ok,show (binOp .eql t (.slice va rows.length vc) (.slice none 0 0)).run P w=.ok (.bool va.isNone) w from by
   simp only [binOp];simp [run_equal_slice_nil w t _ va rows.length vc hud]]
  rfl
 cases hva:va.isNone with
 | true=>
  refine wp_cond_true (by rw [hk.ev (i:=4) rfl,hva]) ?_;refine ej rfl ?_;refine dC hC.r2 ?_;refine wpV hC.o3.2.2 hC.o3.2.1 (by decide) hk (jy hC.o3.1 rfl) (fun a hk=>wpList_nil ?_);refine wp_ret ⟨.inr rfl,hk.df,_,yc hC.res hk rfl (by decide),Below.refl _ _,1,fun _=>0,?_,fun _=>Tf _,fun b hb=>absurd rfl hb⟩;rw [hvn (by simpa using hva),cM];exact .inl ⟨rfl,rfl,fun _=>rfl⟩
 | false=>
  refine wp_cond_false (by rw [hk.ev (i:=4) rfl,hva]) (wp_skip ?_);refine ej hC.c2 ?_;refine dC hC.r3 ?_;obtain ⟨us,cs,u1,u2,u3⟩:=eE (P:=P) (w:=w) (t:=t) (len:=0) (vs:=#[]) (cells:=#[]) hud hie hz (by simp) (fun us hus=>⟨us,rfl,hus,.inr trivial⟩);have hu0:us=#[]:=Array.eq_empty_of_size_eq_zero (by rw [u1]; simp)
  obtain rfl:us=cs:=Option.some.inj u2;subst hu0;refine wpW (v:=.slice (some ⟨w.heap.size,0,none⟩) 0 0) hC.o4.2.2 hC.o4.2.1 (by decide) hk ?_ (fun a hk=>?_) (w':=w.alloc (.cells #[] e))
  ·simp only [execOp,hC.o4.1];rw [Sem.run_bind,show (#[]:Array (Nat×Operand)).map (fun (x:Nat×Operand)=>(x.1,a.eval x.2))=#[] from by simp,u3];rfl
  refine wpV hC.o5.2.2 hC.o5.2.1 (by decide) hk (cQ hC.o5.1 (hk.ev rfl)) (fun a hk=>?_);have hag1:∀ b o y,H b o=some y->(w.alloc (.cells #[] e)).cell? ⟨b,o,none⟩=some y:=fun b o y h=>by
   have h:=hag b o y h
   rw [az (cp (World.block_lt_of_cell? _ _ h))];exact h
  have hmem:Mem (w.alloc (.cells #[] e)) H (fun _=>.blk 0) [] (fun _ _=>0):=⟨hag1,fun x hx=>by simp at hx,by simp,fun b=>Tf _,fun b hb=>absurd rfl hb,fun b hb=>absurd rfl hb⟩
  obtain ⟨ws,s1,s2,s3⟩:=LH (P:=P) hmem (x:=.one (.c (.d (.li rows)))) (v:=v) (ys:=rows) ⟨fun _=>rfl,hv⟩ rfl (size:=ie.size) (by rw [hn]; exact hrows);have hod:OD (w.alloc (.cells #[] e)) H 1 (.ow (List.replicate ie.size .fr)) (.li []) (fun d=>0+if d=w.heap.size then 1 else 0) (.slice (some ⟨w.heap.size,0,none⟩) 0 0):=
   qy (c:=0) (l:=[]) (g:=fun _=>0) (cs:=#[]) br rfl (by simp) (SN _) (Tf _) (by simp) (by intro b; rfl)
  have hsz1:(w.alloc (.cells #[] e)).heap.size=w.heap.size+1:=by show (w.heap.push _).size=_; simp
  obtain ⟨y,w2,f',c1,⟨k',c2⟩,c3,c4,c5,c6,c7,c8,c9⟩:=oc (tt:=(opN (kpL (kpR (kpR c))) 2).type) hud hud rfl hie hz hzsz (gx:=fun _=>0) (kx:=0) (by simp) hod s1 (fun y hy=>by rw [T3,hn]; exact (hrows y hy).1)
   (by
    have h:=s2 0
    rw [show (List.replicate rows.length (List.replicate ie.size Sh.fr)).flatten=List.replicate (rows.length*ie.size) Sh.fr from by rw [List.flatten_replicate_replicate]];exact h) s3 (fun b=>by split <;> omega) (fun b hb=>by
     rcases hb with hb | hb
     ·rw [hsz1]; split at hb <;> omega
     ·exact absurd rfl hb) (by simp; omega) (by
     rw [hby];have h1:=hC.big
     have h2:rows.length*bytes<=1000000*140000000:=Nat.mul_le_mul hbig h1
     simp only [Te,TJ];omega)
  refine wpW (v:=y) hC.o6.2.2 hC.o6.2.1 (by decide) hk ?_ (fun a hk=>?_) (w':=w2)
  ·simp only [execOp,hC.o6.1,resolve,invoke,builtin,Sem.run_bind,Sem.run_pure,Result.andThen_ok,List.map_toArray,List.map_cons,List.map_nil];rw [hk.ev (i:=5) rfl,hk.ev (i:=6) rfl,c1];rfl
  refine wpV hC.o7.2.2 hC.o7.2.1 (by decide) hk (jy hC.o7.1 (hk.ev rfl)) (fun a hk=>wpList_nil ?_);refine wp_ret ⟨.inr rfl,hk.df,y,yc hC.res hk rfl (by decide),⟨c4,c5,c6,by omega,fun b hb=>?_⟩,k',f',?_,fun b=>?_,fun b hb=>⟨?_,c9 b hb⟩⟩
  ·rcases c7 b (by omega) with h | h
   ·rw [h]; exact cp hb
   ·exact absurd h.1 (by rw [if_neg (by omega)]; simp)
  ·rw [<- hn]; simpa using c2
  ·have:=c8 b; split at this <;> split at this <;> omega
  ·have:=c8 b; split at this <;> split at this <;> omega
end Go.Am
end

section
namespace Go.Am
open Go Go.RowKit Go.Proofs
set_option maxRecDepth 100000
theorem zc9:zcells Tryz.prog 9=some [.string ⟨#[]⟩]:=by kernel_rfl
theorem SE:zcells Tryz.prog 43=some [.string ⟨#[]⟩,.slice none 0 0,.slice none 0 0,.int .i64 0,.int .i64 0,.string ⟨#[]⟩,.int .i64 0,.slice none 0 0,.int .i64 0]:=by kernel_rfl
theorem Sr:zcells Tryz.prog 46=some [.string ⟨#[]⟩,.slice none 0 0]:=by kernel_rfl
theorem Sf:zcells Tryz.prog 48=some [.string ⟨#[]⟩,.int .i64 0,.string ⟨#[]⟩,.int .i64 0]:=by kernel_rfl
theorem RY:IsClone Tryz.prog Tryz.f52 (Tryz.f52.body.getD .skip) 23 43 9 136:=⟨by kernel_rfl,by kernel_rfl,by kernel_rfl,by kernel_rfl,by kernel_rfl,by kernel_rfl,by kernel_rfl,by kernel_rfl,by kernel_rfl,⟨by kernel_rfl,by kernel_rfl,by kernel_rfl⟩,⟨by kernel_rfl,by kernel_rfl,by kernel_rfl⟩,⟨23,by kernel_rfl,by kernel_rfl,by kernel_rfl⟩,⟨by kernel_rfl,by kernel_rfl,by kernel_rfl⟩,⟨by kernel_rfl,by kernel_rfl,by kernel_rfl⟩,⟨by kernel_rfl,by kernel_rfl,by kernel_rfl⟩,⟨by kernel_rfl,by kernel_rfl,by kernel_rfl⟩,⟨by kernel_rfl,by kernel_rfl,by kernel_rfl⟩,by kernel_rfl,⟨by kernel_rfl,by kernel_rfl,by kernel_rfl⟩,⟨_,SE,rfl⟩,by decide⟩
theorem R0:IsClone Tryz.prog Tryz.f53 (Tryz.f53.body.getD .skip) 39 9 1 16:=⟨by kernel_rfl,by kernel_rfl,by kernel_rfl,by kernel_rfl,by kernel_rfl,by kernel_rfl,by kernel_rfl,by kernel_rfl,by kernel_rfl,⟨by kernel_rfl,by kernel_rfl,by kernel_rfl⟩,⟨by kernel_rfl,by kernel_rfl,by kernel_rfl⟩,⟨39,by kernel_rfl,by kernel_rfl,by kernel_rfl⟩,⟨by kernel_rfl,by kernel_rfl,by kernel_rfl⟩,⟨by kernel_rfl,by kernel_rfl,by kernel_rfl⟩,⟨by kernel_rfl,by kernel_rfl,by kernel_rfl⟩,⟨by kernel_rfl,by kernel_rfl,by kernel_rfl⟩,⟨by kernel_rfl,by kernel_rfl,by kernel_rfl⟩,by kernel_rfl,⟨by kernel_rfl,by kernel_rfl,by kernel_rfl⟩,⟨_,zc9,rfl⟩,by decide⟩
theorem R8:IsClone Tryz.prog Tryz.f54 (Tryz.f54.body.getD .skip) 35 46 2 40:=⟨by kernel_rfl,by kernel_rfl,by kernel_rfl,by kernel_rfl,by kernel_rfl,by kernel_rfl,by kernel_rfl,by kernel_rfl,by kernel_rfl,⟨by kernel_rfl,by kernel_rfl,by kernel_rfl⟩,⟨by kernel_rfl,by kernel_rfl,by kernel_rfl⟩,⟨35,by kernel_rfl,by kernel_rfl,by kernel_rfl⟩,⟨by kernel_rfl,by kernel_rfl,by kernel_rfl⟩,⟨by kernel_rfl,by kernel_rfl,by kernel_rfl⟩,⟨by kernel_rfl,by kernel_rfl,by kernel_rfl⟩,⟨by kernel_rfl,by kernel_rfl,by kernel_rfl⟩,⟨by kernel_rfl,by kernel_rfl,by kernel_rfl⟩,by kernel_rfl,⟨by kernel_rfl,by kernel_rfl,by kernel_rfl⟩,⟨_,Sr,rfl⟩,by decide⟩
theorem RP:IsClone Tryz.prog Tryz.f55 (Tryz.f55.body.getD .skip) 44 48 4 48:=⟨by kernel_rfl,by kernel_rfl,by kernel_rfl,by kernel_rfl,by kernel_rfl,by kernel_rfl,by kernel_rfl,by kernel_rfl,by kernel_rfl,⟨by kernel_rfl,by kernel_rfl,by kernel_rfl⟩,⟨by kernel_rfl,by kernel_rfl,by kernel_rfl⟩,⟨44,by kernel_rfl,by kernel_rfl,by kernel_rfl⟩,⟨by kernel_rfl,by kernel_rfl,by kernel_rfl⟩,⟨by kernel_rfl,by kernel_rfl,by kernel_rfl⟩,⟨by kernel_rfl,by kernel_rfl,by kernel_rfl⟩,⟨by kernel_rfl,by kernel_rfl,by kernel_rfl⟩,⟨by kernel_rfl,by kernel_rfl,by kernel_rfl⟩,by kernel_rfl,⟨by kernel_rfl,by kernel_rfl,by kernel_rfl⟩,⟨_,Sf,rfl⟩,by decide⟩
abbrev Ru:Nat:=26
noncomputable abbrev cpF:Func:=Tryz.f26
theorem Qk:Tryz.prog.funcs[Ru]? = some cpF:=Tryz.func26
theorem ccB {w:World} {H:FH} {rows:List (List D)} {v:Value} (hv:FDx H (.li rows) v) (hag:∀ b o y,H b o=some y->w.cell? ⟨b,o,none⟩=some y) (hrows:eN 9 rows) (hbig:rows.length<=1000000):Calls Tryz.prog 52 #[v] w (fun e w'=>∃ y,e=.returned y/\ClR w H 9 rows y w'):=jA Tryz.func52 (c:=Tryz.f52.body.getD .skip) (by kernel_rfl) RY hv hag hrows hbig
theorem ccS {w:World} {H:FH} {rows:List (List D)} {v:Value} (hv:FDx H (.li rows) v) (hag:∀ b o y,H b o=some y->w.cell? ⟨b,o,none⟩=some y) (hrows:eN 1 rows) (hbig:rows.length<=1000000):Calls Tryz.prog 53 #[v] w (fun e w'=>∃ y,e=.returned y/\ClR w H 1 rows y w'):=jA Tryz.func53 (c:=Tryz.f53.body.getD .skip) (by kernel_rfl) R0 hv hag hrows hbig
theorem ccP {w:World} {H:FH} {rows:List (List D)} {v:Value} (hv:FDx H (.li rows) v) (hag:∀ b o y,H b o=some y->w.cell? ⟨b,o,none⟩=some y) (hrows:eN 2 rows) (hbig:rows.length<=1000000):Calls Tryz.prog 54 #[v] w (fun e w'=>∃ y,e=.returned y/\ClR w H 2 rows y w'):=jA Tryz.func54 (c:=Tryz.f54.body.getD .skip) (by kernel_rfl) R8 hv hag hrows hbig
theorem ccI {w:World} {H:FH} {rows:List (List D)} {v:Value} (hv:FDx H (.li rows) v) (hag:∀ b o y,H b o=some y->w.cell? ⟨b,o,none⟩=some y) (hrows:eN 4 rows) (hbig:rows.length<=1000000):Calls Tryz.prog 55 #[v] w (fun e w'=>∃ y,e=.returned y/\ClR w H 4 rows y w'):=jA Tryz.func55 (c:=Tryz.f55.body.getD .skip) (by kernel_rfl) RP hv hag hrows hbig
noncomputable abbrev cq0:Code:=Tryz.f26.body.getD .skip
noncomputable abbrev cR0:Code:=kpL cq0
noncomputable abbrev cq1:Code:=kpR cq0
noncomputable abbrev cR1:Code:=kpL cq1
noncomputable abbrev cq2:Code:=kpR cq1
noncomputable abbrev cqL:Code:=kpL cq2
noncomputable abbrev cqT:Code:=kpR cq2
noncomputable abbrev cR13:Code:=kpL cqT
noncomputable abbrev cR2:Code:=kpL cqL
noncomputable abbrev cb1:Code:=kpB (kpB (kpR cqL))
noncomputable abbrev cR3:Code:=kpL cb1
noncomputable abbrev cc1:Code:=kpR (kpR cb1)
noncomputable abbrev cx1:Code:=kpB (kpL cc1)
noncomputable abbrev cR12:Code:=kpR cc1
noncomputable abbrev cR4:Code:=kpL cx1
noncomputable abbrev cx2:Code:=kpR cx1
noncomputable abbrev cR5:Code:=kpL cx2
noncomputable abbrev cx3:Code:=kpR cx2
noncomputable abbrev cR6:Code:=kpL cx3
noncomputable abbrev cx4:Code:=kpR cx3
noncomputable abbrev cR7:Code:=kpL cx4
noncomputable abbrev cb2:Code:=kpB (kpB (kpR cx4))
noncomputable abbrev cR8:Code:=kpL cb2
noncomputable abbrev cc2:Code:=kpR (kpR cb2)
noncomputable abbrev cy1:Code:=kpB (kpL cc2)
noncomputable abbrev cR11:Code:=kpR cc2
noncomputable abbrev cR9:Code:=kpL cy1
noncomputable abbrev cR10:Code:=kpR cy1
theorem cg0 {a:Act} {w:World} {Q:Exit->Act->World->Prop} {v:Value} (hk:KT 65 [(0,v)] a)  (h:∀ a,KT 65 [(0,v)] a->Q .normal a w):cR0.wp Tryz.prog Q a w:=by
 refine dC (id:=0) (l:=[opN cR0 0]) (by kernel_rfl) ?_;refine wpV (d:=2) (v:=.slice none 0 0) (by kernel_rfl) (by kernel_rfl) (by decide) hk (jy (x:=.const (.slice none 0 0)) (by kernel_rfl) (rfl)) (fun a hk=>?_);exact wpList_nil (h _ (hk.sub2 ⟨rfl,trivial⟩))
theorem cg1 {a:Act} {w:World} {Q:Exit->Act->World->Prop} {v:Value} (hk:KT 65 [(0,v)] a) {R:Value->World->Prop} (hC:Calls Tryz.prog 52 #[v] w (fun e w'=>∃ y,e=.returned y/\R y w')) (h:∀ y w' a,R y w'->KT 65 [(3,y)] a->Q .normal a w'):cR1.wp Tryz.prog Q a w:=by
 refine dC (id:=1) (l:=[opN cR1 0,opN cR1 1,opN cR1 2]) (by kernel_rfl) ?_;refine wpV (d:=6) (v:=v) (by kernel_rfl) (by kernel_rfl) (by decide) hk (cQ (x:=.tmp 0) (by kernel_rfl) (hk.ev rfl)) (fun a hk=>?_);refine wpC (d:=7) (x:=.tmp 6) (ts:=#[23]) Tryz.func52 (by kernel_rfl) (by kernel_rfl) (by kernel_rfl) (by kernel_rfl) (by decide) hk (by kernel_rfl) (hk.ev rfl) hC (fun y w' a hR hk=>?_);refine wpV (d:=3) (v:=y) (by kernel_rfl) (by kernel_rfl) (by decide) hk (jy (x:=.tmp 7) (by kernel_rfl) (hk.ev rfl)) (fun a hk=>?_);exact wpList_nil (h _ _ _ hR (hk.sub2 ⟨rfl,trivial⟩))
theorem cg2 {a:Act} {w:World} {Q:Exit->Act->World->Prop} {nB cB:Nat} {aB:Option Addr} (hk:KT 65 [(3,.slice aB nB cB)] a)  (h:∀ a,KT 65 [(3,.slice aB nB cB),(9,.int .i64 (nB:Nat)),(10,.int .i64 0)] a->Q .normal a w):cR2.wp Tryz.prog Q a w:=by
 refine dC (id:=2) (l:=[opN cR2 0,opN cR2 1,opN cR2 2]) (by kernel_rfl) ?_;refine wpV (d:=8) (v:=.slice aB nB cB) (by kernel_rfl) (by kernel_rfl) (by decide) hk (cQ (x:=.tmp 3) (by kernel_rfl) (hk.ev rfl)) (fun a hk=>?_);refine wpV (d:=9) (v:=.int .i64 (nB:Nat)) (by kernel_rfl) (by kernel_rfl) (by decide) hk (Rl (c:=⟨.builtin .len,#[.tmp 8],#[23]⟩) (t:=23) (x:=.tmp 8) (by kernel_rfl) rfl rfl rfl ⟨43,by kernel_rfl⟩ (hk.ev rfl)) (fun a hk=>?_);refine wpV (d:=10) (v:=.int .i64 0) (by kernel_rfl) (by kernel_rfl) (by decide) hk (cQ (x:=.const (.int .i64 0)) (by kernel_rfl) (rfl)) (fun a hk=>?_);exact wpList_nil (h _ (hk.sub2 ⟨rfl,rfl,rfl,trivial⟩))
theorem cg3 {a:Act} {w:World} {Q:Exit->Act->World->Prop} {nB cB:Nat} {aB:Option Addr} {i:Nat} (hk:KT 65 [(3,.slice aB nB cB),(9,.int .i64 (nB:Nat)),(10,.int .i64 (i:Int))] a) (hm:(Lit.int .i64 ((i:Int):Int)).wf=true) (hn:(Lit.int .i64 ((nB:Nat):Int)).wf=true) (h:∀ a,KT 65 [(11,.bool (decide (((i:Int):Int) < (nB:Nat)))),(3,.slice aB nB cB),(9,.int .i64 (nB:Nat)),(10,.int .i64 (i:Int))] a->Q .normal a w):cR3.wp Tryz.prog Q a w:=by
 refine dC (id:=3) (l:=[opN cR3 0]) (by kernel_rfl) ?_;refine wpV (d:=11) (v:=.bool (decide (((i:Int):Int) < (nB:Nat)))) (by kernel_rfl) (by kernel_rfl) (by decide) hk (R4 (t:=3) (x:=.tmp 10) (y:=.tmp 9) (z:=3) (by kernel_rfl) (hk.ev rfl) (hk.ev rfl) hm hn) (fun a hk=>?_);exact wpList_nil (h _ (hk.sub2 ⟨rfl,rfl,rfl,rfl,trivial⟩))
theorem cg4 {a:Act} {w:World} {Q:Exit->Act->World->Prop} {nB cB:Nat} {aB:Option Addr} {i:Nat} (hk:KT 65 [(3,.slice aB nB cB),(9,.int .i64 (nB:Nat)),(10,.int .i64 (i:Int))] a)  (h:∀ a,KT 65 [(3,.slice aB nB cB),(9,.int .i64 (nB:Nat)),(10,.int .i64 (i:Int)),(4,.int .i64 (i:Int))] a->Q .normal a w):cR4.wp Tryz.prog Q a w:=by
 refine dC (id:=4) (l:=[opN cR4 0,opN cR4 1]) (by kernel_rfl) ?_;refine wpV (d:=12) (v:=.int .i64 (i:Int)) (by kernel_rfl) (by kernel_rfl) (by decide) hk (cQ (x:=.tmp 10) (by kernel_rfl) (hk.ev rfl)) (fun a hk=>?_);refine wpV (d:=4) (v:=.int .i64 (i:Int)) (by kernel_rfl) (by kernel_rfl) (by decide) hk (jy (x:=.tmp 12) (by kernel_rfl) (hk.ev rfl)) (fun a hk=>?_);exact wpList_nil (h _ (hk.sub2 ⟨rfl,rfl,rfl,rfl,trivial⟩))
theorem cg5 {a:Act} {w:World} {Q:Exit->Act->World->Prop} {nB cB bB i:Nat} (hi:i<nB) {u:Value} (hk:KT 65 [(3,.slice (some ⟨bB,0,none⟩) nB cB),(9,.int .i64 (nB:Nat)),(10,.int .i64 (i:Int)),(4,.int .i64 (i:Int))] a) (h1:w.cell? ⟨bB,0+i*9+3+4,none⟩=some (u)) {R:Value->World->Prop} (hC:Calls Tryz.prog 53 #[u] w (fun e w'=>∃ y,e=.returned y/\R y w')) (hz:∀ y w',R y w'->∃ z,w'.cell? ⟨bB,0+i*9+3+4,none⟩=some z/\Thawed w' bB/\gc y=true) (h:∀ y w' a,R y w'->KT 65 [(3,.slice (some ⟨bB,0,none⟩) nB cB),(9,.int .i64 (nB:Nat)),(10,.int .i64 (i:Int)),(4,.int .i64 (i:Int))] a->Q .normal a (w'.setCell ⟨bB,0+i*9+3+4,none⟩ y)):cR5.wp Tryz.prog Q a w:=by
 refine dC (id:=5) (l:=[opN cR5 0,opN cR5 1,opN cR5 2,opN cR5 3,opN cR5 4,opN cR5 5,opN cR5 6,opN cR5 7,opN cR5 8,opN cR5 9,opN cR5 10,opN cR5 11,opN cR5 12]) (by kernel_rfl) ?_;refine wpV (d:=13) (v:=.slice (some ⟨bB,0,none⟩) nB cB) (by kernel_rfl) (by kernel_rfl) (by decide) hk (cQ (x:=.tmp 3) (by kernel_rfl) (hk.ev rfl)) (fun a hk=>?_);refine wpV (d:=14) (v:=.int .i64 (i:Int)) (by kernel_rfl) (by kernel_rfl) (by decide) hk (cQ (x:=.tmp 4) (by kernel_rfl) (hk.ev rfl)) (fun a hk=>?_);refine wpV (d:=15) (v:=.slice (some ⟨bB,0,none⟩) nB cB) (by kernel_rfl) (by kernel_rfl) (by decide) hk (cQ (x:=.tmp 3) (by kernel_rfl) (hk.ev rfl)) (fun a hk=>?_);refine wpV (d:=16) (v:=.int .i64 (i:Int)) (by kernel_rfl) (by kernel_rfl) (by decide) hk (cQ (x:=.tmp 4) (by kernel_rfl) (hk.ev rfl)) (fun a hk=>?_);refine wpV (d:=17) (v:=.pointer (some ⟨bB,0+i*9,none⟩)) (by kernel_rfl) (by kernel_rfl) (by decide) hk (vIA (t:=23) (x:=.tmp 15) (i:=.tmp 16) (e:=9) (by kernel_rfl) (hk.ev rfl) (hk.ev rfl) ⟨SR _,Ul.2 hi⟩ (by kernel_rfl)) (fun a hk=>?_);refine wpV (d:=18) (v:=.pointer (some ⟨bB,0+i*9+3,none⟩)) (by kernel_rfl) (by kernel_rfl) (by decide) hk (vFA (t:=43) (x:=.tmp 17) (i:=3) (k:=3) (by kernel_rfl) (hk.ev rfl) (by kernel_rfl)) (fun a hk=>?_);refine wpV (d:=19) (v:=.pointer (some ⟨bB,0+i*9+3+4,none⟩)) (by kernel_rfl) (by kernel_rfl) (by decide) hk (vFA (t:=41) (x:=.tmp 18) (i:=2) (k:=4) (by kernel_rfl) (hk.ev rfl) (by kernel_rfl)) (fun a hk=>?_);refine wpV (d:=20) (v:=u) (by kernel_rfl) (by kernel_rfl) (by decide) hk (wK (t:=39) (x:=.tmp 19) (by kernel_rfl) (hk.ev rfl) ⟨by kernel_rfl,by kernel_rfl⟩ h1) (fun a hk=>?_);refine wpC (d:=21) (x:=.tmp 20) (ts:=#[39]) Tryz.func53 (by kernel_rfl) (by kernel_rfl) (by kernel_rfl) (by kernel_rfl) (by decide) hk (by kernel_rfl) (hk.ev rfl) hC (fun y w' a hR hk=>?_);refine wpV (d:=22) (v:=.pointer (some ⟨bB,0+i*9,none⟩)) (by kernel_rfl) (by kernel_rfl) (by decide) hk (vIA (t:=23) (x:=.tmp 13) (i:=.tmp 14) (e:=9) (by kernel_rfl) (hk.ev rfl) (hk.ev rfl) ⟨SR _,Ul.2 hi⟩ (by kernel_rfl)) (fun a hk=>?_)
 refine wpV (d:=23) (v:=.pointer (some ⟨bB,0+i*9+3,none⟩)) (by kernel_rfl) (by kernel_rfl) (by decide) hk (vFA (t:=43) (x:=.tmp 22) (i:=3) (k:=3) (by kernel_rfl) (hk.ev rfl) (by kernel_rfl)) (fun a hk=>?_);refine wpV (d:=24) (v:=.pointer (some ⟨bB,0+i*9+3+4,none⟩)) (by kernel_rfl) (by kernel_rfl) (by decide) hk (vFA (t:=41) (x:=.tmp 23) (i:=2) (k:=4) (by kernel_rfl) (hk.ev rfl) (by kernel_rfl)) (fun a hk=>?_);obtain ⟨z,hz1,hz2,hz3⟩:=hz _ _ hR;refine Pw (v:=y) (t:=39) (x:=.tmp 24) (y:=.tmp 21) (by kernel_rfl) (by kernel_rfl) (by kernel_rfl) (hk.ev rfl) (hk.ev rfl) ⟨by kernel_rfl,by kernel_rfl⟩ hz3 hz1 (jU hz2) ?_;exact wpList_nil (h _ _ _ hR (hk.sub2 ⟨rfl,rfl,rfl,rfl,trivial⟩))
theorem cg6 {a:Act} {w:World} {Q:Exit->Act->World->Prop} {nB cB bB i:Nat} (hi:i<nB) {u:Value} (hk:KT 65 [(3,.slice (some ⟨bB,0,none⟩) nB cB),(9,.int .i64 (nB:Nat)),(10,.int .i64 (i:Int)),(4,.int .i64 (i:Int))] a) (h1:w.cell? ⟨bB,0+i*9+1,none⟩=some (u)) {R:Value->World->Prop} (hC:Calls Tryz.prog 54 #[u] w (fun e w'=>∃ y,e=.returned y/\R y w')) (hz:∀ y w',R y w'->∃ z,w'.cell? ⟨bB,0+i*9+1,none⟩=some z/\Thawed w' bB/\gc y=true) (h:∀ y w' a,R y w'->KT 65 [(3,.slice (some ⟨bB,0,none⟩) nB cB),(9,.int .i64 (nB:Nat)),(10,.int .i64 (i:Int)),(4,.int .i64 (i:Int))] a->Q .normal a (w'.setCell ⟨bB,0+i*9+1,none⟩ y)):cR6.wp Tryz.prog Q a w:=by
 refine dC (id:=6) (l:=[opN cR6 0,opN cR6 1,opN cR6 2,opN cR6 3,opN cR6 4,opN cR6 5,opN cR6 6,opN cR6 7,opN cR6 8,opN cR6 9,opN cR6 10]) (by kernel_rfl) ?_;refine wpV (d:=25) (v:=.slice (some ⟨bB,0,none⟩) nB cB) (by kernel_rfl) (by kernel_rfl) (by decide) hk (cQ (x:=.tmp 3) (by kernel_rfl) (hk.ev rfl)) (fun a hk=>?_);refine wpV (d:=26) (v:=.int .i64 (i:Int)) (by kernel_rfl) (by kernel_rfl) (by decide) hk (cQ (x:=.tmp 4) (by kernel_rfl) (hk.ev rfl)) (fun a hk=>?_);refine wpV (d:=27) (v:=.slice (some ⟨bB,0,none⟩) nB cB) (by kernel_rfl) (by kernel_rfl) (by decide) hk (cQ (x:=.tmp 3) (by kernel_rfl) (hk.ev rfl)) (fun a hk=>?_);refine wpV (d:=28) (v:=.int .i64 (i:Int)) (by kernel_rfl) (by kernel_rfl) (by decide) hk (cQ (x:=.tmp 4) (by kernel_rfl) (hk.ev rfl)) (fun a hk=>?_);refine wpV (d:=29) (v:=.pointer (some ⟨bB,0+i*9,none⟩)) (by kernel_rfl) (by kernel_rfl) (by decide) hk (vIA (t:=23) (x:=.tmp 27) (i:=.tmp 28) (e:=9) (by kernel_rfl) (hk.ev rfl) (hk.ev rfl) ⟨SR _,Ul.2 hi⟩ (by kernel_rfl)) (fun a hk=>?_);refine wpV (d:=30) (v:=.pointer (some ⟨bB,0+i*9+1,none⟩)) (by kernel_rfl) (by kernel_rfl) (by decide) hk (vFA (t:=43) (x:=.tmp 29) (i:=1) (k:=1) (by kernel_rfl) (hk.ev rfl) (by kernel_rfl)) (fun a hk=>?_);refine wpV (d:=31) (v:=u) (by kernel_rfl) (by kernel_rfl) (by decide) hk (wK (t:=35) (x:=.tmp 30) (by kernel_rfl) (hk.ev rfl) ⟨by kernel_rfl,by kernel_rfl⟩ h1) (fun a hk=>?_);refine wpC (d:=32) (x:=.tmp 31) (ts:=#[35]) Tryz.func54 (by kernel_rfl) (by kernel_rfl) (by kernel_rfl) (by kernel_rfl) (by decide) hk (by kernel_rfl) (hk.ev rfl) hC (fun y w' a hR hk=>?_);refine wpV (d:=33) (v:=.pointer (some ⟨bB,0+i*9,none⟩)) (by kernel_rfl) (by kernel_rfl) (by decide) hk (vIA (t:=23) (x:=.tmp 25) (i:=.tmp 26) (e:=9) (by kernel_rfl) (hk.ev rfl) (hk.ev rfl) ⟨SR _,Ul.2 hi⟩ (by kernel_rfl)) (fun a hk=>?_);refine wpV (d:=34) (v:=.pointer (some ⟨bB,0+i*9+1,none⟩)) (by kernel_rfl) (by kernel_rfl) (by decide) hk (vFA (t:=43) (x:=.tmp 33) (i:=1) (k:=1) (by kernel_rfl) (hk.ev rfl) (by kernel_rfl)) (fun a hk=>?_)
 obtain ⟨z,hz1,hz2,hz3⟩:=hz _ _ hR;refine Pw (v:=y) (t:=35) (x:=.tmp 34) (y:=.tmp 32) (by kernel_rfl) (by kernel_rfl) (by kernel_rfl) (hk.ev rfl) (hk.ev rfl) ⟨by kernel_rfl,by kernel_rfl⟩ hz3 hz1 (jU hz2) ?_;exact wpList_nil (h _ _ _ hR (hk.sub2 ⟨rfl,rfl,rfl,rfl,trivial⟩))
theorem cg7 {a:Act} {w:World} {Q:Exit->Act->World->Prop} {nB cB bB i:Nat} (hi:i<nB) {nC cC:Nat} {aC:Option Addr} (hk:KT 65 [(3,.slice (some ⟨bB,0,none⟩) nB cB),(9,.int .i64 (nB:Nat)),(10,.int .i64 (i:Int)),(4,.int .i64 (i:Int))] a) (h1:w.cell? ⟨bB,0+i*9+1,none⟩=some (.slice aC nC cC)) (h:∀ a,KT 65 [(3,.slice (some ⟨bB,0,none⟩) nB cB),(9,.int .i64 (nB:Nat)),(10,.int .i64 (i:Int)),(4,.int .i64 (i:Int)),(40,.int .i64 (nC:Nat)),(41,.int .i64 0)] a->Q .normal a w):cR7.wp Tryz.prog Q a w:=by
 refine dC (id:=7) (l:=[opN cR7 0,opN cR7 1,opN cR7 2,opN cR7 3,opN cR7 4,opN cR7 5,opN cR7 6]) (by kernel_rfl) ?_;refine wpV (d:=35) (v:=.slice (some ⟨bB,0,none⟩) nB cB) (by kernel_rfl) (by kernel_rfl) (by decide) hk (cQ (x:=.tmp 3) (by kernel_rfl) (hk.ev rfl)) (fun a hk=>?_);refine wpV (d:=36) (v:=.int .i64 (i:Int)) (by kernel_rfl) (by kernel_rfl) (by decide) hk (cQ (x:=.tmp 4) (by kernel_rfl) (hk.ev rfl)) (fun a hk=>?_);refine wpV (d:=37) (v:=.pointer (some ⟨bB,0+i*9,none⟩)) (by kernel_rfl) (by kernel_rfl) (by decide) hk (vIA (t:=23) (x:=.tmp 35) (i:=.tmp 36) (e:=9) (by kernel_rfl) (hk.ev rfl) (hk.ev rfl) ⟨SR _,Ul.2 hi⟩ (by kernel_rfl)) (fun a hk=>?_);refine wpV (d:=38) (v:=.pointer (some ⟨bB,0+i*9+1,none⟩)) (by kernel_rfl) (by kernel_rfl) (by decide) hk (vFA (t:=43) (x:=.tmp 37) (i:=1) (k:=1) (by kernel_rfl) (hk.ev rfl) (by kernel_rfl)) (fun a hk=>?_);refine wpV (d:=39) (v:=.slice aC nC cC) (by kernel_rfl) (by kernel_rfl) (by decide) hk (wK (t:=35) (x:=.tmp 38) (by kernel_rfl) (hk.ev rfl) ⟨by kernel_rfl,by kernel_rfl⟩ h1) (fun a hk=>?_);refine wpV (d:=40) (v:=.int .i64 (nC:Nat)) (by kernel_rfl) (by kernel_rfl) (by decide) hk (Rl (c:=⟨.builtin .len,#[.tmp 39],#[35]⟩) (t:=35) (x:=.tmp 39) (by kernel_rfl) rfl rfl rfl ⟨46,by kernel_rfl⟩ (hk.ev rfl)) (fun a hk=>?_);refine wpV (d:=41) (v:=.int .i64 0) (by kernel_rfl) (by kernel_rfl) (by decide) hk (cQ (x:=.const (.int .i64 0)) (by kernel_rfl) (rfl)) (fun a hk=>?_);exact wpList_nil (h _ (hk.sub2 ⟨rfl,rfl,rfl,rfl,rfl,rfl,trivial⟩))
theorem cg8 {a:Act} {w:World} {Q:Exit->Act->World->Prop} {nB cB bB i nC k:Nat} (hk:KT 65 [(3,.slice (some ⟨bB,0,none⟩) nB cB),(9,.int .i64 (nB:Nat)),(10,.int .i64 (i:Int)),(4,.int .i64 (i:Int)),(40,.int .i64 (nC:Nat)),(41,.int .i64 (k:Int))] a) (hm:(Lit.int .i64 ((k:Int):Int)).wf=true) (hn:(Lit.int .i64 ((nC:Nat):Int)).wf=true) (h:∀ a,KT 65 [(42,.bool (decide (((k:Int):Int) < (nC:Nat)))),(3,.slice (some ⟨bB,0,none⟩) nB cB),(9,.int .i64 (nB:Nat)),(10,.int .i64 (i:Int)),(4,.int .i64 (i:Int)),(40,.int .i64 (nC:Nat)),(41,.int .i64 (k:Int))] a->Q .normal a w):cR8.wp Tryz.prog Q a w:=by
 refine dC (id:=8) (l:=[opN cR8 0]) (by kernel_rfl) ?_;refine wpV (d:=42) (v:=.bool (decide (((k:Int):Int) < (nC:Nat)))) (by kernel_rfl) (by kernel_rfl) (by decide) hk (R4 (t:=3) (x:=.tmp 41) (y:=.tmp 40) (z:=3) (by kernel_rfl) (hk.ev rfl) (hk.ev rfl) hm hn) (fun a hk=>?_);exact wpList_nil (h _ (hk.sub2 ⟨rfl,rfl,rfl,rfl,rfl,rfl,rfl,trivial⟩))
theorem cg9 {a:Act} {w:World} {Q:Exit->Act->World->Prop} {nB cB bB i nC k:Nat} (hk:KT 65 [(3,.slice (some ⟨bB,0,none⟩) nB cB),(9,.int .i64 (nB:Nat)),(10,.int .i64 (i:Int)),(4,.int .i64 (i:Int)),(40,.int .i64 (nC:Nat)),(41,.int .i64 (k:Int))] a)  (h:∀ a,KT 65 [(3,.slice (some ⟨bB,0,none⟩) nB cB),(9,.int .i64 (nB:Nat)),(10,.int .i64 (i:Int)),(4,.int .i64 (i:Int)),(40,.int .i64 (nC:Nat)),(41,.int .i64 (k:Int)),(5,.int .i64 (k:Int))] a->Q .normal a w):cR9.wp Tryz.prog Q a w:=by
 refine dC (id:=9) (l:=[opN cR9 0,opN cR9 1]) (by kernel_rfl) ?_;refine wpV (d:=43) (v:=.int .i64 (k:Int)) (by kernel_rfl) (by kernel_rfl) (by decide) hk (cQ (x:=.tmp 41) (by kernel_rfl) (hk.ev rfl)) (fun a hk=>?_);refine wpV (d:=5) (v:=.int .i64 (k:Int)) (by kernel_rfl) (by kernel_rfl) (by decide) hk (jy (x:=.tmp 43) (by kernel_rfl) (hk.ev rfl)) (fun a hk=>?_);exact wpList_nil (h _ (hk.sub2 ⟨rfl,rfl,rfl,rfl,rfl,rfl,rfl,trivial⟩))
theorem SG {a:Act} {w:World} {Q:Exit->Act->World->Prop} {nB cB bB i:Nat} {nC cC k:Nat} {bC:Nat} (hi:i<nB) (hj:k<nC) {u:Value} (hk:KT 65 [(3,.slice (some ⟨bB,0,none⟩) nB cB),(9,.int .i64 (nB:Nat)),(10,.int .i64 (i:Int)),(4,.int .i64 (i:Int)),(40,.int .i64 (nC:Nat)),(41,.int .i64 (k:Int)),(5,.int .i64 (k:Int))] a) (h1:w.cell? ⟨bB,0+i*9+1,none⟩=some (.slice (some ⟨bC,0,none⟩) nC cC)) (h2:w.cell? ⟨bC,0+k*2+1,none⟩=some (u)) {R:Value->World->Prop} (hC:∀ w2:World,w2.heap=w.heap->w2.os=w.os->w2.tape=w.tape->w2.output=w.output->Calls Tryz.prog 55 #[u] w2 (fun e w'=>∃ y,e=.returned y/\R y w')) (hR:∀ y w',R y w'->∀ b,b<w.heap.size->w'.heap[b]? = w.heap[b]?) (hz:∀ y w',R y w'->∃ z,w'.cell? ⟨bC,0+k*2+1,none⟩=some z/\Thawed w' bC/\gc y=true) (h:∀ y w' a,R y w'->KT 65 [(3,.slice (some ⟨bB,0,none⟩) nB cB),(9,.int .i64 (nB:Nat)),(10,.int .i64 (i:Int)),(4,.int .i64 (i:Int)),(40,.int .i64 (nC:Nat)),(41,.int .i64 (k:Int))] a->Q .normal a (w'.setCell ⟨bC,0+k*2+1,none⟩ y)):cR10.wp Tryz.prog Q a w:=by
 refine LU (id:=10) (ol:=[opN cR10 0,opN cR10 1,opN cR10 2,opN cR10 3,opN cR10 4,opN cR10 5,opN cR10 6,opN cR10 7,opN cR10 8,opN cR10 9,opN cR10 10,opN cR10 11,opN cR10 12,opN cR10 13,opN cR10 14,opN cR10 15,opN cR10 16,opN cR10 17,opN cR10 18]) (by kernel_rfl) 18 w.heap.size (by kernel_rfl) (fun w2 e1 e2 e3 e4=>?_);refine cE (i:=0) (d:=44) (v:=.slice (some ⟨bB,0,none⟩) nB cB) (o:=opN cR10 0) [2,3,4,16,17,18] (by kernel_rfl) (by kernel_rfl) (by kernel_rfl) (by decide) (by kernel_rfl) (by kernel_rfl) (by decide) hk (fun w' _=>cQ (x:=.tmp 3) (by kernel_rfl) (hk.ev rfl)) (fun a hk=>?_);refine cE (i:=1) (d:=45) (v:=.int .i64 (i:Int)) (o:=opN cR10 1) [2,3,4,16,17,18] (by kernel_rfl) (by kernel_rfl) (by kernel_rfl) (by decide) (by kernel_rfl) (by kernel_rfl) (by decide) hk (fun w' _=>cQ (x:=.tmp 4) (by kernel_rfl) (hk.ev rfl)) (fun a hk=>?_);refine cE (i:=2) (d:=46) (v:=.pointer (some ⟨bB,0+i*9,none⟩)) (o:=opN cR10 2) [3,4,16,17,18] (by kernel_rfl) (by kernel_rfl) (by kernel_rfl) (by decide) (by kernel_rfl) (by kernel_rfl) (by decide) hk (fun w' _=>vIA (t:=23) (x:=.tmp 44) (i:=.tmp 45) (e:=9) (by kernel_rfl) (hk.ev rfl) (hk.ev rfl) ⟨SR _,Ul.2 hi⟩ (by kernel_rfl)) (fun a hk=>?_);refine cE (i:=3) (d:=47) (v:=.pointer (some ⟨bB,0+i*9+1,none⟩)) (o:=opN cR10 3) [4,16,17,18] (by kernel_rfl) (by kernel_rfl) (by kernel_rfl) (by decide) (by kernel_rfl) (by kernel_rfl) (by decide) hk (fun w' _=>vFA (t:=43) (x:=.tmp 46) (i:=1) (k:=1) (by kernel_rfl) (hk.ev rfl) (by kernel_rfl)) (fun a hk=>?_);refine cE (i:=4) (d:=48) (v:=.slice (some ⟨bC,0,none⟩) nC cC) (o:=opN cR10 4) [16,17,18] (by kernel_rfl) (by kernel_rfl) (by kernel_rfl) (by decide) (by kernel_rfl) (by kernel_rfl) (by decide) hk (fun w' hs=>wK (t:=35) (x:=.tmp 47) (by kernel_rfl) (hk.ev rfl) ⟨by kernel_rfl,by kernel_rfl⟩ ((az ((hs _ (World.block_lt_of_cell? _ _ h1)).trans (by rw [e1]))).trans h1)) (fun a hk=>?_);refine cE (i:=5) (d:=49) (v:=.int .i64 (k:Int)) (o:=opN cR10 5) [16,17,18] (by kernel_rfl) (by kernel_rfl) (by kernel_rfl) (by decide) (by kernel_rfl) (by kernel_rfl) (by decide) hk (fun w' _=>cQ (x:=.tmp 5) (by kernel_rfl) (hk.ev rfl)) (fun a hk=>?_)
 refine cE (i:=6) (d:=50) (v:=.slice (some ⟨bB,0,none⟩) nB cB) (o:=opN cR10 6) [8,9,10,12,13,14,15,18] (by kernel_rfl) (by kernel_rfl) (by kernel_rfl) (by decide) (by kernel_rfl) (by kernel_rfl) (by decide) hk (fun w' _=>cQ (x:=.tmp 3) (by kernel_rfl) (hk.ev rfl)) (fun a hk=>?_);refine cE (i:=7) (d:=51) (v:=.int .i64 (i:Int)) (o:=opN cR10 7) [8,9,10,12,13,14,15,18] (by kernel_rfl) (by kernel_rfl) (by kernel_rfl) (by decide) (by kernel_rfl) (by kernel_rfl) (by decide) hk (fun w' _=>cQ (x:=.tmp 4) (by kernel_rfl) (hk.ev rfl)) (fun a hk=>?_);refine cE (i:=8) (d:=52) (v:=.pointer (some ⟨bB,0+i*9,none⟩)) (o:=opN cR10 8) [9,10,12,13,14,15,18] (by kernel_rfl) (by kernel_rfl) (by kernel_rfl) (by decide) (by kernel_rfl) (by kernel_rfl) (by decide) hk (fun w' _=>vIA (t:=23) (x:=.tmp 50) (i:=.tmp 51) (e:=9) (by kernel_rfl) (hk.ev rfl) (hk.ev rfl) ⟨SR _,Ul.2 hi⟩ (by kernel_rfl)) (fun a hk=>?_);refine cE (i:=9) (d:=53) (v:=.pointer (some ⟨bB,0+i*9+1,none⟩)) (o:=opN cR10 9) [10,12,13,14,15,18] (by kernel_rfl) (by kernel_rfl) (by kernel_rfl) (by decide) (by kernel_rfl) (by kernel_rfl) (by decide) hk (fun w' _=>vFA (t:=43) (x:=.tmp 52) (i:=1) (k:=1) (by kernel_rfl) (hk.ev rfl) (by kernel_rfl)) (fun a hk=>?_);refine cE (i:=10) (d:=54) (v:=.slice (some ⟨bC,0,none⟩) nC cC) (o:=opN cR10 10) [12,13,14,15,18] (by kernel_rfl) (by kernel_rfl) (by kernel_rfl) (by decide) (by kernel_rfl) (by kernel_rfl) (by decide) hk (fun w' hs=>wK (t:=35) (x:=.tmp 53) (by kernel_rfl) (hk.ev rfl) ⟨by kernel_rfl,by kernel_rfl⟩ ((az ((hs _ (World.block_lt_of_cell? _ _ h1)).trans (by rw [e1]))).trans h1)) (fun a hk=>?_);refine cE (i:=11) (d:=55) (v:=.int .i64 (k:Int)) (o:=opN cR10 11) [12,13,14,15,18] (by kernel_rfl) (by kernel_rfl) (by kernel_rfl) (by decide) (by kernel_rfl) (by kernel_rfl) (by decide) hk (fun w' _=>cQ (x:=.tmp 5) (by kernel_rfl) (hk.ev rfl)) (fun a hk=>?_);refine cE (i:=12) (d:=56) (v:=.pointer (some ⟨bC,0+k*2,none⟩)) (o:=opN cR10 12) [13,14,15,18] (by kernel_rfl) (by kernel_rfl) (by kernel_rfl) (by decide) (by kernel_rfl) (by kernel_rfl) (by decide) hk (fun w' _=>vIA (t:=35) (x:=.tmp 54) (i:=.tmp 55) (e:=2) (by kernel_rfl) (hk.ev rfl) (hk.ev rfl) ⟨SR _,Ul.2 hj⟩ (by kernel_rfl)) (fun a hk=>?_)
 refine cE (i:=13) (d:=57) (v:=.pointer (some ⟨bC,0+k*2+1,none⟩)) (o:=opN cR10 13) [14,15,18] (by kernel_rfl) (by kernel_rfl) (by kernel_rfl) (by decide) (by kernel_rfl) (by kernel_rfl) (by decide) hk (fun w' _=>vFA (t:=46) (x:=.tmp 56) (i:=1) (k:=1) (by kernel_rfl) (hk.ev rfl) (by kernel_rfl)) (fun a hk=>?_);refine cE (i:=14) (d:=58) (v:=u) (o:=opN cR10 14) [15,18] (by kernel_rfl) (by kernel_rfl) (by kernel_rfl) (by decide) (by kernel_rfl) (by kernel_rfl) (by decide) hk (fun w' hs=>wK (t:=44) (x:=.tmp 57) (by kernel_rfl) (hk.ev rfl) ⟨by kernel_rfl,by kernel_rfl⟩ ((az ((hs _ (World.block_lt_of_cell? _ _ h2)).trans (by rw [e1]))).trans h2)) (fun a hk=>?_);refine O3 (i:=15) (d:=59) (o:=opN cR10 15) (x:=.tmp 58) (ts:=#[44]) (by kernel_rfl) (by kernel_rfl) Tryz.func55 (by kernel_rfl) (by kernel_rfl) (by kernel_rfl) (by kernel_rfl) (by decide) hk (by kernel_rfl) (hk.ev rfl) (hC w2 e1 e2 e3 e4) (fun y w' hr b hb=>(hR y w' hr b hb).trans (by rw [e1])) (fun y w' a hR hk=>?_);refine cE (i:=16) (d:=60) (v:=.pointer (some ⟨bC,0+k*2,none⟩)) (o:=opN cR10 16) [17,18] (by kernel_rfl) (by kernel_rfl) (by kernel_rfl) (by decide) (by kernel_rfl) (by kernel_rfl) (by decide) hk (fun w' _=>vIA (t:=35) (x:=.tmp 48) (i:=.tmp 49) (e:=2) (by kernel_rfl) (hk.ev rfl) (hk.ev rfl) ⟨SR _,Ul.2 hj⟩ (by kernel_rfl)) (fun a hk=>?_);refine cE (i:=17) (d:=61) (v:=.pointer (some ⟨bC,0+k*2+1,none⟩)) (o:=opN cR10 17) [18] (by kernel_rfl) (by kernel_rfl) (by kernel_rfl) (by decide) (by kernel_rfl) (by kernel_rfl) (by decide) hk (fun w' _=>vFA (t:=46) (x:=.tmp 60) (i:=1) (k:=1) (by kernel_rfl) (hk.ev rfl) (by kernel_rfl)) (fun a hk=>?_);obtain ⟨z,hz1,hz2,hz3⟩:=hz _ _ hR;refine Mx (o:=opN cR10 18) (v:=y) (t:=44) (x:=.tmp 61) (y:=.tmp 59) (by kernel_rfl) (by kernel_rfl) (by kernel_rfl) (by kernel_rfl) (by kernel_rfl) (hk.ev rfl) (hk.ev rfl) ⟨by kernel_rfl,by kernel_rfl⟩ hz3 hz1 (jU hz2) ?_;exact Qh (by kernel_rfl) (h _ _ _ hR (hk.sub2 ⟨rfl,rfl,rfl,rfl,rfl,rfl,trivial⟩))
theorem Sk {a:Act} {w:World} {Q:Exit->Act->World->Prop} {nB cB bB i nC k:Nat} (hk:KT 65 [(3,.slice (some ⟨bB,0,none⟩) nB cB),(9,.int .i64 (nB:Nat)),(10,.int .i64 (i:Int)),(4,.int .i64 (i:Int)),(40,.int .i64 (nC:Nat)),(41,.int .i64 (k:Int))] a) (hm:(Lit.int .i64 (k:Int)).wf=true) (hw:IntKind.i64.wrap ((k:Int)+1)=((k+1:Nat):Int)) (h:∀ a,KT 65 [(3,.slice (some ⟨bB,0,none⟩) nB cB),(9,.int .i64 (nB:Nat)),(10,.int .i64 (i:Int)),(4,.int .i64 (i:Int)),(40,.int .i64 (nC:Nat)),(41,.int .i64 ((k+1:Nat):Int))] a->Q .normal a w):cR11.wp Tryz.prog Q a w:=by
 refine dC (id:=11) (l:=[opN cR11 0,opN cR11 1]) (by kernel_rfl) ?_;refine wpV (d:=62) (v:=.int .i64 ((k+1:Nat):Int)) (by kernel_rfl) (by kernel_rfl) (by decide) hk (RI (t:=3) (x:=.tmp 41) (y:=.const (.int .i64 1)) (z:=3) (by kernel_rfl) (hk.ev rfl) rfl hm (by decide) hw) (fun a hk=>?_);refine wpV (d:=41) (v:=.int .i64 ((k+1:Nat):Int)) (by kernel_rfl) (by kernel_rfl) (by decide) hk (cQ (x:=.tmp 62) (by kernel_rfl) (hk.ev rfl)) (fun a hk=>?_);exact wpList_nil (h _ (hk.sub2 ⟨rfl,rfl,rfl,rfl,rfl,rfl,trivial⟩))
theorem Su {a:Act} {w:World} {Q:Exit->Act->World->Prop} {nB cB i:Nat} {aB:Option Addr} (hk:KT 65 [(3,.slice aB nB cB),(9,.int .i64 (nB:Nat)),(10,.int .i64 (i:Int))] a) (hm:(Lit.int .i64 (i:Int)).wf=true) (hw:IntKind.i64.wrap ((i:Int)+1)=((i+1:Nat):Int)) (h:∀ a,KT 65 [(3,.slice aB nB cB),(9,.int .i64 (nB:Nat)),(10,.int .i64 ((i+1:Nat):Int))] a->Q .normal a w):cR12.wp Tryz.prog Q a w:=by
 refine dC (id:=12) (l:=[opN cR12 0,opN cR12 1]) (by kernel_rfl) ?_;refine wpV (d:=63) (v:=.int .i64 ((i+1:Nat):Int)) (by kernel_rfl) (by kernel_rfl) (by decide) hk (RI (t:=3) (x:=.tmp 10) (y:=.const (.int .i64 1)) (z:=3) (by kernel_rfl) (hk.ev rfl) rfl hm (by decide) hw) (fun a hk=>?_);refine wpV (d:=10) (v:=.int .i64 ((i+1:Nat):Int)) (by kernel_rfl) (by kernel_rfl) (by decide) hk (cQ (x:=.tmp 63) (by kernel_rfl) (hk.ev rfl)) (fun a hk=>?_);exact wpList_nil (h _ (hk.sub2 ⟨rfl,rfl,rfl,trivial⟩))
theorem Sy {a:Act} {w:World} {Q:Exit->Act->World->Prop} {nB cB:Nat} {aB:Option Addr} (hk:KT 65 [(3,.slice aB nB cB)] a)  (h:∀ a,KT 65 [(2,.slice aB nB cB)] a->Q .normal a w):cR13.wp Tryz.prog Q a w:=by
 refine dC (id:=13) (l:=[opN cR13 0,opN cR13 1]) (by kernel_rfl) ?_;refine wpV (d:=64) (v:=.slice aB nB cB) (by kernel_rfl) (by kernel_rfl) (by decide) hk (cQ (x:=.tmp 3) (by kernel_rfl) (hk.ev rfl)) (fun a hk=>?_);refine wpV (d:=2) (v:=.slice aB nB cB) (by kernel_rfl) (by kernel_rfl) (by decide) hk (jy (x:=.tmp 64) (by kernel_rfl) (hk.ev rfl)) (fun a hk=>?_);exact wpList_nil (h _ (hk.sub2 ⟨rfl,trivial⟩))
end Go.Am
end

section
namespace Go.Am
open Go Go.RowKit Go.Proofs
set_option maxRecDepth 100000
abbrev frz (n:Nat):List Sh:=List.replicate n .fr
abbrev gW:List Sh:=[.fr,.ow (frz 4)]
abbrev nu:List Sh:=[.fr,.ow gW,.fr,.fr,.fr,.fr,.fr,.ow (frz 1),.fr]
def Mb (p:List D):Prop:=∃ I,p[1]? = some (.li I)/\eN 4 I/\I.length<=1000000
def yp (r:List D):Prop:=(∃ L,r[7]? = some (.li L)/\eN 1 L/\L.length<=1000000)/\∃ Q,r[1]? = some (.li Q)/\eN 2 Q/\Q.length<=1000000/\∀ p∈Q,Mb p
structure Cst (w0 w:World) (f:Fp):Prop where
 le:∀ b,f b<=1
 rng:∀ b,f b≠0->w0.heap.size<=b/\b<w.heap.size
 bl:Below w0.heap.size w0 w
theorem agB {w0 w:World} {H:FH} (hag:∀ b o y,H b o=some y->w0.cell? ⟨b,o,none⟩=some y) (hb:Below w0.heap.size w0 w):∀ b o y,H b o=some y->w.cell? ⟨b,o,none⟩=some y:=fun b o y h=>by
 have h:=hag b o y h
 rw [az (hb.block b (World.block_lt_of_cell? _ _ h))];exact h
theorem Pg {H:FH} {u y:Value} (h:FDx H (.v u) y):y=u:=by
 obtain ⟨m,h⟩:=h;cases m <;> exact h.1
theorem ClR.same {w w2 w':World} {H:FH} {n:Nat} {L:List (List D)} {y:Value} (h1:w2.heap=w.heap) (h2:w2.os=w.os) (h3:w2.tape=w.tape) (h4:w2.output=w.output) (h:ClR w2 H n L y w'):ClR w H n L y w':=by
 obtain ⟨⟨a1,a2,a3,a4,a5⟩,m,g,b1,b2,b3⟩:=h;exact ⟨⟨a1.trans h2,a2.trans h3,a3.trans h4,by rw [<- h1]; exact a4,fun k hk=>by rw [a5 k (by rw [h1]; exact hk),h1]⟩,m,g,b1,b2,fun b hb=>by rw [<- h1]; exact b3 b hb⟩
section
variable {w0 w w':World} {H:FH} {R:List (List Sh)} {rows:List (List D)} {q c:Nat} {f e:Fp} {ad:Option Addr}
theorem Mw (h:OM w H R rows q f ad c) (hR:∀ s∈R,s.length=q) (hl:R.length=rows.length) {i j:Nat} (hi:i<rows.length) (hj:j<q) (hst:Cst w0 w (fun b=>f b+e b)) (hb:Below w.heap.size w w') {s':Sh} {x':D} {m:Nat} {g:Fp} {y:Value} (hy:OD w' H m s' x' g y) (hs:x'.sure=true) (hg1:∀ b,g b<=1) (hg:∀ b,g b≠0->w.heap.size<=b/\b<w'.heap.size) :
  ∃ B,ad=some ⟨B,0,none⟩/\(∃ z,w'.cell? ⟨B,i*q+j,none⟩=some z/\Thawed w' B/\gc y=true)/\∃ f',OM (w'.setCell ⟨B,i*q+j,none⟩ y) H (R.set i ((R.getD i []).set j s')) (rows.set i ((rows.getD i []).set j x')) q f' ad c /\
   Cst w0 (w'.setCell ⟨B,i*q+j,none⟩ y) (fun b=>f' b+e b)/\(∀ b,e b≠0->(w'.setCell ⟨B,i*q+j,none⟩ y).heap[b]? = w.heap[b]?)/\f B≠0/\∀ b,f' b<=f b+g b:=by
 have hf1:∀ b,f b<=1:=fun b=>by have:=hst.le b; (try dsimp only at *); omega
 have hflt:∀ b,f b≠0->b<w.heap.size:=fun b hb=>(hst.rng b (by (try dsimp only); omega)).2
 obtain ⟨B,e1,e2,⟨z,e3⟩,e4,f',e5,e6⟩:=h.put hR hl hi hj hf1 hflt hb hy (fun b hb=>(hg b hb).1);have hBr:=hst.rng B (by (try dsimp only); omega)
 refine ⟨B,e1,⟨z,e3,e4,Lx hs hy⟩,f',e5,⟨fun b=>?_,fun b hb'=>?_,?_⟩,fun b hb'=>?_,e2,e6⟩
 ·have h1:=e6 b; have h2:=hst.le b; have h3:=hg b; have h4:=hst.rng b; have h5:=hg1 b
  (try dsimp only at *)
  omega
 ·have h1:=e6 b; have h3:=hg b; have h4:=hst.rng b; have h5:=hb.size
  rw [World.size_setCell];have hw0:=hst.bl.size
  (try dsimp only at *)
  omega
 ·refine (hst.bl.trans ⟨hb.os,hb.tape,hb.output,hb.size,fun k hk=>hb.block k (by have:=hst.bl.size; omega)⟩).trans ⟨rfl,rfl,rfl,by rw [World.size_setCell]; exact SN _,fun k hk=>bj (by omega)⟩
 ·have h2:=hst.le b
  have h4:=hst.rng b (by (try dsimp only); omega)
  (try dsimp only at *)
  rw [bj (fun h=>by subst h; omega)];exact hb.block b h4.2
theorem t8 (h:OM w H R rows q f ad c) (hR:∀ s∈R,s.length=q) (hl:R.length=rows.length) {i j n:Nat} (hi:i<rows.length) (hj:j<q) (hst:Cst w0 w (fun b=>f b+e b)) {L:List (List D)} (hx:(rows.getD i [])[j]? = some (.li L)) {y:Value} (hc:ClR w H n L y w') :
  ∃ B,ad=some ⟨B,0,none⟩/\(∃ z,w'.cell? ⟨B,i*q+j,none⟩=some z/\Thawed w' B/\gc y=true)/\∃ f',OM (w'.setCell ⟨B,i*q+j,none⟩ y) H (R.set i ((R.getD i []).set j (.ow (frz n)))) rows q f' ad c /\
   Cst w0 (w'.setCell ⟨B,i*q+j,none⟩ y) (fun b=>f' b+e b)/\(∀ b,e b≠0->(w'.setCell ⟨B,i*q+j,none⟩ y).heap[b]? = w.heap[b]?)/\f B≠0:=by
 obtain ⟨hb,m,g,h1,h2,h3⟩:=hc;have:=Mw h hR hl hi hj hst hb h1 rfl h2 h3
 rw [qU hx] at this;obtain ⟨B,c1,c2,f',c3,c4,c5,c6,_⟩:=this;exact ⟨B,c1,c2,f',c3,c4,c5,c6⟩
end
theorem Cq {α:Type} {l:List (List α)} {i:Nat} {x:List α} (h:i<l.length):(l.set i x).getD i []=x:=by simp [List.getD,h]
theorem Cst.zero {w0 w:World} {f:Fp} (h:Cst w0 w f):Cst w0 w (fun b=>f b+0):=h
section
variable {w0:World} {H:FH} (hag:∀ b o y,H b o=some y->w0.cell? ⟨b,o,none⟩=some y)
include hag
theorem cp2 {nB cB bB i:Nat} {rows:List (List D)} {R:List (List Sh)} (hi:i<nB) (hlen:rows.length=nB) (hR:∀ s∈R,s.length=9) (hRl:R.length=nB) {Ps:List (List D)} {aC:Option Addr} {cC:Nat} {fB fC:Fp}
  (hs:(R.getD i [])[1]? = some .fr) (hx:(rows.getD i [])[1]? = some (.v (.slice aC Ps.length cC))) {a:Act} {w:World}
  (hB:OM w H R rows 9 fB (some ⟨bB,0,none⟩) cB) (hCm:OM w H (List.replicate Ps.length (frz 2)) Ps 2 fC aC cC) (hst:Cst w0 w (fun b=>fC b+fB b)) (hP:∀ p∈Ps,Mb p) (hPn:Ps.length<=1000000)
  (hk:KT 65 [(3,.slice (some ⟨bB,0,none⟩) nB cB),(9,.int .i64 (nB:Nat)),(10,.int .i64 (i:Int)),(4,.int .i64 (i:Int))] a) {Q:Exit->Act->World->Prop}
  (hQ:∀ a w fC',KT 65 [(3,.slice (some ⟨bB,0,none⟩) nB cB),(9,.int .i64 (nB:Nat)),(10,.int .i64 (i:Int))] a->OM w H R rows 9 fB (some ⟨bB,0,none⟩) cB->OM w H (List.replicate Ps.length gW) Ps 2 fC' aC cC->Cst w0 w (fun b=>fC' b+fB b)->Q .normal a w):cx4.wp Tryz.prog Q a w:=by
 have e1:0+i*9+1=i*9+1:=by omega
 have ldB:∀ {w fB},OM w H R rows 9 fB (some ⟨bB,0,none⟩) cB->w.cell? ⟨bB,0+i*9+1,none⟩=some (.slice aC Ps.length cC):=fun hB=>by
  obtain ⟨B,e,s,x,v,m,fk,fr,a1,a2,a3,a4,_⟩:=hB.row hR (by omega) (i:=i) (j:=1) (by omega) (by omega);obtain rfl:bB=B:=by simpa using e
  rw [hs] at a1; rw [hx] at a2;obtain rfl:=Option.some.inj a1;obtain rfl:=Option.some.inj a2;rw [Pg (cw.1 a4).2] at a3;rw [e1]; exact a3
 refine ej (x:=cR7) (y:=.block 2 (.loop cb2)) (by kernel_rfl) ?_;refine cg7 hi hk (ldB hB) (fun a hk=>?_);refine Gh (c:=.loop cb2) (id:=2) rfl ?_;refine Lp (I:=fun (k:Nat) a w=>KT 65 [(3,.slice (some ⟨bB,0,none⟩) nB cB),(9,.int .i64 (nB:Nat)),(10,.int .i64 (i:Int)),(4,.int .i64 (i:Int)),(40,.int .i64 (Ps.length:Nat)),(41,.int .i64 (k:Int))] a /\
   ∃ fC,OM w H R rows 9 fB (some ⟨bB,0,none⟩) cB/\OM w H (Rn Ps.length k gW (frz 2)) Ps 2 fC aC cC/\Cst w0 w (fun b=>fC b+fB b)) (N:=Ps.length) (i0:=0) ⟨hk,fC,hB,by rw [RA]; exact hCm,hst⟩ (Tf _) ?_
 clear hk hB hCm hst;rintro k a w hkn ⟨hk,fC,hB,hCm,hst⟩
 refine ej (x:=cR8) (y:=.seq (.cond (.tmp 42) .skip (.exit 2)) cc2) (by kernel_rfl) ?_;refine cg8 hk (p7 (by show _<=4611686018427387904; omega)) (p7 (by show _<=4611686018427387904; omega)) (fun a hk=>?_);refine ej rfl ?_;by_cases hl:k<Ps.length
 ·refine wp_cond_true (by rw [hk.ev (i:=42) rfl]; simp [hl]) (wp_skip ?_);refine ej (x:=.block 3 cy1) (y:=cR11) (by kernel_rfl) ?_;refine Gh (c:=cy1) (id:=3) rfl ?_;refine ej (x:=cR9) (y:=cR10) (by kernel_rfl) ?_;refine cg9 (hk.sub2 ⟨rfl,rfl,rfl,rfl,rfl,rfl,trivial⟩) (fun a hk=>?_);have hRm:=Lw (n:=Ps.length) (i:=k) (s:=gW) (z:=frz 2) rfl
  have hRl2:(Rn Ps.length k gW (frz 2)).length=Ps.length:=MW (by omega)
  obtain ⟨bC,rfl,s,x,u,m,fk,fr,a1,a2,a3,a4,_⟩:=hCm.row hRm hRl2 (i:=k) (j:=1) hl (by decide);rw [yU hl] at a1;obtain rfl:=Option.some.inj a1;have hpk:Ps.getD k []=Ps[k]:=by simp [List.getD,hl]
  obtain ⟨I,b1,b2,b3⟩:=hP _ (Tk hl);rw [<- hpk] at b1;rw [b1] at a2;obtain rfl:=Option.some.inj a2;have e2:0+k*2+1=k*2+1:=by omega
  refine SG hi hl hk (ldB hB) (by rw [e2]; exact a3) (R:=ClR w H 4 I) (fun w2 h1 h2 h3 h4=>?_) (fun y w' hc b hb=>hc.1.block b hb) (fun y w' hc=>?_) (fun y w' a hc hk=>?_)
  ·refine Calls.mono (ccI (H:=H) (rows:=I) (cw.1 a4).2 (fun b o y h=>?_) b2 b3) (fun e w' ⟨y,h5,h6⟩=>⟨y,h5,h6.same h1 h2 h3 h4⟩);exact (az (w':=w2) (by rw [h1])).trans (agB hag hst.bl b o y h)
  ·obtain ⟨B,c1,c2,_⟩:=t8 hCm hRm hRl2 (n:=4) hl (j:=1) (by decide) hst b1 hc;obtain rfl:bC=B:=by simpa using c1
   rw [e2]; exact c2
  ·obtain ⟨B,c1,c2,f',c3,c4,c5,_⟩:=t8 hCm hRm hRl2 (n:=4) hl (j:=1) (by decide) hst b1 hc;obtain rfl:bC=B:=by simpa using c1
   rw [e2];refine Sk hk (p7 (by show _<=4611686018427387904; omega)) (Bn (by show _ < 4611686018427387904; omega)) (fun a hk=>?_);refine ⟨hl,hk,f',hB.frame c5,?_,c4⟩;rw [<- LM hl];rw [yU hl] at c3;exact c3
 ·refine wp_cond_false (by rw [hk.ev (i:=42) rfl]; simp [hl]) (wp_exit ?_);have hkk:k=Ps.length:=by omega
  subst hkk;rw [Rz] at hCm;exact (if_pos rfl).mpr (hQ _ _ _ (hk.sub2 ⟨rfl,rfl,rfl,trivial⟩) hB hCm hst)
theorem cp1 {nB cB:Nat} {aB:Option Addr} {rows:List (List D)} (hlen:rows.length=nB) (hnB:nB<=1000000) (hok:∀ r∈rows,yp r) {fB:Fp} {a:Act} {w:World} (hB:OM w H (List.replicate nB (frz 9)) rows 9 fB aB cB) (hst:Cst w0 w fB)
  (hk:KT 65 [(3,.slice aB nB cB)] a) {Q:Exit->Act->World->Prop} (hQ:∀ a w fB,KT 65 [(3,.slice aB nB cB)] a->OM w H (List.replicate nB nu) rows 9 fB aB cB->Cst w0 w fB->Q .normal a w):cqL.wp Tryz.prog Q a w:=by
 refine ej (x:=cR2) (y:=.block 0 (.loop cb1)) (by kernel_rfl) ?_;refine cg2 hk (fun a hk=>?_);refine Gh (c:=.loop cb1) (id:=0) rfl ?_;refine Lp (I:=fun (i:Nat) a w=>KT 65 [(3,.slice aB nB cB),(9,.int .i64 (nB:Nat)),(10,.int .i64 (i:Int))] a/\∃ fB,OM w H (Rn nB i nu (frz 9)) rows 9 fB aB cB/\Cst w0 w fB) (N:=nB) (i0:=0) ⟨hk,fB,by rw [RA]; exact hB,hst⟩ (Tf _) ?_;clear hk hB hst;rintro i a w hin ⟨hk,fB,hB,hst⟩
 refine ej (x:=cR3) (y:=.seq (.cond (.tmp 11) .skip (.exit 0)) cc1) (by kernel_rfl) ?_;refine cg3 hk (p7 (by show _<=4611686018427387904; omega)) (p7 (by show _<=4611686018427387904; omega)) (fun a hk=>?_);refine ej rfl ?_;by_cases hi:i<nB
 ·refine wp_cond_true (by rw [hk.ev (i:=11) rfl]; simp [hi]) (wp_skip ?_);refine ej (x:=.block 1 cx1) (y:=cR12) (by kernel_rfl) ?_;refine Gh (c:=cx1) (id:=1) rfl ?_;refine ej (x:=cR4) (y:=cx2) (by kernel_rfl) ?_;refine cg4 (hk.sub2 ⟨rfl,rfl,rfl,trivial⟩) (fun a hk=>?_);have hRm:=Lw (n:=nB) (i:=i) (s:=nu) (z:=frz 9) rfl
  have hRl:(Rn nB i nu (frz 9)).length=rows.length:=by rw [MW (by omega),hlen]
  have hi':i<rows.length:=by omega
  have hrk:rows.getD i []=rows[i]:=by simp [List.getD,hi']
  obtain ⟨⟨L,l1,l2,l3⟩,Q0,q1,q2,q3,q4⟩:=hok _ (Tk hi');rw [<- hrk] at l1 q1;obtain ⟨bB,rfl,s,x,u,m,fk,fr,a1,a2,a3,a4,_⟩:=hB.row hRm hRl (i:=i) (j:=7) hi' (by decide);rw [yU hi] at a1;obtain rfl:=Option.some.inj a1;rw [l1] at a2;obtain rfl:=Option.some.inj a2;have e7:0+i*9+3+4=i*9+7:=by omega
  have e1:0+i*9+1=i*9+1:=by omega
  refine ej (x:=cR5) (y:=cx3) (by kernel_rfl) ?_;refine cg5 hi hk (by rw [e7]; exact a3) (ccS (cw.1 a4).2 (agB hag hst.bl) l2 l3) (fun y w' hc=>?_) (fun y w' a hc hk=>?_)
  ·obtain ⟨B,c1,c2,_⟩:=t8 hB hRm hRl (n:=1) hi' (j:=7) (by decide) hst.zero l1 hc;obtain rfl:bB=B:=by simpa using c1
   rw [e7]; exact c2
  obtain ⟨B,c1,c2,f1,hB1,hst1,_⟩:=t8 hB hRm hRl (n:=1) hi' (j:=7) (by decide) hst.zero l1 hc;obtain rfl:bB=B:=by simpa using c1
  rw [e7];generalize w'.setCell ⟨bB,i*9+7,none⟩ y=w at hB1 hst1 ⊢;rw [yU hi] at hB1;generalize hR1:(Rn nB i nu (frz 9)).set i ((frz 9).set 7 (.ow (frz 1)))=R1 at hB1;have hR1g:R1.getD i []=(frz 9).set 7 (.ow (frz 1)):=by rw [<- hR1]; exact Cq (by omega)
  have hR1m:∀ s∈R1,s.length=9:=by
   intro s hs;rw [<- hR1] at hs;rcases List.mem_or_eq_of_mem_set hs with h | h
   ·exact hRm s h
   ·rw [h]; rfl
  have hR1l:R1.length=rows.length:=by rw [<- hR1]; simpa using hRl
  obtain ⟨B,c1,s,x,u2,m2,fk,fr,a1,a2,a3,a4,_⟩:=hB1.row hR1m hR1l (i:=i) (j:=1) hi' (by decide);obtain rfl:bB=B:=by simpa using c1
  rw [hR1g] at a1;obtain rfl:=Option.some.inj a1;rw [q1] at a2;obtain rfl:=Option.some.inj a2;refine ej (x:=cR6) (y:=cx4) (by kernel_rfl) ?_;refine cg6 hi hk (by rw [e1]; exact a3) (ccP (cw.1 a4).2 (agB hag hst1.bl) q2 q3) (fun y w' hc=>?_) (fun v1 w' a hc hk=>?_)
  ·obtain ⟨B,c1,c2,_⟩:=t8 hB1 hR1m hR1l (n:=2) hi' (j:=1) (by decide) hst1 q1 hc;obtain rfl:bB=B:=by simpa using c1
   rw [e1]; exact c2
  obtain ⟨hbl,m3,g,hod,hg1,hg⟩:=hc;obtain ⟨aC,cC,rfl,hC⟩:=Pu hod;obtain ⟨B,c1,_,f2,hB2,hst2,_,hfB,hf2⟩:=Mw hB1 hR1m hR1l hi' (j:=1) (by decide) hst1 hbl (s':=.fr) (x':=.v (.slice aC Q0.length cC)) (m:=1) (g:=fun _=>0) (y:=.slice aC Q0.length cC) (cw.2 ⟨fun _=>rfl,0,rfl,rfl⟩) rfl (fun _=>Tf _) (fun b hb=>absurd rfl hb);obtain rfl:bB=B:=by simpa using c1
  rw [e1];have hB0:=(hst1.rng bB (by (try dsimp only); omega)).2
  have hgB:g bB=0:=by
   rcases S7 (g bB) with h | h
   ·exact h
   ·have:=(hg bB (by omega)).1; omega
  have hC2:=hC.frame (w':=w'.setCell ⟨bB,i*9+1,none⟩ (.slice aC Q0.length cC)) (fun b hb=>bj (fun e=>hb (by rw [e]; exact hgB)))
  have hst3:Cst w0 (w'.setCell ⟨bB,i*9+1,none⟩ (.slice aC Q0.length cC)) (fun b=>g b+f2 b):=by
   refine ⟨fun b=>?_,fun b hb=>?_,hst2.bl⟩
   ·have h1:=hg b; have h2:=hst1.rng b; have h3:=hf2 b; have h4:=hst2.le b; have h5:=hg1 b
    (try dsimp only at *)
    omega
   ·have h1:=hg b; have h2:=hst2.rng b; have h3:=hst1.bl.size
    rw [World.size_setCell] at h2 ⊢
    (try dsimp only at *)
    omega
  have hs1:(R1.getD i [])[1]? = some .fr:=by rw [hR1g]; rfl
  rw [qU hs1] at hB2;have h1len:1 < (rows.getD i []).length:=(Tl.1 q1).1
  have hg2:(rows.set i ((rows.getD i []).set 1 (.v (.slice aC Q0.length cC)))).getD i []=(rows.getD i []).set 1 (.v (.slice aC Q0.length cC)):=Cq hi'
  have hx2:((rows.set i ((rows.getD i []).set 1 (.v (.slice aC Q0.length cC)))).getD i [])[1]? = some (.v (.slice aC Q0.length cC)):=by
   rw [hg2,S8 h1len]
  refine cp2 hag hi (by simpa using hlen) hR1m (by omega) hs1 hx2 hB2 hC2 hst3 q4 q3 hk (fun a w fC' hk hB hC hst=>?_);obtain ⟨m4,hod4⟩:=hC.od;obtain ⟨B,c1,s,x,u3,m5,fk,fr,a1,a2,a3,a4,a5,_,_,a8,_⟩:=hB.row hR1m (by simpa using hR1l) (i:=i) (j:=1) (by simpa using hi') (by decide);rw [hs1] at a1;obtain rfl:=Option.some.inj a1;rw [hx2] at a2;obtain rfl:=Option.some.inj a2;obtain rfl:=Pg (cw.1 a4).2;have hz:=(cw.1 a4).1
  have hB3:=a8 (.ow gW) (.li Q0) fC' m4 hod4
  rw [hg2,hR1g,TU,TU,qU q1,<- hR1,TU] at hB3;refine Su hk (p7 (by show _<=4611686018427387904; omega)) (Bn (by show _ < 4611686018427387904; omega)) (fun a hk=>⟨hi,hk,fun b=>fC' b+f2 b,?_,?_⟩)
  ·rw [<- LM hi];rw [show (fun b=>fC' b+fr b)=fun b=>fC' b+f2 b from funext (fun b=>by have:=a5 b; have:=hz b; omega)] at hB3;exact hB3
  ·exact hst
 ·refine wp_cond_false (by rw [hk.ev (i:=11) rfl]; simp [hi]) (wp_exit ?_);have hkk:i=nB:=by omega
  subst hkk;rw [Rz] at hB;exact (if_pos rfl).mpr (hQ _ _ _ (hk.sub2 ⟨rfl,trivial⟩) hB hst)
theorem oO {rows:List (List D)} {v:Value} (hv:FDx H (.li rows) v) (hok:∀ r∈rows,yp r) (hrows:eN 9 rows) (hbig:rows.length<=1000000) :
  Calls Tryz.prog Ru #[v] w0 (fun e w'=>∃ y,e=.returned y/\∃ m g,OD w' H m (.ow nu) (.li rows) g y/\Cst w0 w' g):=by
 refine vt (args:=[v]) (c:=cq0) Qk (by kernel_rfl) w0 (fun y w'=>∃ m g,OD w' H m (.ow nu) (.li rows) g y/\Cst w0 w' g) (show 1<=cpF.ntmps by decide +kernel) (fun a0 hn0 hd0 ht0=>?_);have hk:=Pi (nt:=65) (l:=[(0,v)]) (hn0.trans (by kernel_rfl)) hd0 (fun x hx=>by obtain rfl:=SY.1 hx; exact ht0 0 v rfl)
 refine ej (x:=cR0) (y:=cq1) (by kernel_rfl) ?_;refine cg0 hk (fun a hk=>?_);refine ej (x:=cR1) (y:=cq2) (by kernel_rfl) ?_;refine cg1 hk (ccB hv hag hrows hbig) (fun y w a hc hk=>?_);obtain ⟨hbl,m,g,hod,hg1,hg⟩:=hc;obtain ⟨aB,cB,rfl,hB⟩:=Pu hod;refine ej (x:=cqL) (y:=cqT) (by kernel_rfl) ?_;refine cp1 hag rfl hbig hok hB ⟨hg1,hg,hbl⟩ hk (fun a w fB hk hB hst=>?_);refine ej (x:=cR13) (y:=.ret) (by kernel_rfl) ?_;refine Sy hk (fun a hk=>?_);obtain ⟨m,hod⟩:=hB.od;exact wp_ret ⟨.inr rfl,hk.df,_,yc (nt:=65) (show cpF.results=#[.tmp 2] by kernel_rfl) hk rfl (by decide),m,fB,hod,hst⟩
end
end Go.Am
end

section
namespace Go.Am
open Go Go.Proofs
def EL (sh:List Sh) (u:U) (nm:Nm) (pre:List (El u)->Prop):CKt:=fun _ s ops k=>
 let s1:=aX s (ops.map (evA s))
 match bh [.sl u] (ops.map (evA s1)) with
 | some l=>pre l/\k ((s1.fresh nm).root nm ⟨false,[.ow sh u l],none⟩) (.one (.c (.rf ⟨nm,0,[]⟩)))
 | none=>False
def QI (sh:List Sh) (u:U) (nm:Nm) (pb:List (El u)->Bool):CKb:=fun s ops k=>
 let s1:=aX s (ops.map (evA s))
 match bh [.sl u] (ops.map (evA s1)) with
 | some l=>match pb l with
  | true=>k ((s1.fresh nm).root nm ⟨false,[.ow sh u l],none⟩) (.one (.c (.rf ⟨nm,0,[]⟩)))
  | false=>false
 | none=>false
theorem OB {sh:List Sh} {u:U} {nm:Nm} {pb:List (El u)->Bool} {pre:List (El u)->Prop} (hp:∀ l,pb l=true->pre l):qj (QI sh u nm pb) (EL sh u nm pre):=by
 intro pk s ops kb k hk h;unfold QI at h;unfold EL;dsimp only at h ⊢;split at h
 ·split at h
  ·rename_i hb; exact ⟨hp _ hb,hk _ _ h⟩
  ·cases h
 ·cases h
section
variable {P:Program}
theorem Dd {f:Nat} {fn:Func} {sh:List Sh} {u:U} {nm:Nm} (hno:nm.isOut=false) {pre:List (El u)->Prop} (hf:P.funcs[f]? = some fn) (hname:(fn.name == "runtime.NumGoroutine")=false) (hb:fn.body.isSome=true)
  (hbody:∀ (l:List (El u)) (v:Value) (w:World) (H:FH),pre l->FDx H (.li (l.map (ai u))) v->(∀ b o y,H b o=some y->w.cell? ⟨b,o,none⟩=some y) ->
   Calls P f #[v] w (fun e w'=>∃ y,e=.returned y/\∃ m g,OD w' H m (.ow sh) (.li (l.map (ai u))) g y/\Cst w w' g)):Cont P f (EL sh u nm pre):=by
 refine ⟨fun args w=>fP hf hname hb args w,fun pk s ops k k' hk hc=>?_,fun g pk s a w H γ F1 ops k hX hops hc=>?_⟩
 ·unfold EL at hc ⊢;dsimp only at hc ⊢;split at hc
  ·exact ⟨hc.1,hk _ _ ((bG _ _).trans ((bx _ _).trans (ce _ _ _))) hc.2⟩
  ·exact hc.elim
 ·unfold EL at hc;dsimp only at hc;obtain ⟨H1,F2,h1⟩:=bT (ops.map (evA s)) s H F1 hX;generalize aX s (ops.map (evA s))=s1 at hc h1;split at hc
  ·rename_i l hl;obtain ⟨c1,c2,c3⟩:=cr hl
   match ops,hl,hops,c1,c2,c3 with
   | [],hl,_,_,_,_=>simp [bh] at hl
   | _::_::_,hl,_,_,_,_=>simp only [List.map_cons,bh] at hl; (repeat' split at hl) <;> simp_all
   | [o],hl,hops,c1,c2,c3=>
    have ho:ay o=true:=by simpa using hops
    have hv:=aD h1 ho
    rw [af ho] at hv;simp only [List.map_cons,List.map_nil,S6,List.all_nil,Um] at c1 c2 c3;have hv2:=cZ (w:=w) (w':=w) bK (gY (w':=w) (γ':=fun _=>.blk 0) (m':=[]) (fun _ _ _ h=>h) c2 hv)
    have e0:(evA s1 o).toV.map T.canon=(sk (.sl u) l).toV:=by
     have:=(List.cons.inj c3).1
     exact this
    rw [e0] at hv2;have hfd:FDx H1 (.li (l.map (ai u))) (a.eval o):=hv2.2
    refine Calls.mono (hbody l (a.eval o) w H1 hc.1 hfd h1.mem.agree) ?_;rintro e w' ⟨y,rfl,m,gf,hod,hst⟩
    have hX2:=pG h1 hst.bl.size hst.bl.os hst.bl.tape hst.bl.output (fun b hb=>.inl (hst.bl.block b hb))
    have hX3:=bU hX2 nm
    have hn:=bA hX2 nm
    have hHnew:∀ b,w.heap.size<=b->∀ o,H1 b o=none:=by
     intro b hb o;cases hc:H1 b o with
     | none=>rfl
     | some y=>have h9:b<w.heap.size:=World.block_lt_of_cell? _ _ (h1.mem.agree _ _ _ hc); omega
    have hts:∀ b,tot F2 (s1.toS.fresh nm).m b<=tot F2 s1.toS.m b:=by
     intro b;unfold S.fresh;split
     ·exact SN _
     ·show tot F2 (au _ _) b<=_
      rw [aM]; exact dh
    have htz:∀ b,w.heap.size<=b->tot F2 s1.toS.m b=0:=fun b hb=>by
     rcases S7 (tot F2 s1.toS.m b) with h' | h'
     ·exact h'
     ·have:=h1.mem.lt b (by omega); omega
    obtain ⟨γ',F',hX4,hγ⟩:=di hX3 (n:=nm) hno hn (v:=y) (t:=.ow sh (l.map (ai u))) (f:=gf) ⟨m,hod⟩ (fun b=>by
      have h3:=hts b; have h4:=h1.mem.le1 b; have h5:=hst.le b
      by_cases hb:gf b=0
      ·omega
      ·have:=htz b (hst.rng b hb).1; omega)
     (fun b hb=>⟨(hst.rng b hb).2,hHnew b (hst.rng b hb).1⟩) (fun b hb=>.inr (Th h1.fr.size (hst.rng b hb).1))
    have e2:((s1.fresh nm).root nm ⟨false,[.ow sh u l],none⟩).toS=⟨(s1.toS.fresh nm).t,(nm,⟨false,[.ow sh (l.map (ai u))]⟩)::(s1.toS.fresh nm).m⟩:=by
     rw [<- bk (fd h1)]; rfl
    rw [<- e2] at hX4;refine .inl ⟨y,_,_,H1,γ',F',rfl,hc.2,?_,hX4⟩;refine dD (sub:=sh) (l:=l.map (ai u)) ?_ hγ;show aa ((s1.fresh nm).root nm ⟨false,[.ow sh u l],none⟩).toS.m nm=_
    rw [e2];simp [aa]
  ·exact hc.elim
end
end Go.Am
end

section
namespace Go.Am
open Go Go.Proofs
def iY (P:Program) (s:St):ResultVar->Option (List Tt)
 | .tmp t=>match gtA s.t t with
  | .one (.agg ts)=>some ts
  | _=>none
 | .cell a t=>match gtA s.t a with
  | .one (.c (.pl p))=>match (ty P t).ok&&(ty P t).agg,atT s.m p (ty P t).size with
   | true,some ts=>some (rg p ts)
   | _,_=>none
  | _=>none
def outs (P:Program) (rv:ResultVar):Nat->List Sh->List U->St->Option (List C)
 | _,[],[],_=>some []
 | j,.fr::sh,u::us,s=>match iY P s rv with
  | some ts=>match ts[j]? with
   | some (.d c)=>match outs P rv (j+1) sh us s with
    | some r=>some (c::r)
    | none=>none
   | some .nil=>match u,outs P rv (j+1) sh us s with
    | .sl v,some r=>some (.li v []::r)
    | _,_=>none
   | _=>none
  | none=>none
 | j,.ow sub::sh,.sl v::us,s=>match iY P s rv with
  | some ts=>match ts[j]? with
   | some .nil=>match outs P rv (j+1) sh us s with
    | some r=>some (.li v []::r)
    | none=>none
   | some (.rf q)=>match gZ s v (.one (.c (.rf q))) with
    | some (s1,sub',l)=>match lg sub' sub,outs P rv (j+1) sh us s1 with
     | true,some r=>some (.li v l::r)
     | _,_=>none
    | none=>none
   | _=>none
  | none=>none
 | _,_,_,_=>none
def ghR (i:Nat):List Tt->List Tt
 | []=>[]
 | .ow _ _ _::r=>.rf ⟨.gh i,0,[]⟩::ghR (i+1) r
 | t::r=>t::ghR (i+1) r
def nr (i:Nat):List Tt->St->St
 | [],s=>s
 | .ow sh u l::r,s=>nr (i+1) r (s.root (.gh i) ⟨false,[.ow sh u l],none⟩)
 | _::r,s=>nr (i+1) r s
def lh (i:Nat):List Tt->St->St
 | [],s=>s
 | .ow _ _ _::r,s=>lh (i+1) r (s.fresh (.gh i))
 | _::r,s=>lh (i+1) r s
def FU (ps:List U) (n:Sn) (sh:List Sh) (i:Nat) (pre:Fl ps->Prop) (f:Fl ps->wA n):CKt:=fun _ s ops k=>
 let s1:=aX s (ops.map (evA s))
 match bh ps (ops.map (evA s1)) with
 | some x=>pre x/\k (nr i (ah sh (flat (.st n) (f x))) (lh i (ah sh (flat (.st n) (f x))) s1)) (.one (.agg (ghR i (ah sh (flat (.st n) (f x))))))
 | none=>False
def F8 (P:Program) (res:List ResultVar) (n:Sn) (sh:List Sh) (KK:wA n->Prop) (s:St):Prop:=
 match res with
 | [rv]=>match iY P s rv with
  | some ts=>match Nat.beq ts.length (sd n).fs.length,outs P rv 0 sh (sd n).fs s with
   | true,some cs=>match unflat (.st n) cs with
    | some y=>KK y
    | none=>False
   | _,_=>False
  | none=>False
 | _=>False
def Me (e:En) (fn:Func) (an:An) (ps:List U) (n:Sn) (sh:List Sh) (x:Fl ps) (KK:wA n->Prop):Prop:=
 wpT ⟨e.P,e.E,e.cs,e.sh,fun _ _=>False⟩ an (fn.body.getD .skip) (pc ps x) ⟨F8 e.P fn.results.toList n sh KK,fun _ _=>False,F8 e.P fn.results.toList n sh KK⟩
section
variable {P:Program} {g:G} {a:Act} {w:World} {H:FH}
theorem sE {α β:Type} {R:α->β->Fp->Value->Prop} {s:α} {x:β} {ss:List α} {xs:List β} {f1 f2:Fp} {v:Value} {vs:List Value} {j:Nat} (hv:vs[j]? = some v) (h1:R s x f1 v) (h2:Cs R ss xs f2 (vs.drop (j+1))):Cs R (s::ss) (x::xs) (fun b=>f1 b+f2 b) (vs.drop j):=
 ⟨v,vs.drop (j+1),f1,f2,by rw [Tr (ae hv)]; rw [SK (ae hv)] at hv; rw [Option.some.inj hv],fun _=>rfl,h1,h2⟩
theorem RL {sh:List Sh} {ds:List D} {k k':Nat} {f:Fp} {vs:List Value} (hk:k<=k') (h:Cs (OD w H k) sh ds f vs):Cs (OD w H k') sh ds f vs:=
 fJ _ _ _ _ (fun _ _ _ _ _ h=>be (fun _ _ _ h=>h) k k' _ _ _ _ hk (fun _ _=>rfl) h) h
theorem rE {γ:Gam} {F:Nm->Fp} {s:St} (hX:RX g s.toS a w H γ F) (hex:g.ex=none) {rv:ResultVar} {ts:List Tt} (h:iY P s rv=some ts) :
  ∃ vs,(gV a.tmps rv).run P w=.ok (.agg vs) w/\vs.size=ts.length/\Ts (TR w H γ s.toS.m) (ts.map Tt.toT) (fun _=>0) vs.toList:=by
 have hg:lP P s.toS rv (fun v=>v=(At.one (.agg ts)).toV):=by
  cases rv with
  | tmp t=>
   simp only [iY] at h;split at h
   ·rename_i ts' hgt;cases h;exact fR hgt
   ·cases h
  | cell a' t=>
   simp only [iY] at h;split at h
   ·rename_i p hp;split at h
    ·rename_i ts' hok hat;cases h;simp only [SL] at hok;have hl:jH P s.m t (gtA s.t a') (fun v=>v=.one (.agg (rg p ts'))):=by
      unfold jH;rw [hok.1,hp];dsimp only;rw [hok.2,hat]
     have h2:=tX (m:=s.m) (x:=gtA s.t a') (fun q hq=>G7 ⟨H,γ,F,hX⟩ q a' hq) hl
     simp only [lP];rw [show aE s.toS.t a'=(gtA s.t a').toV from cm a' s.t];refine fl.loadK_mono ?_ h2;rintro _ ⟨v,rfl,rfl⟩
     rfl
    ·cases h
   ·cases h
 obtain ⟨y,v,e1,e2,rfl⟩:=wZ hX hex hg;obtain ⟨vs,rfl,h2,h3⟩:=e2;exact ⟨vs,e1,by simpa using h2,h3⟩
theorem oQ {γ:Gam} {F:Nm->Fp} {s:St} (hX:RX g s.toS a w H γ F) (hex:g.ex=none) {rv:ResultVar} {vs:Array Value} (hv:(gV a.tmps rv).run P w=.ok (.agg vs) w) {ts:List Tt} {j:Nat} {t:Tt} (hg:iY P s rv=some ts) (hj:ts[j]? = some t) :
  ∃ v,vs.toList[j]? = some v/\TR w H γ s.toS.m t.toT (fun _=>0) v:=by
 obtain ⟨vs',e1,_,h3⟩:=rE hX hex hg;rw [hv] at e1;obtain rfl:vs=vs':=by simpa using e1
 obtain ⟨_,v,g',_,h4,h5,h6⟩:=lr h3 (k:=j) (x:=t.toT) (by rw [SM,hj]; rfl);refine ⟨v,h4,?_⟩;have:g'=fun _=>0:=funext fun b=>by have:=h6 b; omega
 rw [<- this]; exact h5
theorem oy {rv:ResultVar} (hex:g.ex=none):∀ (sh:List Sh) (us:List U) (j:Nat) (s:St) (γ:Gam) (F:Nm->Fp) (cs:List C) (vs:Array Value),RX g s.toS a w H γ F->(gV a.tmps rv).run P w=.ok (.agg vs) w->outs P rv j sh us s=some cs ->
  ∃ k f,Cs (OD w H k) sh (cs.map C.toD) f (vs.toList.drop j)/\(∀ b,f b<=tot F s.toS.m b)/\∀ b,f b≠0->b<w.heap.size/\(∀ o,H b o=none)/\(g.own0 b≠0\/g.w0.heap.size<=b)
 | [],[],j,s,γ,F,cs,vs,hX,hv,h=>by
  simp only [outs,SJ] at h;subst h;exact ⟨0,fun _=>0,fun _=>rfl,fun _=>Tf _,fun b hb=>absurd rfl hb⟩
 | .fr::sh,u::us,j,s,γ,F,cs,vs,hX,hv,h=>by
  simp only [outs] at h;split at h
  ·rename_i ts hg;split at h
   ·rename_i c hj;obtain ⟨v,e2,e3⟩:=oQ hX hex hv hg hj;split at h
    ·rename_i r hr;simp only [SJ] at h;subst h;obtain ⟨k,f,k1,k2,k3⟩:=oy hex sh us (j+1) s γ F r vs hX hv hr;exact ⟨k,fun b=>(fun _=>0) b+f b,sE e2 (cw.2 ⟨fun _=>rfl,e3.2⟩) k1,fun b=>by have:=k2 b; dsimp only; omega,fun b hb=>k3 b (by dsimp only at hb; omega)⟩
    ·cases h
   ·rename_i hj;obtain ⟨v,e2,e3⟩:=oQ hX hex hv hg hj;split at h
    ·rename_i v' r hr;simp only [SJ] at h;subst h;obtain ⟨k,f,k1,k2,k3⟩:=oy hex sh us (j+1) s γ F r vs hX hv hr;obtain ⟨_,rfl⟩:=e3;exact ⟨k,fun b=>(fun _=>0) b+f b,sE e2 (cw.2 ⟨fun _=>rfl,ig⟩) k1,fun b=>by have:=k2 b; dsimp only; omega,fun b hb=>k3 b (by dsimp only at hb; omega)⟩
    ·cases h
   ·cases h
  ·cases h
 | .ow sub::sh,.sl v::us,j,s,γ,F,cs,vs,hX,hv,h=>by
  simp only [outs] at h;split at h
  ·rename_i ts hg;split at h
   ·rename_i hj;obtain ⟨v,e2,e3⟩:=oQ hX hex hv hg hj;split at h
    ·rename_i r hr;simp only [SJ] at h;subst h;obtain ⟨k,f,k1,k2,k3⟩:=oy hex sh us (j+1) s γ F r vs hX hv hr;obtain ⟨_,rfl⟩:=e3;refine ⟨k+1,fun b=>(fun _=>0) b+f b,sE e2 ?_ (RL (TE _) k1),fun b=>by have:=k2 b; dsimp only; omega,fun b hb=>k3 b (by dsimp only at hb; omega)⟩;show OD w H (k+1) (.ow sub) (.li []) _ _
     rw [cM]; exact .inl ⟨rfl,rfl,fun _=>rfl⟩
    ·cases h
   ·rename_i q hj;obtain ⟨y,e2,e3⟩:=oQ hX hex hv hg hj;split at h
    ·rename_i s1 sub' l hb;split at h
     ·rename_i r hs hr;simp only [SJ] at h;subst h;have hy:AR w H γ s.toS.m (.one (.c (.rf q))) y:=e3
      obtain ⟨b1,b2,_⟩:=iL (size:=nc v) rfl (fd hX) (fun q' hq'=>by
       cases hq';exact kD e3.2.1) hb
      obtain ⟨kb,f1,F1,k1,k2,k3,k4,k5⟩:=iB hX hy b1;obtain ⟨k,f,m1,m2,m3⟩:=oy hex sh us (j+1) s1 γ F1 r vs k2 hv hr;obtain rfl:=gu hs;refine ⟨max kb k,fun b=>f1 b+f b,sE e2 (be (fun _ _ _ h=>h) kb _ _ _ _ _ (Nat.le_max_left _ _) (fun _ _=>rfl) k1) (RL (UE _ _) m1),fun b=>by have:=k4 b; have:=m2 b; dsimp only; omega,fun b hb=>?_⟩;by_cases h0:f1 b=0
      ·exact m3 b (by dsimp only at hb; omega)
      ·exact k5 b h0
     ·cases h
    ·cases h
   ·cases h
  ·cases h
 | [],_::_,_,_,_,_,_,_,_,_,h=>by simp [outs] at h
 | .fr::_,[],_,_,_,_,_,_,_,_,h=>by simp [outs] at h
 | .ow _::_,[],_,_,_,_,_,_,_,_,h=>by simp [outs] at h
 | .ow _::_,.i _::_,_,_,_,_,_,_,_,_,h=>by simp [outs] at h
 | .ow _::_,.b8::_,_,_,_,_,_,_,_,_,h=>by simp [outs] at h
 | .ow _::_,.bo::_,_,_,_,_,_,_,_,_,h=>by simp [outs] at h
 | .ow _::_,.s::_,_,_,_,_,_,_,_,_,h=>by simp [outs] at h
 | .ow _::_,.st _::_,_,_,_,_,_,_,_,_,h=>by simp [outs] at h
theorem IJ {γ:Gam} {F:Nm->Fp} {s:S} (h:RX g s a w H γ F) {n:Nm} (hno:n.isOut=false) (hn:aa s.m n=none) {v:Value} {t:T} {f:Fp} (ht:TR w H γ s.m t f v) (hd:∀ b,tot F s.m b+f b<=1) (hl:∀ b,f b≠0->b<w.heap.size/\(∀ o,H b o=none)/\(g.own0 b≠0\/g.w0.heap.size<=b)) :
  ∃ F',RX g ⟨s.t,(n,⟨false,[t]⟩)::s.m⟩ a w H (upd γ n (.gh v)) F'/\∀ b,tot F' ((n,⟨false,[t]⟩)::s.m) b=f b+tot F s.m b:=by
 have hK2:=fa (w:=w) (γ:=γ) (rc:=.gh v) (r:=⟨false,[t]⟩) hn
 obtain ⟨hm2,ht2⟩:=mT h.mem (n:=n) (rc:=.gh v) (r:=⟨false,[t]⟩) (f:=f) hn (by
   unfold aV;rw [if_neg (by simp)];exact ⟨v,t,bR,rfl,fy hK2 (fun _ _ _ h=>h) (fun _ _=>rfl) ht⟩) hd (fun b hb=>⟨(hl b hb).1,(hl b hb).2.1⟩)
 refine ⟨_,⟨hm2,?_,h.nt,⟨h.df.1,fun j b e=>(zw hno j).trans (h.df.2.1 j b e),h.df.2.2⟩,fun i=>bu hK2 (fun _ _ _ h=>h) (h.t i)⟩,fun b=>?_⟩
 ·refine ⟨h.fr.size,h.fr.os,h.fr.tape,h.fr.output,h.fr.block,h.fr.hold,h.fr.hnew,fun b hb=>?_,h.fr.nz⟩;rw [ht2] at hb;by_cases hf:f b=0
  ·exact h.fr.tt b (by omega)
  ·exact (hl b hf).2.2
 ·rw [ht2]
theorem Keeps.trans' {w:World} {γ γ' γ'':Gam} {m m' m'':Mm} (h:Keeps w γ m w γ' m') (h':Keeps w γ' m' w γ'' m''):Keeps w γ m w γ'' m'':=
 ⟨fun q hq=>⟨(h'.pl q (h.pl q hq).1).1,((h'.pl q (h.pl q hq).1).2).trans (h.pl q hq).2⟩,fun q hq=>⟨(h'.rf q (h.rf q hq).1).1,((h'.rf q (h.rf q hq).1).2).trans (h.rf q hq).2⟩⟩
theorem OX {y:Value}:FDx H .any y:=⟨0,trivial⟩
theorem tO {k:Nat}:∀ (sh:List Sh) (cs:List C) (vs:List Value) (f:Fp) (i:Nat) (s:St) (γ:Gam) (F:Nm->Fp),RX g s.toS a w H γ F->(∀ j sub u l,(ah sh cs)[j]? = some (.ow sub u l)->aa s.toS.m (.gh (i+j))=none) ->
  Cs (OD w H k) sh (cs.map C.toD) f vs->(∀ b,tot F s.toS.m b+f b<=1)->(∀ b,f b≠0->b<w.heap.size/\(∀ o,H b o=none)/\(g.own0 b≠0\/g.w0.heap.size<=b)) ->
  ∃ γ' F',RX g (nr i (ah sh cs) s).toS a w H γ' F'/\Keeps w γ s.toS.m w γ' (nr i (ah sh cs) s).toS.m/\Cs (fun (_:Unit) t=>TR w H γ' (nr i (ah sh cs) s).toS.m t) (List.replicate cs.length ()) ((ghR i (ah sh cs)).map Tt.toT) (fun _=>0) vs
 | [],[],vs,f,i,s,γ,F,hX,_,hc,_,_=>⟨γ,F,hX,⟨fun _ h=>⟨h,rfl⟩,fun _ h=>⟨h,rfl⟩⟩,fun _=>rfl⟩
 | [],_::_,_,_,_,_,_,_,_,_,hc,_,_=>hc.elim
 | _::_,[],_,_,_,_,_,_,_,_,hc,_,_=>hc.elim
 | s0::sh,c::cs,vs,f,i,s,γ,F,hX,hn,hc,hd,hl=>by
  obtain ⟨v,r,f1,f2,rfl,hf,h1,h2⟩:=hc;have plain:ah (s0::sh) (c::cs)=.d c::ah sh cs->((∀ b,f1 b=0)/\FDx H c.toD v)->∃ γ' F',RX g (nr i (ah (s0::sh) (c::cs)) s).toS a w H γ' F'/\Keeps w γ s.toS.m w γ' (nr i (ah (s0::sh) (c::cs)) s).toS.m/\Cs (fun (_:Unit) t=>TR w H γ' (nr i (ah (s0::sh) (c::cs)) s).toS.m t) (List.replicate (c::cs).length ()) ((ghR i (ah (s0::sh) (c::cs))).map Tt.toT) (fun _=>0) (v::r):=by
   intro e hfd;rw [e] at hn ⊢;obtain ⟨γ',F',k1,k2,k3⟩:=tO sh cs r f2 (i+1) s γ F hX (fun j sub u l hj=>by have:=hn (j+1) sub u l (by simpa using hj); rwa [show i+(j+1)=i+1+j from by omega] at this) h2 (fun b=>by have:=hd b; have:=hf b; omega) (fun b hb=>hl b (by have:=hf b; omega));exact ⟨γ',F',k1,k2,v,r,fun _=>0,fun _=>0,rfl,fun _=>rfl,⟨fun _=>rfl,hfd.2⟩,k3⟩
  cases s0 with
  | fr=>exact plain (by cases c <;> rfl) (cw.1 h1)
  | ow sub=>
   have bad:∀ d,(∀ l,d≠.li l)->d≠.any->¬ OD w H k (.ow sub) d f1 v:=by
    intro d h3 h4 h5;cases k <;> cases d <;> simp_all [OD]
   cases c with
   | li u l=>
    have e:ah (.ow sub::sh) (.li u l::cs)=.ow sub u l::ah sh cs:=rfl
    rw [e] at hn ⊢;obtain ⟨F1,hX1,ht1⟩:=IJ hX (n:=.gh i) rfl (hn 0 sub u l rfl) (t:=.ow sub (l.map (ai u))) (v:=v) (f:=f1) ⟨k,h1⟩ (fun b=>by have:=hd b; have:=hf b; omega) (fun b hb=>hl b (by have:=hf b; omega));have e2:(s.root (.gh i) ⟨false,[.ow sub u l],none⟩).toS=⟨s.toS.t,(.gh i,⟨false,[.ow sub (l.map (ai u))]⟩)::s.toS.m⟩:=rfl
    have hK0:=fa (w:=w) (γ:=γ) (rc:=.gh v) (r:=⟨false,[.ow sub (l.map (ai u))]⟩) (hn 0 sub u l rfl)
    rw [<- e2] at hX1;obtain ⟨γ',F',k1,k2,k3⟩:=tO sh cs r f2 (i+1) _ _ F1 hX1 (fun j sub' u' l' hj=>by
      have:=hn (j+1) sub' u' l' (by simpa using hj)
      rw [show i+(j+1)=i+1+j from by omega] at this;show aa ((.gh i,_)::s.toS.m) _=none
      simp only [aa];rw [if_neg (fun h=>by have:=Nm.gh.inj h; omega)];exact this) h2 (fun b=>by have:=hd b; have:=hf b; have:=ht1 b; rw [e2]; dsimp only at *; omega) (fun b hb=>hl b (by have:=hf b; omega))
    refine ⟨γ',F',k1,hK0.trans' k2,v,r,fun _=>0,fun _=>0,rfl,fun _=>rfl,?_,k3⟩;have h5:AR w H (upd γ (.gh i) (.gh v)) (s.root (.gh i) ⟨false,[.ow sub u l],none⟩).toS.m (.one (.c (.rf ⟨.gh i,0,[]⟩))) v:=dD (sub:=sub) (l:=l.map (ai u)) (by rw [e2]; simp [aa]) bR
    exact bu k2 (fun _ _ _ h=>h) h5
   | any=>exact plain rfl ⟨by cases k <;> exact h1,OX⟩
   | i _ _=>exact (bad _ (fun _ h=>by cases h) (fun h=>by cases h) h1).elim
   | b _=>exact (bad _ (fun _ h=>by cases h) (fun h=>by cases h) h1).elim
   | bo _=>exact (bad _ (fun _ h=>by cases h) (fun h=>by cases h) h1).elim
   | s _=>exact (bad _ (fun _ h=>by cases h) (fun h=>by cases h) h1).elim
   | v _=>exact (bad _ (fun _ h=>by cases h) (fun h=>by cases h) h1).elim
theorem ES {s:S} {n x:Nm} (h:aa s.m x=none):aa (s.fresh n).m x=none:=by
 unfold S.fresh;split
 ·exact h
 ·show aa (au (bv n) (aW s.m n)) x=none
  rw [fZ];by_cases e:x=n
  ·subst e;cases hc:aa (aW s.m x) x with
   | none=>rfl
   | some r=>
    rw [iz] at h;have h2:x ∉ (aW s.m x).map (·.1):=fun hm=>h (by
     have:∀ m:Mm,x∈(aW m x).map (·.1)->x∈m.map (·.1):=by
      intro m;induction m with
      | nil=>exact id
      | cons y m ih=>
       obtain ⟨k,r⟩:=y;simp only [aW,List.map_cons,SS];split
       ·exact .inr
       ·simp only [List.map_cons,SS];rintro (h | h)
        ·exact .inl h
        ·exact .inr (ih h)
     exact this _ hm)
    rw [<- iz,hc] at h2; cases h2
  ·rw [fh e,h]; rfl
theorem I5 {F:Nm->Fp} {s:S} {n:Nm} {b:Nat}:tot F (s.fresh n).m b<=tot F s.m b:=by
 unfold S.fresh;split
 ·exact SN _
 ·show tot F (au _ _) b<=_
  rw [aM]; exact dh
theorem C3 {γ:Gam} {F:Nm->Fp}:∀ (ts:List Tt) (i:Nat) (s:St),RX g s.toS a w H γ F->RX g (lh i ts s).toS a w H γ F/\(∀ x,aa s.toS.m x=none->aa (lh i ts s).toS.m x=none) /\
  (∀ j sub u l,ts[j]? = some (.ow sub u l)->aa (lh i ts s).toS.m (.gh (i+j))=none)/\∀ b,tot F (lh i ts s).toS.m b<=tot F s.toS.m b
 | [],i,s,h=>⟨h,fun _ h=>h,fun _ _ _ _ h=>by simp at h,fun _=>SN _⟩
 | t::ts,i,s,h=>by
  have next:∀ s1:St,RX g s1.toS a w H γ F->(∀ x,aa s.toS.m x=none->aa s1.toS.m x=none)->(∀ sub u l,t=.ow sub u l->aa s1.toS.m (.gh i)=none)->(∀ b,tot F s1.toS.m b<=tot F s.toS.m b) ->
    RX g (lh (i+1) ts s1).toS a w H γ F/\(∀ x,aa s.toS.m x=none->aa (lh (i+1) ts s1).toS.m x=none) /\
    (∀ j sub u l,(t::ts)[j]? = some (.ow sub u l)->aa (lh (i+1) ts s1).toS.m (.gh (i+j))=none)/\∀ b,tot F (lh (i+1) ts s1).toS.m b<=tot F s.toS.m b:=by
   intro s1 h1 h2 h3 h4;obtain ⟨k1,k2,k3,k4⟩:=C3 ts (i+1) s1 h1;refine ⟨k1,fun x hx=>k2 x (h2 x hx),fun j sub u l hj=>?_,fun b=>Th (k4 b) (h4 b)⟩;cases j with
   | zero=>exact k2 _ (h3 sub u l (by simpa using hj))
   | succ j=>have:=k3 j sub u l (by simpa using hj); rwa [show i+1+j=i+(j+1) from by omega] at this
  cases t with
  | ow sub u l=>
   have e:=bk (s:=s) (n:=.gh i) (fd h)
   refine next (s.fresh (.gh i)) (by rw [e]; exact bU h _) (fun x hx=>by rw [e]; exact ES hx) (fun _ _ _ _=>by rw [e]; exact bA h _) (fun b=>by rw [e]; exact I5)
  | _=>exact next s h (fun _ h=>h) (fun _ _ _ h=>by cases h) (fun _=>SN _)
theorem cP:∀ (ts:List Tt) (i:Nat) (s:St),Ext s (lh i ts s)
 | [],_,s=>Ext.refl s
 | .ow _ _ _::r,i,s=>(bx s _).trans (cP r (i+1) _)
 | .d _::r,i,s=>cP r (i+1) s
 | .nil::r,i,s=>cP r (i+1) s
 | .mp _ _ _::r,i,s=>cP r (i+1) s
 | .mo _ _ _ _::r,i,s=>cP r (i+1) s
 | .el _ _::r,i,s=>cP r (i+1) s
 | .ga _ _ _::r,i,s=>cP r (i+1) s
 | .pl _::r,i,s=>cP r (i+1) s
 | .rf _::r,i,s=>cP r (i+1) s
 | .any::r,i,s=>cP r (i+1) s
theorem cR:∀ (ts:List Tt) (i:Nat) (s:St),Ext s (nr i ts s)
 | [],_,s=>Ext.refl s
 | .ow _ _ _::r,i,s=>(ce s _ _).trans (cR r (i+1) _)
 | .d _::r,i,s=>cR r (i+1) s
 | .nil::r,i,s=>cR r (i+1) s
 | .mp _ _ _::r,i,s=>cR r (i+1) s
 | .mo _ _ _ _::r,i,s=>cR r (i+1) s
 | .el _ _::r,i,s=>cR r (i+1) s
 | .ga _ _ _::r,i,s=>cR r (i+1) s
 | .pl _::r,i,s=>cR r (i+1) s
 | .rf _::r,i,s=>cR r (i+1) s
 | .any::r,i,s=>cR r (i+1) s
theorem n4 (i:Nat):∀ ts:List Tt,(ghR i ts).length=ts.length
 | []=>rfl
 | t::r=>by cases t <;> simp only [ghR,SU,n4 (i+1) r]
theorem iH:∀ (sh:List Sh) (cs:List C),sh.length=cs.length->(ah sh cs).length=cs.length
 | [],[],_=>rfl
 | s::sh,c::cs,h=>by
  have ih:=iH sh cs (by simpa using h)
  cases s <;> cases c <;> simp only [ah,SU,ih]
 | [],_::_,h=>by simp at h
 | _::_,[],h=>by simp at h
theorem MG {α β:Type} {R:α->β->Fp->Value->Prop}:∀ {ss:List α} {xs:List β} {f:Fp} {vs:List Value},Cs R ss xs f vs->ss.length=xs.length
 | [],[],_,_,_=>rfl
 | _::_,_::_,_,_,h=>by obtain ⟨_,_,_,_,_,_,_,h2⟩:=h; simp only [SU,MG h2]
 | [],_::_,_,_,h=>h.elim
 | _::_,[],_,_,h=>h.elim
theorem Jo {e:En} (he:e.ok) (hm:e.P.follows .mixedOrders=true) {f:Nat} {fn:Func} (hf:e.P.funcs[f]? = some fn) (hname:(fn.name == "runtime.NumGoroutine")=false) (hb:fn.body.isSome=true) {an:An} {ps:List U} {n:Sn} {sh:List Sh} {i:Nat} {pre:Fl ps->Prop} {Fn:Fl ps->wA n}
  (hlen:Nat.ble ps.length fn.ntmps=true) (hc:eQ fn.ntmps (fn.body.getD .skip)=true) (law:∀ x,pre x->∀ KK:wA n->Prop,KK (Fn x)->Me e fn an ps n sh x KK):Cont e.P f (FU ps n sh i pre Fn):=by
 have hb':fn.body=some (fn.body.getD .skip):=by cases h:fn.body with
  | none=>rw [h] at hb; cases hb
  | some c=>rfl
 refine ⟨fun args w=>fP hf hname hb args w,fun pk s ops k k' hk hcc=>?_,fun g pk s a w H γ F0 ops k hX hops hcc=>?_⟩
 ·unfold FU at hcc ⊢;dsimp only at hcc ⊢;split at hcc
  ·exact ⟨hcc.1,hk _ _ ((bG _ _).trans ((cP _ _ _).trans (cR _ _ _))) hcc.2⟩
  ·exact hcc.elim
 ·unfold FU at hcc;dsimp only at hcc;obtain ⟨H1,F1,h1⟩:=bT (ops.map (evA s)) s H F0 hX;generalize aX s (ops.map (evA s))=s1 at hcc h1;split at hcc
  rotate_left
  ·exact hcc.elim
  rename_i x hx;obtain ⟨hp,hk⟩:=hcc;obtain ⟨c1,c2,c3⟩:=cr hx;have hle:ops.length<=fn.ntmps:=by
   have:=congrArg List.length c3
   simp only [List.length_map,cd] at this;rw [this]; exact SP hlen
  let g1:G:=⟨fn.ntmps,w,H1,fun _=>0,fun _=>none,none,[]⟩
  have hlaw:=law x hp (fun r=>r=Fn x) rfl
  have hw:=iN (e:=⟨e.P,e.E,e.cs,e.sh,fun _ _=>False⟩) he hm (g:=g1) _ an (pc ps x) _ hc hlaw
  have e0:(pc ps x).toS=⟨aL 0 (eM ps x),[]⟩:=aZ.S_ext (fL 0 ps x) rfl
  rw [e0] at hw;refine calls_of_wp hf hb' (Code.wp_mono (fun ex a' w' hl=>?_) (hw _ w ⟨H1,γ,F1,?_⟩))
  ·obtain ⟨s',hlq,H',γ',F',hX'⟩:=hl;have fin:∀ t:St,s'=t.toS->F8 e.P fn.results.toList n sh (fun r=>r=Fn x) t->a'.defers=[]/\∃ v,(results fn a'.tmps).run e.P w'=.ok v w'/\gr g a pk k (.returned v) w':=by
    intro t ht hq;subst ht;unfold F8 at hq;split at hq
    rotate_left
    ·exact hq.elim
    rename_i rv hrs;split at hq
    rotate_left
    ·exact hq.elim
    rename_i ts hgt;split at hq
    rotate_left
    ·exact hq.elim
    rename_i cs hlts hcs;split at hq
    rotate_left
    ·exact hq.elim
    rename_i y hy;subst hq;obtain ⟨vs,hv,hvs,_⟩:=rE hX' rfl hgt;have hvs:vs.size=(flat (.st n) (Fn x)).length:=by rw [hvs,SO hlts,fe]; rfl
    have hrun:(results fn a'.tmps).run e.P w'=.ok (.agg vs) w':=by
     rw [dJ,Uc,hrs];simp [hv]
    obtain ⟨kk,ff,o1,o2,o3⟩:=oy rfl sh (sd n).fs 0 t γ' F' cs vs hX' hv hcs;rw [pX hy] at o1;have hfr:=hX'.fr
    dsimp only [g1] at hfr;have hold:∀ b,b<w.heap.size->w'.heap[b]? = w.heap[b]? := fun b hb=>hfr.block b hb rfl
    have hnew:∀ b,b<w.heap.size->H1 b=H' b:=by
     intro b hb
     funext o
     cases hc:H1 b o with
     | some y=>rw [hfr.hold b o y hc]
     | none=>
      cases hc2:H' b o with
      | none=>rfl
      | some y=>
       rcases hfr.hnew b o (by rw [hc2]; simp) hc with h' | h'
       ·exact absurd rfl h'
       ·omega
    have hsame:∀ b,tot F1 s1.toS.m b≠0->w'.heap[b]? = w.heap[b]? := fun b hb=>hold b (h1.mem.lt b hb)
    have hKp:=bS (w':=w') h1.mem hsame
    have hmem:Mem w' H' γ s1.toS.m F1:=by
     refine ⟨hX'.mem.agree,fun x hx=>aF hKp hfr.hold rfl (fun b hb=>hsame b (by have:=aQ (F:=F1) hx b; omega)) (h1.mem.roots x hx),h1.mem.keys,h1.mem.le1,fun b hb=>by have:=h1.mem.lt b hb; have:=hfr.size; omega,fun b hb o=>?_⟩;rw [<- hnew b (h1.mem.lt b hb)]; exact h1.mem.nofz b hb o
    have hFr:Fr w H1 (tot F1 s1.toS.m) w' H' (tot F1 s1.toS.m):=
     ⟨hfr.size,hfr.os,hfr.tape,hfr.output,fun b hb _=>hold b hb,hfr.hold,fun b o h2 h3=>by
      right
      rcases S0 b w.heap.size with h' | h'
      ·rw [<- hnew b h'] at h2; exact absurd h3 h2
      ·exact h',fun b hb=>.inl hb,hfr.nz⟩
    have hX2:RX g s1.toS a w' H' γ F1:=dP h1 hmem hFr (fun i=>bu hKp hfr.hold (h1.t i)) (fun _=>rfl)
    have hff:∀ b,ff b≠0->w.heap.size<=b:=fun b hb=>by
     rcases (o3 b hb).2.2 with h' | h'
     ·exact absurd rfl h'
     ·exact h'
    obtain ⟨d1,d2,d3,d4⟩:=C3 (ah sh (flat (.st n) (Fn x))) i s1 hX2;obtain ⟨γ2,F2,m1,m2,m3⟩:=tO (k:=kk) sh (flat (.st n) (Fn x)) (vs.toList.drop 0) ff i _ γ F1 d1 d3 o1 (fun b=>by
      by_cases hb:ff b=0
      ·have:=d4 b; have:=h1.mem.le1 b; omega
      ·have h3:=hff b hb
       have:tot F1 s1.toS.m b=0:=by
        rcases S7 (tot F1 s1.toS.m b) with h' | h'
        ·exact h'
        ·have:=h1.mem.lt b (by omega); omega
       have:=d4 b; have:=o2 b; have:=hX'.mem.le1 b; omega)
     (fun b hb=>⟨(o3 b hb).1,(o3 b hb).2.1,.inr (Th h1.fr.size (hff b hb))⟩)
    refine ⟨hX'.df.1,_,hrun,.inl ⟨_,_,_,H',γ2,F2,rfl,hk,?_,m1⟩⟩;have hln:=MG o1
    refine ⟨vs,rfl,?_,?_⟩
    ·simp only [List.length_map,n4];rw [iH _ _ (by rw [hln,List.length_map]),hvs]
    ·unfold Ts;rw [show ((ghR i (ah sh (flat (.st n) (Fn x)))).map Tt.toT).length=(flat (.st n) (Fn x)).length by rw [List.length_map,n4,iH _ _ (by rw [hln,List.length_map])]];exact m3
   cases ex with
   | normal=>obtain ⟨t,e1,ht⟩:=hlq; exact fin t e1 ht
   | ret=>obtain ⟨t,e1,ht⟩:=hlq; exact fin t e1 ht
   | exit i=>exact hlq.elim (fun t ht=>ht.2.elim)
   | panic c=>obtain ⟨_,_,_,_,hf⟩:=hlq; exact hf.elim
   | _=>exact hlq.elim
  ·refine ⟨⟨h1.mem.agree,fun x hx=>by simp at hx,by simp,fun b=>Tf _,fun b hb=>absurd rfl hb,fun b hb=>absurd rfl hb⟩,⟨SN _,rfl,rfl,rfl,fun _ _ _=>rfl,fun _ _ _ h=>h,fun b o h2 h3=>absurd h3 h2,fun b hb=>absurd rfl hb,gk⟩,?_,⟨rfl,fun j b e=>by simp [g1] at e,dc h1⟩,fun i=>?_⟩
   ·simp [g1]; omega
   ·rw [cv,<- c3];simp only [Tf,if_true,Ux,SX,SM];cases hi:ops[i]? with
    | none=>simp only [T4,Ud]; trivial
    | some o=>
     have ho:ay o=true:=SQ.1 hops o (Tb hi)
     have hx:=aD h1 ho
     rw [af ho] at hx;simp only [Option.map_some,Option.getD_some];have hz:((evA s1 o).toV).isFz=true:=by
      have:=SQ.1 c2 (evA s1 o).toV (Tc (f:=At.toV) (Tc (f:=evA s1) (Tb hi)))
      exact this
     have hget:((ops.map a.eval).toArray++Array.replicate (fn.ntmps - (ops.map a.eval).toArray.size) undef).getD i undef=a.eval o:=by
      rw [S5,Tx (by simp; exact ae hi)];simp [hi]
     rw [G.tv_none rfl,hget];exact cZ bK (gY (fun _ _ _ h=>h) hz hx)
def s7 (ps rs:List U) (pre:Fl ps->Prop) (post:Fl ps->Fl rs->Prop):CKt:=fun _ s ops k=>
 let s1:=aX s (ops.map (evA s))
 match bh ps (ops.map (evA s1)) with
 | some x=>pre x/\∀ y,post x y->k s1 (bJ rs y)
 | none=>False
theorem Lq {e:En} (he:e.ok) (hm:e.P.follows .mixedOrders=true) {f:Nat} {fn:Func} (hf:e.P.funcs[f]? = some fn) (hname:(fn.name == "runtime.NumGoroutine")=false) (hb:fn.body.isSome=true) {an:An} {ps rs:List U} {pre:Fl ps->Prop} {post:Fl ps->Fl rs->Prop}
  (hlen:Nat.ble ps.length fn.ntmps=true) (hc:eQ fn.ntmps (fn.body.getD .skip)=true) (law:∀ x,pre x->∀ KK:Fl rs->Prop,(∀ y,post x y->KK y)->bq e fn an ps rs x KK):Cont e.P f (s7 ps rs pre post):=by
 have hb':fn.body=some (fn.body.getD .skip):=by cases h:fn.body with
  | none=>rw [h] at hb; cases hb
  | some c=>rfl
 have hcon:=lS hf hname hb' (fun avs K=>∃ x:Fl ps,avs=eM ps x/\pre x/\∀ y,post x y->K (bJ rs y).toV) (fun avs K ⟨x,hx,_,_⟩=>by rw [hx,cd]; exact SP hlen) (fun g avs K hg ⟨x,hx,hp,hk⟩=>by
  subst hx;have h:=law x hp (post x) (fun _ h=>h)
  have h1:=iN (e:=⟨e.P,e.E,e.cs,e.sh,fun _ _=>False⟩) he hm (g:=g) _ an (pc ps x) _ (by rw [hg]; exact hc) h
  have e0:(pc ps x).toS=⟨aL 0 (eM ps x),[]⟩:=aZ.S_ext (fL 0 ps x) rfl
  rw [e0] at h1;refine ke h1 (fun ex s' a w h' hR=>?_);cases ex with
  | normal=>
   obtain ⟨t,rfl,ht⟩:=h';exact kK (fun r hr=>hk r hr) ht hR
  | ret=>
   obtain ⟨t,rfl,ht⟩:=h';exact kK (fun r hr=>hk r hr) ht hR
  | exit i=>exact h'.elim (fun t ht=>ht.2.elim)
  | panic c=>obtain ⟨_,_,_,_,hf⟩:=h'; exact hf.elim
  | _=>exact h'.elim)
 refine ⟨hcon.run,fun pk s ops k k' hk hcc=>?_,fun g pk s a w H γ F1 ops k hX hops hcc=>?_⟩
 ·unfold s7 at hcc ⊢;dsimp only at hcc ⊢;split at hcc
  ·exact ⟨hcc.1,fun y hy=>hk _ _ (bG _ _) (hcc.2 y hy)⟩
  ·exact hcc.elim
 ·unfold s7 at hcc;dsimp only at hcc;obtain ⟨H1,F2,h1⟩:=bT (ops.map (evA s)) s H F1 hX;generalize aX s (ops.map (evA s))=s1 at hcc h1;split at hcc
  ·rename_i x hx;obtain ⟨c1,c2,c3⟩:=cr hx;refine Calls.mono (hcon.call g s1.toS a w H1 γ F2 ops (fun s' av=>∃ t v',SEq s' t.toS/\av=v'.toV/\k t v') h1 hops ?_) ?_
   ·unfold lL;dsimp only;rw [dw hops,dy c1];have e:(ops.map fun x=>(ev s1.toS x).map T.canon)=(ops.map (ev s1.toS)).map (AV.map T.canon):=by rw [SX]; rfl
    rw [e,dw hops];refine ⟨c2,?_⟩;rw [c3];exact ⟨x,rfl,hcc.1,fun y hy=>⟨s1,_,⟨fun _=>rfl,rfl⟩,rfl,hcc.2 y hy⟩⟩
   ·rintro e w' ⟨r,s',av,H',γ',F',k1,⟨t,v',e1,rfl,k2⟩,k3,k4⟩
    refine .inl ⟨r,t,v',H',γ',F',k1,k2,?_,bE e1 k4⟩;rw [e1.2] at k3;exact k3
  ·exact hcc.elim
end
end Go.Am
end

section
namespace Go.Am
open Go Go.Proofs
theorem kX {l:List Lt.Block} (h:Lt.pV l):(∀ r∈l.map (ai (.st .Block)),yp r)/\eN 9 (l.map (ai (.st .Block)))/\(l.map (ai (.st .Block))).length<=1000000:=by
 refine ⟨fun r hr=>?_,fun r hr=>?_,by rw [List.length_map]; exact h.1⟩
 ·obtain ⟨b,hb,rfl⟩:=S9.1 hr;obtain ⟨h2,h3,h4⟩:=h.2 b hb;refine ⟨⟨b.End.To.map (ai .s),rfl,fun y hy=>?_,by rw [List.length_map]; exact h2⟩,b.Phis.map (ai (.st .Phi)),rfl,fun y hy=>?_,by rw [List.length_map]; exact h3,fun p hp=>?_⟩
  ·obtain ⟨z,_,rfl⟩:=S9.1 hy;exact ⟨rfl,fun x hx=>by obtain rfl:=SY.1 hx; rfl⟩
  ·obtain ⟨z,_,rfl⟩:=S9.1 hy;exact ⟨rfl,SQ.1 rfl⟩
  ·obtain ⟨z,hz,rfl⟩:=S9.1 hp;refine ⟨z.Ins.map (ai (.st .In)),rfl,fun y hy=>?_,by rw [List.length_map]; exact h4 z hz⟩;obtain ⟨q,_,rfl⟩:=S9.1 hy;exact ⟨rfl,SQ.1 rfl⟩
 ·obtain ⟨b,hb,rfl⟩:=S9.1 hr;exact ⟨rfl,SQ.1 rfl⟩
end Go.Am
end

section
namespace Go.Am
def Nm.sw:Nm->Nm
 | .loc i=>.out i
 | .out i=>.loc i
 | .gh v=>.gh v
theorem Nm.sw_sw:∀ n:Nm,n.sw.sw=n
 | .loc _=>rfl
 | .out _=>rfl
 | .gh _=>rfl
theorem Nm.sw_tyd:∀ n:Nm,n.sw.tyd=n.tyd
 | .loc _=>rfl
 | .out _=>rfl
 | .gh _=>rfl
theorem RD:NmR Nm.sw:=⟨Nm.sw_sw,Nm.sw_tyd⟩
abbrev St.sw (s:St):St:=s.rn Nm.sw
abbrev swG (γ:Gam):Gam:=rnG Nm.sw γ
section
variable {w:World} {H:FH} {γ:Gam} {F:Nm->Fp}
def nh (γ:Gam):Nat->Option Nat:=fun i=>match γ (.loc i) with
 | .blk b=>some b
 | .gh _=>none
theorem Rs {g:G} {s:St} {a a':Act} (h:RX g s.toS a w H γ F) {ds:List Deferred} (h1:a'.tmps=a.tmps) (h2:a'.defers=ds):RX ⟨g.nt,g.w0,g.H0,g.own0,nh γ,g.ex,ds⟩ s.sw.toS a' w H (swG γ) (fun n=>F n.sw):=by
 refine G2 RD h h1 h2 (fun j b hb=>?_);show γ (.loc j)=.blk b
 unfold nh at hb;split at hb
 ·rename_i b' hb'; rw [hb']; simp only [SJ] at hb; rw [hb]
 ·cases hb
end
end Go.Am
end

section
namespace Go.Am
open Go Go.RowKit Go.Proofs
end Go.Am
end
