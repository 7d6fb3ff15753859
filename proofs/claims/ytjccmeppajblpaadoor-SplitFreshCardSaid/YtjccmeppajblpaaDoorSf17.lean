/-
  Part 17: AmCp1 · AmCp2 · AmCp3 · AmE17 · AmCl18 · AmKF.
-/
import Derived.Test.YtjccmeppajblpaaDoorSf16
import Derived.Laws.Cover3
set_option linter.unusedSimpArgs false
set_option linter.unusedVariables false
set_option linter.unusedSectionVars false
set_option linter.unnecessarySimpa false
section
namespace Go.Am
open Go Go.RowKit Go.Proofs
theorem Cs_put {α β:Type} {R:α->β->Fp->Value->Prop}:∀ (ss:List α) (xs:List β) (f:Fp) (vs:List Value) (k:Nat),
  Cs R ss xs f vs->k<xs.length ->
  ∃ s x v,∃ fk fr:Fp,ss[k]? = some s/\xs[k]? = some x/\vs[k]? = some v/\(∀ b,f b=fk b+fr b)/\R s x fk v /\
   (∀ (R':α->β->Fp->Value->Prop) (s':α) (x':β) (v':Value) (f':Fp),
    (∀ s x g v,(∀ b,g b<=fr b)->R s x g v->R' s x g v)->R' s' x' f' v' ->
    Cs R' (ss.set k s') (xs.set k x') (fun b=>f' b+fr b) (vs.set k v'))
 | [],[],_,_,k,_,hk=>by simp at hk
 | s::ss,x::xs,f,vs,0,h,_=>by
  obtain ⟨v,r,f1,f2,hv,hf,h1,h2⟩:=h
  subst hv
  refine ⟨s,x,v,f1,f2,rfl,rfl,rfl,hf,h1,?_⟩
  intro R' s' x' v' f' hR hx'
  exact ⟨v',r,f',f2,rfl,fun _=>rfl,hx',Cs_mono _ _ _ _ hR h2⟩
 | s::ss,x::xs,f,vs,k+1,h,hk=>by
  obtain ⟨v,r,f1,f2,hv,hf,h1,h2⟩:=h
  subst hv
  obtain ⟨s',x',v',fk,fr,a1,a2,a3,a4,a5,a6⟩:=Cs_put ss xs f2 r k h2 (by simpa using hk)
  refine ⟨s',x',v',fk,fun b=>f1 b+fr b,by simpa using a1,by simpa using a2,by simpa using a3,(show ∀ b,f b=fk b+(f1 b+fr b) from fun b=>by have:=hf b; have:=a4 b; omega),a5,?_⟩
  intro R' t y w g hR hy
  refine ⟨v,r.set k w,f1,fun b=>g b+fr b,rfl,fun b=>by (try dsimp only at *); omega,hR _ _ _ _ (fun b=>by (try dsimp only at *); omega) h1,?_⟩
  exact a6 R' t y w g (fun s x g v hg=>hR s x g v (fun b=>by have:=hg b; (try dsimp only at *); omega)) hy
 | [],_::_,_,_,_,h,_=>h.elim
 | _::_,[],_,_,_,h,_=>h.elim
def Own (w:World) (H:FH) (B sz:Nat) (ss:List Sh) (xs:List D) (f:Fp):Prop:=
 ∃ m cs ty g,w.heap[B]? = some (.cells cs ty (0,0))/\cs.size=sz/\Cs (OD w H m) ss xs g cs.toList/\∀ k,f k=g k+if k=B then 1 else 0
section
variable {P:Program} {w w':World} {H H':FH} {B sz:Nat} {ss:List Sh} {xs:List D} {f:Fp}
theorem Own.ne (h:Own w H B sz ss xs f):f B≠0:=by
 obtain ⟨m,cs,ty,g,_,_,_,h4⟩:=h
 rw [h4,if_pos rfl]; omega
theorem Own.frame (h:Own w H B sz ss xs f) (hw:∀ b,f b≠0->w'.heap[b]? = w.heap[b]?):Own w' H B sz ss xs f:=by
 have hb:=h.ne
 obtain ⟨m,cs,ty,g,h1,h2,h3,h4⟩:=h
 exact ⟨m,cs,ty,g,by rw [hw B hb]; exact h1,h2,Cs_mono _ _ _ _ (fun s x g' v hg hx=>OD_frame (fun _ _ _ h=>h) m m _ _ _ _ (Nat.le_refl _) (fun b hb=>hw b (by have:=hg b; have:=h4 b; omega)) hx) h3,h4⟩
theorem Own.cell (h:Own w H B sz ss xs f) {j:Nat} (hj:j<xs.length):∃ s x v m,∃ fk fr:Fp,ss[j]? = some s/\xs[j]? = some x/\w.cell? ⟨B,j,none⟩=some v/\OD w H m s x fk v/\(∀ b,f b=fk b+fr b)/\fr B≠0/\Thawed w B /\
  (∀ s' x' f' m',OD w H m' s' x' f' v->Own w H B sz (ss.set j s') (xs.set j x') (fun b=>f' b+fr b)) /\
  (∀ s' x' f' m' v',(∀ b,f b<=1)->f' B=0->OD w H m' s' x' f' v'->Own (w.setCell ⟨B,j,none⟩ v') H B sz (ss.set j s') (xs.set j x') (fun b=>f' b+fr b)):=by
 obtain ⟨m,cs,ty,g,h1,h2,h3,h4⟩:=h
 obtain ⟨s,x,v,fk,fr,a1,a2,a3,a4,a5,a6⟩:=Cs_put _ _ _ _ _ h3 hj
 have hcell:w.cell? ⟨B,j,none⟩=some v:=by
  simp only [World.cell?,h1,Option.isSome_none,Bool.false_eq_true,if_false]
  simpa using a3
 refine ⟨s,x,v,m,fk,fun b=>fr b+if b=B then 1 else 0,a1,a2,hcell,a5,fun b=>by have:=a4 b; have:=h4 b; dsimp only; omega,by simp,⟨_,_,h1⟩,?_,?_⟩
 ·intro s' x' f' m' hz
  have h:=a6 (OD w H (max m m')) s' x' v f' (fun s x g v hg hx=>OD_frame (fun _ _ _ h=>h) m _ _ _ _ _ (Nat.le_max_left _ _) (fun _ _=>rfl) hx) (OD_frame (fun _ _ _ h=>h) m' _ _ _ _ _ (Nat.le_max_right _ _) (fun _ _=>rfl) hz)
  have e:cs.toList.set j v=cs.toList:=List.ext_getElem? (fun i=>by
   rw [List.getElem?_set]
   split
   ·rename_i e; subst e
    split
    ·exact a3.symm
    ·rename_i h; rw [List.getElem?_eq_none (by omega)]
   ·rfl)
  rw [e] at h
  exact ⟨_,cs,ty,_,h1,h2,h,fun k=>by dsimp only; omega⟩
 ·intro s' x' f' m' v' hf hfB hz
  have hgB:g B=0:=by have:=hf B; rw [h4,if_pos rfl] at this; omega
  have h:=a6 (OD (w.setCell ⟨B,j,none⟩ v') H (max m m')) s' x' v' f' (fun s x g' v hg hx=>OD_frame (fun _ _ _ h=>h) m _ _ _ _ _ (Nat.le_max_left _ _) (fun b hb=>heap_setCell_ne (fun e=>by subst e; have:=hg b; have:=a4 b; omega)) hx)
   (OD_frame (fun _ _ _ h=>h) m' _ _ _ _ _ (Nat.le_max_right _ _) (fun b hb=>heap_setCell_ne (fun e=>by subst e; exact hb hfB)) hz)
  refine ⟨_,cs.setIfInBounds j v',ty,_,heap_setCell h1,by simpa using h2,by simpa using h,fun k=>by dsimp only; omega⟩
def OM (w:World) (H:FH) (R:List (List Sh)) (rows:List (List D)) (q:Nat) (f:Fp) (ad:Option Addr) (c:Nat):Prop:=
 (rows=[]/\ad=none/\c=0/\∀ b,f b=0)\/∃ B,ad=some ⟨B,0,none⟩/\rows.length<=c/\rows.length<=BIG/\(∀ x∈rows,x.length=q)/\Own w H B (c*q) R.flatten rows.flatten f
theorem OM_of {m:Nat} {sub:List Sh} {rows:List (List D)} {y:Value} (h:OD w H m (.ow sub) (.li rows) f y):∃ ad c,y=.slice ad rows.length c/\OM w H (List.replicate rows.length sub) rows sub.length f ad c:=by
 cases m with
 | zero=>simp [OD] at h
 | succ m=>
 rw [OD_ow] at h
 rcases h with ⟨rfl,rfl,h0⟩ | ⟨b,c,cs,ty,fz,g,h1,h2,h3,h4,h5,h6,h7,h8,h9⟩
 ·exact ⟨none,0,rfl,.inl ⟨rfl,rfl,rfl,h0⟩⟩
 ·obtain rfl:fz=(0,0):=h3
  exact ⟨_,c,h1,.inr ⟨b,rfl,h5,h6,h7,m,cs,ty,g,h2,h4,h8,h9⟩⟩
theorem OM.od {sub:List Sh} {rows:List (List D)} {ad:Option Addr} {c:Nat} (h:OM w H (List.replicate rows.length sub) rows sub.length f ad c):∃ m,OD w H m (.ow sub) (.li rows) f (.slice ad rows.length c):=by
 rcases h with ⟨rfl,rfl,rfl,h0⟩ | ⟨B,rfl,h5,h6,h7,m,cs,ty,g,h2,h4,h8,h9⟩
 ·exact ⟨1,OD_ow.2 (.inl ⟨rfl,rfl,h0⟩)⟩
 ·exact ⟨m+1,OD_ow.2 (.inr ⟨B,c,cs,ty,(0,0),g,rfl,h2,rfl,h4,h5,h6,h7,h8,h9⟩)⟩
theorem OM.frame {R:List (List Sh)} {rows:List (List D)} {q:Nat} {ad:Option Addr} {c:Nat} (h:OM w H R rows q f ad c) (hw:∀ b,f b≠0->w'.heap[b]? = w.heap[b]?):OM w' H R rows q f ad c:=by
 rcases h with h | ⟨B,h1,h2,h3,h4,h5⟩
 ·exact .inl h
 ·exact .inr ⟨B,h1,h2,h3,h4,h5.frame hw⟩
end
section
variable {w w':World} {H:FH} {R:List (List Sh)} {rows:List (List D)} {q c:Nat} {f:Fp} {ad:Option Addr}
theorem OM.row (h:OM w H R rows q f ad c) (hR:∀ s∈R,s.length=q) (hl:R.length=rows.length) {i j:Nat} (hi:i<rows.length) (hj:j<q) :
  ∃ B,ad=some ⟨B,0,none⟩/\∃ s x v m,∃ fk fr:Fp,(R.getD i [])[j]? = some s/\(rows.getD i [])[j]? = some x/\w.cell? ⟨B,i*q+j,none⟩=some v/\OD w H m s x fk v/\(∀ b,f b=fk b+fr b)/\f B≠0/\Thawed w B /\
  (∀ s' x' f' m',OD w H m' s' x' f' v->OM w H (R.set i ((R.getD i []).set j s')) (rows.set i ((rows.getD i []).set j x')) q (fun b=>f' b+fr b) ad c) /\
  (∀ s' x' f' m' v',(∀ b,f b<=1)->f' B=0->OD w H m' s' x' f' v'->OM (w.setCell ⟨B,i*q+j,none⟩ v') H (R.set i ((R.getD i []).set j s')) (rows.set i ((rows.getD i []).set j x')) q (fun b=>f' b+fr b) ad c):=by
 rcases h with ⟨rfl,_⟩ | ⟨B,rfl,h2,h3,h4,h5⟩
 ·simp at hi
 ·have hne:=h5.ne
  have hlen:rows.flatten.length=rows.length*q:=flatten_len q rows h4
  have hk:i*q+j<rows.flatten.length:=by
   rw [hlen]
   have:(i+1)*q<=rows.length*q:=Nat.mul_le_mul_right _ hi
   rw [Nat.add_mul] at this; omega
  obtain ⟨s,x,v,m,fk,fr,a1,a2,a3,a4,a5,a6,a7,a8,a9⟩:=h5.cell hk
  rw [flatten_get q R i j hR (by omega) hj] at a1
  rw [flatten_get q rows i j h4 hi hj] at a2
  refine ⟨B,rfl,s,x,v,m,fk,fr,a1,a2,a3,a4,a5,hne,a7,fun s' x' f' m' hz=>?_,fun s' x' f' m' v' hf hfB hz=>?_⟩
  ·have h:=a8 s' x' f' m' hz
   rw [flatten_set q R i j s' hR (by omega) hj,flatten_set q rows i j x' h4 hi hj] at h
   exact .inr ⟨B,rfl,by simpa using h2,by simpa using h3,set_lens h4 i hi j x',h⟩
  ·have h:=a9 s' x' f' m' v' hf hfB hz
   rw [flatten_set q R i j s' hR (by omega) hj,flatten_set q rows i j x' h4 hi hj] at h
   exact .inr ⟨B,rfl,by simpa using h2,by simpa using h3,set_lens h4 i hi j x',h⟩
theorem OM.put (h:OM w H R rows q f ad c) (hR:∀ s∈R,s.length=q) (hl:R.length=rows.length) {i j:Nat} (hi:i<rows.length) (hj:j<q) (h1:∀ b,f b<=1) (hlt:∀ b,f b≠0->b<w.heap.size) (hb:Below w.heap.size w w') {s':Sh} {x':D} {m':Nat} {g:Fp} {y:Value} (hy:OD w' H m' s' x' g y) (hg:∀ b,g b≠0->w.heap.size<=b) :
  ∃ B,ad=some ⟨B,0,none⟩/\f B≠0/\(∃ z,w'.cell? ⟨B,i*q+j,none⟩=some z)/\Thawed w' B/\∃ f',OM (w'.setCell ⟨B,i*q+j,none⟩ y) H (R.set i ((R.getD i []).set j s')) (rows.set i ((rows.getD i []).set j x')) q f' ad c/\∀ b,f' b<=f b+g b:=by
 have h':=h.frame (w':=w') (fun b hb'=>hb.block b (hlt b hb'))
 obtain ⟨B,e,s,x,v,m,fk,fr,a1,a2,a3,a4,a5,a6,a7,a8,a9⟩:=h'.row hR hl hi hj
 refine ⟨B,e,a6,⟨v,a3⟩,a7,_,a9 s' x' g m' y h1 ?_ hy,fun b=>by have:=a5 b; omega⟩
 rcases Nat.eq_zero_or_pos (g B) with h0 | h0
 ·exact h0
 ·have:=hg B (by omega); have:=hlt B a6; omega
theorem list_set_same {α:Type} {l:List α} {i:Nat} {x:α} (h:l[i]? = some x):l.set i x=l:=by
 refine List.ext_getElem? (fun j=>?_)
 rw [List.getElem?_set]
 split
 ·rename_i e; subst e
  split
  ·exact h.symm
  ·rename_i h2; rw [List.getElem?_eq_none (by omega)]
 ·rfl
theorem rows_same {α:Type} {rows:List (List α)} {i j:Nat} {x:α} (h:(rows.getD i [])[j]? = some x):rows.set i ((rows.getD i []).set j x)=rows:=by
 rw [list_set_same h]
 by_cases hi:i<rows.length
 ·exact list_set_same (by simp [List.getD,hi])
 ·exact List.set_eq_of_length_le (by omega)
end
def Rn (n i:Nat) (s z:List Sh):List (List Sh):=List.replicate i s++List.replicate (n-i) z
theorem Rn_len {n i:Nat} {s z:List Sh} (h:i<=n):(Rn n i s z).length=n:=by simp [Rn]; omega
theorem Rn_mem {n i:Nat} {s z:List Sh} (h:z.length=s.length):∀ x∈Rn n i s z,x.length=s.length:=by
 intro x hx
 rcases List.mem_append.1 hx with hx | hx
 ·rw [List.eq_of_mem_replicate hx]
 ·rw [List.eq_of_mem_replicate hx,h]
theorem Rn_get {n i:Nat} {s z:List Sh} (h:i<n):(Rn n i s z).getD i []=z:=by
 have h1:¬ i<i:=by omega
 unfold Rn
 rw [List.getD,List.getElem?_append_right (by simp)]
 simp only [List.length_replicate,Nat.sub_self]
 rw [List.getElem?_replicate,if_pos (by omega)]
 rfl
theorem Rn_set {n i:Nat} {s z:List Sh} (h:i<n):(Rn n i s z).set i s=Rn n (i+1) s z:=by
 unfold Rn
 rw [show n-i=(n - (i+1))+1 from by omega,List.replicate_succ,List.set_append_right _ _ (by simp)]
 simp [List.replicate_succ',List.append_assoc]
theorem Rn_0 {n:Nat} {s z:List Sh}:Rn n 0 s z=List.replicate n z:=by simp [Rn]
theorem Rn_n {n:Nat} {s z:List Sh}:Rn n n s z=List.replicate n s:=by simp [Rn]
def opIs (o:Oper) (d:Option Nat) (x:Op):Prop:=o.op=x/\o.dst=d/\o.guard=none
structure IsClone (P:Program) (fn:Func) (c:Code) (t e n bytes:Nat):Prop where
 ntmps:fn.ntmps=8
 res:fn.results=#[.tmp 2]
 c0:c=.seq (kpL c) (kpR c)
 c1:kpR c=.seq (.seq (kpL (kpL (kpR c))) (.cond (.tmp 4) (.seq (kpL (kpL (kpR (kpL (kpR c))))) .ret) .skip)) (kpR (kpR c))
 c2:kpR (kpR c)=.seq (kpL (kpR (kpR c))) .ret
 r0:kpL c=.region 0 [opN (kpL c) 0].toArray false
 r1:kpL (kpL (kpR c))=.region 1 [opN (kpL (kpL (kpR c))) 0,opN (kpL (kpL (kpR c))) 1].toArray false
 r2:kpL (kpL (kpR (kpL (kpR c))))=.region 2 [opN (kpL (kpL (kpR (kpL (kpR c))))) 0].toArray false
 r3:kpL (kpR (kpR c))=.region 3 [opN (kpL (kpR (kpR c))) 0,opN (kpL (kpR (kpR c))) 1,opN (kpL (kpR (kpR c))) 2,opN (kpL (kpR (kpR c))) 3].toArray false
 o0:opIs (opN (kpL c) 0) (some 2) (.assign (.const (.slice none 0 0)))
 o1:opIs (opN (kpL (kpL (kpR c))) 0) (some 3) (.move (.tmp 0))
 o2:∃ z,opIs (opN (kpL (kpL (kpR c))) 1) (some 4) (.binOp .eql t (.tmp 3) (.const (.slice none 0 0)) z)
 o3:opIs (opN (kpL (kpL (kpR (kpL (kpR c))))) 0) (some 2) (.assign (.const (.slice none 0 0)))
 o4:opIs (opN (kpL (kpR (kpR c))) 0) (some 5) (.buildSlice t 0 #[])
 o5:opIs (opN (kpL (kpR (kpR c))) 1) (some 6) (.move (.tmp 0))
 o6:opIs (opN (kpL (kpR (kpR c))) 2) (some 7) (.call ⟨.builtin .append,#[.tmp 5,.tmp 6],#[t,t]⟩)
 o7:opIs (opN (kpL (kpR (kpR c))) 3) (some 2) (.assign (.tmp 7))
 tk:(ty P t).k=.sl e
 ek:(ty P e).ok=true/\(ty P e).size=n/\(ty P e).bytes=bytes
 ez:∃ zs,zcells P e=some zs/\zs.length=n
 big:bytes<=140000000
def Prc (st sz:Nat):Nat->Bs:=fun j b=>j≠st/\b<sz
abbrev Zn:Exit->Act->World->Prop:=fun _ _ _=>False
section
variable {P:Program} {ops:Array Oper} {Q:Act->World->Prop} {o:Oper} {l:List (Nat×Value)} {a:Act} {w:World} {nt d st sz fuel i:Nat} {v:Value} {listed:Array Bool}
theorem wp_drawK {id:Nat} {R:Code} {ol:List Oper} {Q:Exit->Act->World->Prop} (hR:R=.region id ol.toArray true) (st sz:Nat) (hm:P.follows .mixedOrders=true)
  (h:∀ w2:World,w2.heap=w.heap->w2.os=w.os->w2.tape=w.tape->w2.output=w.output->wpAnyL P .any ol.toArray Zn (Q .normal) ol.toArray.size (Array.replicate ol.toArray.size false) (Prc st sz) a w2):R.wp P Q a w:=by
 rw [hR]
 exact wp_region_any hm (wpAny_of_L (Z:=Zn) (Q:=Q .normal) (fun a w h=>h) (fun e a w h=>h.elim) _ _ (Prc st sz) _ _ (h _ rfl rfl rfl rfl))
theorem KD_take (A:List Nat) (hs:Region.noSelect ops=true) (hi:ops[i]? = some o) (ht:takeC ops listed i A true=true) (hA:A.contains st=true) (hg:o.guard=none) (ho:o.dst=some d) (hd:d<nt) (hk:KT nt l a)
  (hrun:∀ w':World,(∀ b,b<sz->w'.heap[b]? = w.heap[b]?)->(execOp a.eval o).run P w'=.ok (.value v) w') (h:∀ a',KT nt ((d,v)::l) a'->wpAnyL P .any ops Zn Q fuel (listed.setIfInBounds i true) (Prc st sz) a' w) :
  wpAnyL P .any ops Zn Q (fuel+1) listed (Prc st sz) a w:=by
 simp only [takeC,Bool.and_eq_true] at ht
 obtain ⟨⟨⟨⟨t1,t2⟩,t3⟩,t4⟩,t5⟩:=ht
 have hready:=Region.ready_mem_of_contains t2
 have hbeh:behind .any ops i (fun j=>A.contains j) listed:=by
  intro j hj hun
  have:=List.all_eq_true.1 t4 j (by simpa using hj)
  rw [unlisted_iff.2 hun] at this
  cases ho:ops[j]? with
  | none=>rw [ho] at this; simp at this
  | some oj=>
   rw [ho] at this
   simp only [Bool.not_true,Bool.false_or] at this
   obtain ⟨e,he,h1⟩:=Array.any_eq_true'.1 this
   simp only [Bool.and_eq_true,Bool.or_eq_true,beq_iff_eq] at h1
   exact ⟨oj,rfl,e,he,h1.1.1,unlisted_iff.1 h1.1.2,h1.2⟩
 refine wpAnyL_first (fun _ _ _ _ _ h=>h) (A:=fun j=>A.contains j) (B:=fun b=>b<sz) (v:=v) hi (Region.noSelect_spec hs) fuel listed (Prc st sz) (Prc st sz) a w (fun j b h=>h) (fun j b h1 h2=>⟨fun e=>?_,h2⟩)
   (Region.free_spec hi t1) hbeh hready (.inl ⟨by simp [Region.wanted,hg],fun w2 hs2=>hrun w2 hs2⟩) (by rw [ho]; exact h _ (hk.put hd v))
 rw [e,hA] at h1; cases h1
theorem KD_one (hr:Region.ready .any ops listed=[i]) (hi:ops[i]? = some o) (hg:o.guard=none) (h:o.wp P a w (fun a' w'=>sameOn (Prc st sz i) w w'/\wpAnyL P .any ops Zn Q fuel (listed.setIfInBounds i true) (Prc st sz) a' w') Zn) :
  wpAnyL P .any ops Zn Q (fuel+1) listed (Prc st sz) a w:=by
 refine ⟨fun e=>(by rw [hr] at e; cases e),fun j hj=>?_⟩
 rw [hr] at hj
 obtain rfl:=List.mem_singleton.1 hj
 unfold lOp
 simp only [hi]
 rw [if_pos (by simp [Region.wanted,hg])]
 exact Oper_wp_mono (fun a w ⟨h1,h2⟩=>⟨h1,_,fun _ _ h=>h,h2⟩) (fun _ _ _ h=>h) h
theorem KD_nil (hr:Region.ready .any ops listed=[]) (h:Q a w):wpAnyL P .any ops Zn Q fuel listed (Prc st sz) a w:=by
 cases fuel with
 | zero=>exact ⟨hr,h⟩
 | succ n=>exact ⟨fun _=>h,fun j hj=>by rw [hr] at hj; cases hj⟩
end
def ClR (w:World) (H:FH) (n:Nat) (rows:List (List D)) (y:Value) (w':World):Prop:=
 Below w.heap.size w w'/\∃ m g,OD w' H m (.ow (List.replicate n .fr)) (.li rows) g y/\(∀ b,g b<=1)/\∀ b,g b≠0->w.heap.size<=b/\b<w'.heap.size
theorem Calls_code {P:Program} {f:Nat} {fn:Func} {c:Code} (hf:P.funcs[f]? = some fn) (hb:fn.body=some c) (args:List Value) (W:World) (Q:Value->World->Prop) (hle:args.length<=fn.ntmps)
  (h:∀ a0:Act,a0.tmps.size=fn.ntmps->a0.defers=[]->(∀ (i:Nat) v,args[i]? = some v->a0.tmps.getD i undef=v) ->
   c.wp P (fun e a' w'=>(e=.normal\/e=.ret)/\a'.defers=[]/\∃ v,(results fn a'.tmps).run P w'=.ok v w'/\Q v w') a0 W):Calls P f args.toArray W (fun e w'=>∃ v,e=.returned v/\Q v w'):=by
 refine calls_of_wp hf hb (Code.wp_mono (fun e a' w' hl=>?_) (h _ ?_ rfl ?_))
 ·obtain ⟨he,hd,v,hr,hq⟩:=hl
  rcases he with rfl | rfl
  ·exact ⟨hd,v,hr,v,rfl,hq⟩
  ·exact ⟨hd,v,hr,v,rfl,hq⟩
 ·simp; omega
 ·intro i v hi
  have hlt:=(List.getElem?_eq_some_iff.1 hi).1
  rw [Array.getD_eq_getD_getElem?,Array.getElem?_append_left (by simpa using hlt)]
  simp [hi]
theorem lkV_mem:∀ {l:List (Nat×Value)} {i:Nat} {v:Value},lkV l i=some v->(i,v)∈l
 | [],_,_,h=>by cases h
 | (k,x)::r,i,v,h=>by
  unfold lkV at h
  cases hb:Nat.beq k i with
  | true=>
   rw [hb] at h
   obtain rfl:=Nat.eq_of_beq_eq_true hb
   obtain rfl:=Option.some.inj h
   simp
  | false=>rw [hb] at h; exact List.mem_cons_of_mem _ (lkV_mem h)
theorem KT_of {nt:Nat} {l:List (Nat×Value)} {a:Act} (hn:a.tmps.size=nt) (hd:a.defers=[]) (h:∀ x∈l,a.tmps.getD x.1 undef=x.2):KT nt l a:=⟨hn,hd,fun i v hi=>h (i,v) (lkV_mem hi)⟩
theorem res_one {P:Program} {fn:Func} {i nt:Nat} {l:List (Nat×Value)} {a:Act} {w:World} {v:Value} (hr:fn.results=#[.tmp i]) (hk:KT nt l a) (hi:lkV l i=some v) (hlt:i<nt):(results fn a.tmps).run P w=.ok v w:=by
 rw [results_eq,hr]
 have h1:a.tmps.getD i undef=v:=hk.t i v hi
 have h2:a.tmps[i]? = some v:=by
  have:i<a.tmps.size:=by rw [hk.nt]; exact hlt
  rw [Array.getElem?_eq_getElem this,<- h1,Array.getD_eq_getD_getElem?,Array.getElem?_eq_getElem this]
  rfl
 simp [resRun,h2]
section
variable {P:Program} {all:Array Oper} {rest:List Oper} {Q:Exit->Act->World->Prop} {o:Oper} {l:List (Nat×Value)} {a:Act} {w w':World} {nt d:Nat} {v:Value}
theorem wpW (hg:o.guard=none) (ho:o.dst=some d) (hd:d<nt) (hk:KT nt l a) (hrun:(execOp a.eval o).run P w=.ok (.value v) w') (h:∀ a',KT nt ((d,v)::l) a'->wpList P all Q rest a' w') :
  wpList P all Q (o::rest) a w:=
 wpList_plain hg fun K hK=>by
  unfold Oper.wp
  rw [hrun]
  exact hK _ _ (by rw [ho]; exact h _ (hk.put hd v))
theorem wpC {f:Nat} {fn:Func} {ts:Array TypeId} {x:Operand} {R:Value->World->Prop} (hf:P.funcs[f]? = some fn) (hn:(fn.name == "runtime.NumGoroutine")=false) (hb:fn.body.isSome=true) (hg:o.guard=none) (ho:o.dst=some d) (hd:d<nt) (hk:KT nt l a)
  (hop:o.op=.call ⟨.value (.func f),#[x],ts⟩) (hx:a.eval x=v) (hC:Calls P f #[v] w (fun e w'=>∃ y,e=.returned y/\R y w')) (h:∀ y w' a',R y w'->KT nt ((d,y)::l) a'->wpList P all Q rest a' w') :
  wpList P all Q (o::rest) a w:=
 wpList_plain hg fun K hK=>by
  unfold Oper.wp
  have hr:(execOp a.eval o).run P w=.ok (.enter f #[v]) w:=by
   simp only [execOp,hop,resolve,Act.eval,Deferred.ofValue,Sem.run_bind,Sem.run_pure,Result.andThen_ok,invoke]
   rw [run_fn2 hf hn hb]
   simp [hx]
  rw [hr]
  refine Calls.mono hC (fun e w' ⟨y,h1,h2⟩=>?_)
  subst h1
  exact hK _ _ (by rw [ho]; exact h y w' _ h2 (hk.put hd y))
end
section
variable {P:Program} {ops:Array Oper} {Q:Act->World->Prop} {o:Oper} {l:List (Nat×Value)} {a:Act} {w:World} {nt d st sz fuel i:Nat} {v:Value} {listed:Array Bool}
theorem KD_call {f:Nat} {fn:Func} {ts:Array TypeId} {x:Operand} {R:Value->World->Prop} (hr:Region.ready .any ops listed=[i]) (hi:ops[i]? = some o) (hf:P.funcs[f]? = some fn) (hn:(fn.name == "runtime.NumGoroutine")=false) (hb:fn.body.isSome=true) (hg:o.guard=none) (ho:o.dst=some d) (hd:d<nt) (hk:KT nt l a)
  (hop:o.op=.call ⟨.value (.func f),#[x],ts⟩) (hx:a.eval x=v) (hC:Calls P f #[v] w (fun e w'=>∃ y,e=.returned y/\R y w')) (hR:∀ y w',R y w'->∀ b,b<sz->w'.heap[b]? = w.heap[b]?)
  (h:∀ y w' a',R y w'->KT nt ((d,y)::l) a'->wpAnyL P .any ops Zn Q fuel (listed.setIfInBounds i true) (Prc st sz) a' w') :
  wpAnyL P .any ops Zn Q (fuel+1) listed (Prc st sz) a w:=by
 refine KD_one hr hi hg ?_
 unfold Oper.wp
 have hr:(execOp a.eval o).run P w=.ok (.enter f #[v]) w:=by
  simp only [execOp,hop,resolve,Act.eval,Deferred.ofValue,Sem.run_bind,Sem.run_pure,Result.andThen_ok,invoke]
  rw [run_fn2 hf hn hb]
  simp [hx]
 rw [hr]
 refine Calls.mono hC (fun e w' ⟨y,h1,h2⟩=>?_)
 subst h1
 exact ⟨fun b hb=>hR y w' h2 b hb.2,by rw [ho]; exact h y w' _ h2 (hk.put hd y)⟩
theorem KD_store {t:TypeId} {x y:Operand} {b off:Nat} {z:Value} (hr:Region.ready .any ops listed=[st]) (hi:ops[st]? = some o) (hg:o.guard=none) (ho:o.dst=none) (hop:o.op=.store t x y) (hx:a.eval x=.pointer (some ⟨b,off,none⟩)) (hy:a.eval y=v) (ht:(ty P t).ok=true/\(ty P t).size=1) (hv:oneC v=true)
  (hc:w.cell? ⟨b,off,none⟩=some z) (hf:w.frozen? ⟨b,off,none⟩=false) (h:wpAnyL P .any ops Zn Q fuel (listed.setIfInBounds st true) (Prc st sz) a (w.setCell ⟨b,off,none⟩ v)):wpAnyL P .any ops Zn Q (fuel+1) listed (Prc st sz) a w:=by
 refine KD_one hr hi hg ?_
 obtain ⟨it,_,hit,_⟩:=ty_ok ht.1
 have hsz:P.cellsOf t=1:=by rw [<- ty_size ht.1,ht.2]
 have hcells:v.cells=#[v]:=by cases v <;> first | rfl | (simp [oneC] at hv)
 have hr:(execOp a.eval o).run P w=.ok .skip (w.setCell ⟨b,off,none⟩ v):=by
  simp only [execOp,hop,hx,hy]
  simp only [Instr.storeAt,Instr.sureAddr,Sem.run_bind,Sem.run_pure,Result.andThen_ok,storeVar,runs_sizeOf hit]
  rw [if_neg (by rw [hcells,hsz]; simp),hcells]
  simp only [storeCells,Sem.run_bind,addr_add]
  rw [Nat.add_zero,run_store1 hv hc hf]
  rfl
 unfold Oper.wp
 rw [hr]
 exact ⟨fun c hc=>absurd rfl hc.1,by rw [ho]; exact h⟩
end
theorem clone_calls {P:Program} {f:Nat} {fn:Func} {c:Code} {t e n bytes:Nat} (hf:P.funcs[f]? = some fn) (hb:fn.body=some c) (hC:IsClone P fn c t e n bytes) {w:World} {H:FH} {rows:List (List D)} {v:Value}
  (hv:FDx H (.li rows) v) (hag:∀ b o y,H b o=some y->w.cell? ⟨b,o,none⟩=some y) (hrows:okRows n rows) (hbig:rows.length<=1000000):Calls P f #[v] w (fun e w'=>∃ y,e=.returned y/\ClR w H n rows y w'):=by
 refine Calls_code (args:=[v]) hf hb w (ClR w H n rows) (by rw [hC.ntmps]; simp) (fun a0 hn0 hd0 ht0=>?_)
 have hk0:=KT_of (nt:=8) (l:=[(0,v)]) (hn0.trans hC.ntmps) hd0 (fun x hx=>by obtain rfl:=List.mem_singleton.1 hx; exact ht0 0 v rfl)
 have hvv:∃ a cc,v=.slice a rows.length cc/\(a=none->rows=[]):=by
  obtain ⟨m,hv⟩:=hv
  cases m with
  | zero=>exact hv.elim
  | succ m=>
   obtain ⟨a,cc,rfl,_,_,h3⟩:=FD_li.1 hv
   refine ⟨a,cc,rfl,fun ha=>?_⟩
   rcases h3 with h3 | ⟨b,o,_,h3,_⟩
   ·exact h3
   ·rw [ha] at h3; cases h3
 obtain ⟨va,vc,hve,hvn⟩:=hvv
 obtain ⟨_,td,_,hud,htk,_⟩:=ty_und hC.tk (by simp)
 obtain rfl:=tk_sl htk
 obtain ⟨ie,de,hie,hde,_,hsize,hbytes,_⟩:=ty_ok hC.ek.1
 obtain ⟨zs,hzs,hzl⟩:=hC.ez
 obtain ⟨it',z,hi',hz,hzc,_⟩:=zcells_ok hzs
 rw [hie] at hi'
 obtain rfl:ie=it':=by simpa using hi'
 have hn:ie.size=n:=by rw [<- hsize,hC.ek.2.1]
 have hby:ie.bytes=bytes:=by rw [<- hbytes,hC.ek.2.2]
 have hzsz:z.cells.size=ie.size:=by rw [hn,<- hzl,<- hzc]; simp
 refine wp_sq hC.c0 ?_
 refine wp_reg hC.r0 ?_
 refine wpV hC.o0.2.2 hC.o0.2.1 (by decide) hk0 (vAssign hC.o0.1 rfl) (fun a hk=>wpList_nil ?_)
 refine wp_sq hC.c1 ?_
 refine wp_sq rfl ?_
 refine wp_reg hC.r1 ?_
 refine wpV hC.o1.2.2 hC.o1.2.1 (by decide) hk (vMove hC.o1.1 (hk.ev rfl)) (fun a hk=>?_)
 obtain ⟨z2,ho2⟩:=hC.o2
 refine wpV (v:=.bool va.isNone) ho2.2.2 ho2.2.1 (by decide) hk ?_ (fun a hk=>wpList_nil ?_)
 ·simp only [execOp,ho2.1]
  rw [show a.eval (.tmp 3)=.slice va rows.length vc from by rw [hk.ev (i:=3) rfl,hve],show a.eval (.const (.slice none 0 0))=.slice none 0 0 from rfl,Sem.run_bind,Sem.run_bind,show (eqGuard .eql t (.tmp 3) (.const (.slice none 0 0)) (.slice va rows.length vc) (.slice none 0 0)).run P w=.ok () w from rfl,Result.andThen_ok,show (binOp .eql t (.slice va rows.length vc) (.slice none 0 0)).run P w=.ok (.bool va.isNone) w from by
   simp only [binOp]
   simp [run_equal_slice_nil w t _ va rows.length vc hud]]
  rfl
 cases hva:va.isNone with
 | true=>
  refine wp_cond_true (by rw [hk.ev (i:=4) rfl,hva]) ?_
  refine wp_sq rfl ?_
  refine wp_reg hC.r2 ?_
  refine wpV hC.o3.2.2 hC.o3.2.1 (by decide) hk (vAssign hC.o3.1 rfl) (fun a hk=>wpList_nil ?_)
  refine wp_ret ⟨.inr rfl,hk.df,_,res_one hC.res hk rfl (by decide),Below.refl _ _,1,fun _=>0,?_,fun _=>Nat.zero_le _,fun b hb=>absurd rfl hb⟩
  rw [hvn (by simpa using hva),OD_ow]
  exact .inl ⟨rfl,rfl,fun _=>rfl⟩
 | false=>
  refine wp_cond_false (by rw [hk.ev (i:=4) rfl,hva]) (wp_skip ?_)
  refine wp_sq hC.c2 ?_
  refine wp_reg hC.r3 ?_
  obtain ⟨us,cs,u1,u2,u3⟩:=run_buildSlice' (P:=P) (w:=w) (t:=t) (len:=0) (vs:=#[]) (cells:=#[]) hud hie hz (by simp) (fun us hus=>⟨us,rfl,hus,.inr trivial⟩)
  have hu0:us=#[]:=Array.eq_empty_of_size_eq_zero (by rw [u1]; simp)
  obtain rfl:us=cs:=Option.some.inj u2
  subst hu0
  refine wpW (v:=.slice (some ⟨w.heap.size,0,none⟩) 0 0) hC.o4.2.2 hC.o4.2.1 (by decide) hk ?_ (fun a hk=>?_) (w':=w.alloc (.cells #[] e))
  ·simp only [execOp,hC.o4.1]
   rw [Sem.run_bind,show (#[]:Array (Nat×Operand)).map (fun (x:Nat×Operand)=>(x.1,a.eval x.2))=#[] from by simp,u3]
   rfl
  refine wpV hC.o5.2.2 hC.o5.2.1 (by decide) hk (vMove hC.o5.1 (hk.ev rfl)) (fun a hk=>?_)
  have hag1:∀ b o y,H b o=some y->(w.alloc (.cells #[] e)).cell? ⟨b,o,none⟩=some y:=fun b o y h=>by
   have h:=hag b o y h
   rw [cell?_of_heap (heap_alloc_old' (World.block_lt_of_cell? _ _ h))]
   exact h
  have hmem:Mem (w.alloc (.cells #[] e)) H (fun _=>.blk 0) [] (fun _ _=>0):=⟨hag1,fun x hx=>by simp at hx,by simp,fun b=>Nat.zero_le _,fun b hb=>absurd rfl hb,fun b hb=>absurd rfl hb⟩
  obtain ⟨ws,s1,s2,s3⟩:=src_ok (P:=P) hmem (x:=.one (.c (.d (.li rows)))) (v:=v) (ys:=rows) ⟨fun _=>rfl,hv⟩ rfl (size:=ie.size) (by rw [hn]; exact hrows)
  have hod:OD (w.alloc (.cells #[] e)) H 1 (.ow (List.replicate ie.size .fr)) (.li []) (fun d=>0+if d=w.heap.size then 1 else 0) (.slice (some ⟨w.heap.size,0,none⟩) 0 0):=
   OD_new (c:=0) (l:=[]) (g:=fun _=>0) (cs:=#[]) heap_alloc_new' rfl (by simp) (Nat.le_refl _) (Nat.zero_le _) (by simp) (by intro b; rfl)
  have hsz1:(w.alloc (.cells #[] e)).heap.size=w.heap.size+1:=by show (w.heap.push _).size=_; simp
  obtain ⟨y,w2,f',c1,⟨k',c2⟩,c3,c4,c5,c6,c7,c8,c9⟩:=run_append (tt:=(opN (kpL (kpR (kpR c))) 2).type) hud hud rfl hie hz hzsz (gx:=fun _=>0) (kx:=0) (by simp) hod s1 (fun y hy=>by rw [List.length_replicate,hn]; exact (hrows y hy).1)
   (by
    have h:=s2 0
    rw [show (List.replicate rows.length (List.replicate ie.size Sh.fr)).flatten=List.replicate (rows.length*ie.size) Sh.fr from by rw [List.flatten_replicate_replicate]]
    exact h) s3 (fun b=>by split <;> omega) (fun b hb=>by
     rcases hb with hb | hb
     ·rw [hsz1]; split at hb <;> omega
     ·exact absurd rfl hb) (by simp; omega) (by
     rw [hby]
     have h1:=hC.big
     have h2:rows.length*bytes<=1000000*140000000:=Nat.mul_le_mul hbig h1
     simp only [List.length_nil,Nat.zero_add]
     omega)
  refine wpW (v:=y) hC.o6.2.2 hC.o6.2.1 (by decide) hk ?_ (fun a hk=>?_) (w':=w2)
  ·simp only [execOp,hC.o6.1,resolve,invoke,builtin,Sem.run_bind,Sem.run_pure,Result.andThen_ok,List.map_toArray,List.map_cons,List.map_nil]
   rw [hk.ev (i:=5) rfl,hk.ev (i:=6) rfl,c1]
   rfl
  refine wpV hC.o7.2.2 hC.o7.2.1 (by decide) hk (vAssign hC.o7.1 (hk.ev rfl)) (fun a hk=>wpList_nil ?_)
  refine wp_ret ⟨.inr rfl,hk.df,y,res_one hC.res hk rfl (by decide),⟨c4,c5,c6,by omega,fun b hb=>?_⟩,k',f',?_,fun b=>?_,fun b hb=>⟨?_,c9 b hb⟩⟩
  ·rcases c7 b (by omega) with h | h
   ·rw [h]; exact heap_alloc_old' hb
   ·exact absurd h.1 (by rw [if_neg (by omega)]; simp)
  ·rw [<- hn]; simpa using c2
  ·have:=c8 b; split at this <;> split at this <;> omega
  ·have:=c8 b; split at this <;> split at this <;> omega
end Go.Am
end

section
namespace Go.Am
open Go Go.RowKit Go.Proofs
set_option maxRecDepth 100000
theorem zc9:zcells Tryd.prog 9=some [.string ⟨#[]⟩]:=by kernel_rfl
theorem zc54:zcells Tryd.prog 54=some [.string ⟨#[]⟩,.slice none 0 0,.slice none 0 0,.int .i64 0,.int .i64 0,.string ⟨#[]⟩,.int .i64 0,.slice none 0 0,.int .i64 0]:=by kernel_rfl
theorem zc82:zcells Tryd.prog 82=some [.string ⟨#[]⟩,.slice none 0 0]:=by kernel_rfl
theorem zc84:zcells Tryd.prog 84=some [.string ⟨#[]⟩,.int .i64 0,.string ⟨#[]⟩,.int .i64 0]:=by kernel_rfl
theorem icl37:IsClone Tryd.prog Tryd.f37 (Tryd.f37.body.getD .skip) 23 54 9 136:=⟨by kernel_rfl,by kernel_rfl,by kernel_rfl,by kernel_rfl,by kernel_rfl,by kernel_rfl,by kernel_rfl,by kernel_rfl,by kernel_rfl,⟨by kernel_rfl,by kernel_rfl,by kernel_rfl⟩,⟨by kernel_rfl,by kernel_rfl,by kernel_rfl⟩,⟨23,by kernel_rfl,by kernel_rfl,by kernel_rfl⟩,⟨by kernel_rfl,by kernel_rfl,by kernel_rfl⟩,⟨by kernel_rfl,by kernel_rfl,by kernel_rfl⟩,⟨by kernel_rfl,by kernel_rfl,by kernel_rfl⟩,⟨by kernel_rfl,by kernel_rfl,by kernel_rfl⟩,⟨by kernel_rfl,by kernel_rfl,by kernel_rfl⟩,by kernel_rfl,⟨by kernel_rfl,by kernel_rfl,by kernel_rfl⟩,⟨_,zc54,rfl⟩,by decide⟩
theorem icl38:IsClone Tryd.prog Tryd.f38 (Tryd.f38.body.getD .skip) 50 9 1 16:=⟨by kernel_rfl,by kernel_rfl,by kernel_rfl,by kernel_rfl,by kernel_rfl,by kernel_rfl,by kernel_rfl,by kernel_rfl,by kernel_rfl,⟨by kernel_rfl,by kernel_rfl,by kernel_rfl⟩,⟨by kernel_rfl,by kernel_rfl,by kernel_rfl⟩,⟨50,by kernel_rfl,by kernel_rfl,by kernel_rfl⟩,⟨by kernel_rfl,by kernel_rfl,by kernel_rfl⟩,⟨by kernel_rfl,by kernel_rfl,by kernel_rfl⟩,⟨by kernel_rfl,by kernel_rfl,by kernel_rfl⟩,⟨by kernel_rfl,by kernel_rfl,by kernel_rfl⟩,⟨by kernel_rfl,by kernel_rfl,by kernel_rfl⟩,by kernel_rfl,⟨by kernel_rfl,by kernel_rfl,by kernel_rfl⟩,⟨_,zc9,rfl⟩,by decide⟩
theorem icl39:IsClone Tryd.prog Tryd.f39 (Tryd.f39.body.getD .skip) 46 82 2 40:=⟨by kernel_rfl,by kernel_rfl,by kernel_rfl,by kernel_rfl,by kernel_rfl,by kernel_rfl,by kernel_rfl,by kernel_rfl,by kernel_rfl,⟨by kernel_rfl,by kernel_rfl,by kernel_rfl⟩,⟨by kernel_rfl,by kernel_rfl,by kernel_rfl⟩,⟨46,by kernel_rfl,by kernel_rfl,by kernel_rfl⟩,⟨by kernel_rfl,by kernel_rfl,by kernel_rfl⟩,⟨by kernel_rfl,by kernel_rfl,by kernel_rfl⟩,⟨by kernel_rfl,by kernel_rfl,by kernel_rfl⟩,⟨by kernel_rfl,by kernel_rfl,by kernel_rfl⟩,⟨by kernel_rfl,by kernel_rfl,by kernel_rfl⟩,by kernel_rfl,⟨by kernel_rfl,by kernel_rfl,by kernel_rfl⟩,⟨_,zc82,rfl⟩,by decide⟩
theorem icl40:IsClone Tryd.prog Tryd.f40 (Tryd.f40.body.getD .skip) 80 84 4 48:=⟨by kernel_rfl,by kernel_rfl,by kernel_rfl,by kernel_rfl,by kernel_rfl,by kernel_rfl,by kernel_rfl,by kernel_rfl,by kernel_rfl,⟨by kernel_rfl,by kernel_rfl,by kernel_rfl⟩,⟨by kernel_rfl,by kernel_rfl,by kernel_rfl⟩,⟨80,by kernel_rfl,by kernel_rfl,by kernel_rfl⟩,⟨by kernel_rfl,by kernel_rfl,by kernel_rfl⟩,⟨by kernel_rfl,by kernel_rfl,by kernel_rfl⟩,⟨by kernel_rfl,by kernel_rfl,by kernel_rfl⟩,⟨by kernel_rfl,by kernel_rfl,by kernel_rfl⟩,⟨by kernel_rfl,by kernel_rfl,by kernel_rfl⟩,by kernel_rfl,⟨by kernel_rfl,by kernel_rfl,by kernel_rfl⟩,⟨_,zc84,rfl⟩,by decide⟩
abbrev cpId:Nat:=23
noncomputable abbrev cpF:Func:=Tryd.f23
theorem cpFunc:Tryd.prog.funcs[cpId]? = some cpF:=Tryd.func23
theorem ccB {w:World} {H:FH} {rows:List (List D)} {v:Value} (hv:FDx H (.li rows) v) (hag:∀ b o y,H b o=some y->w.cell? ⟨b,o,none⟩=some y) (hrows:okRows 9 rows) (hbig:rows.length<=1000000):Calls Tryd.prog 37 #[v] w (fun e w'=>∃ y,e=.returned y/\ClR w H 9 rows y w'):=clone_calls Tryd.func37 (c:=Tryd.f37.body.getD .skip) (by kernel_rfl) icl37 hv hag hrows hbig
theorem ccS {w:World} {H:FH} {rows:List (List D)} {v:Value} (hv:FDx H (.li rows) v) (hag:∀ b o y,H b o=some y->w.cell? ⟨b,o,none⟩=some y) (hrows:okRows 1 rows) (hbig:rows.length<=1000000):Calls Tryd.prog 38 #[v] w (fun e w'=>∃ y,e=.returned y/\ClR w H 1 rows y w'):=clone_calls Tryd.func38 (c:=Tryd.f38.body.getD .skip) (by kernel_rfl) icl38 hv hag hrows hbig
theorem ccP {w:World} {H:FH} {rows:List (List D)} {v:Value} (hv:FDx H (.li rows) v) (hag:∀ b o y,H b o=some y->w.cell? ⟨b,o,none⟩=some y) (hrows:okRows 2 rows) (hbig:rows.length<=1000000):Calls Tryd.prog 39 #[v] w (fun e w'=>∃ y,e=.returned y/\ClR w H 2 rows y w'):=clone_calls Tryd.func39 (c:=Tryd.f39.body.getD .skip) (by kernel_rfl) icl39 hv hag hrows hbig
theorem ccI {w:World} {H:FH} {rows:List (List D)} {v:Value} (hv:FDx H (.li rows) v) (hag:∀ b o y,H b o=some y->w.cell? ⟨b,o,none⟩=some y) (hrows:okRows 4 rows) (hbig:rows.length<=1000000):Calls Tryd.prog 40 #[v] w (fun e w'=>∃ y,e=.returned y/\ClR w H 4 rows y w'):=clone_calls Tryd.func40 (c:=Tryd.f40.body.getD .skip) (by kernel_rfl) icl40 hv hag hrows hbig
noncomputable abbrev cq0:Code:=Tryd.f23.body.getD .skip
noncomputable abbrev cR0:Code:=kpL cq0
noncomputable abbrev cq1:Code:=kpR cq0
noncomputable abbrev cR1:Code:=kpL cq1
noncomputable abbrev cq2:Code:=kpR cq1
noncomputable abbrev cqL:Code:=kpL cq2
noncomputable abbrev cqT:Code:=kpR cq2
noncomputable abbrev cR13:Code:=kpL cqT
noncomputable abbrev cR2:Code:=kpL cqL
noncomputable abbrev cb1:Code:=kpB (kpB (kpR cqL))
noncomputable abbrev cR3:Code:=kpL cb1
noncomputable abbrev cc1:Code:=kpR (kpR cb1)
noncomputable abbrev cx1:Code:=kpB (kpL cc1)
noncomputable abbrev cR12:Code:=kpR cc1
noncomputable abbrev cR4:Code:=kpL cx1
noncomputable abbrev cx2:Code:=kpR cx1
noncomputable abbrev cR5:Code:=kpL cx2
noncomputable abbrev cx3:Code:=kpR cx2
noncomputable abbrev cR6:Code:=kpL cx3
noncomputable abbrev cx4:Code:=kpR cx3
noncomputable abbrev cR7:Code:=kpL cx4
noncomputable abbrev cb2:Code:=kpB (kpB (kpR cx4))
noncomputable abbrev cR8:Code:=kpL cb2
noncomputable abbrev cc2:Code:=kpR (kpR cb2)
noncomputable abbrev cy1:Code:=kpB (kpL cc2)
noncomputable abbrev cR11:Code:=kpR cc2
noncomputable abbrev cR9:Code:=kpL cy1
noncomputable abbrev cR10:Code:=kpR cy1
theorem cg0 {a:Act} {w:World} {Q:Exit->Act->World->Prop} {v:Value} (hk:KT 65 [(0,v)] a)  (h:∀ a,KT 65 [(0,v)] a->Q .normal a w):cR0.wp Tryd.prog Q a w:=by
 refine wp_reg (id:=0) (l:=[opN cR0 0]) (by kernel_rfl) ?_
 refine wpV (d:=2) (v:=.slice none 0 0) (by kernel_rfl) (by kernel_rfl) (by decide) hk (vAssign (x:=.const (.slice none 0 0)) (by kernel_rfl) (rfl)) (fun a hk=>?_)
 exact wpList_nil (h _ (hk.sub2 ⟨rfl,trivial⟩))
theorem cg1 {a:Act} {w:World} {Q:Exit->Act->World->Prop} {v:Value} (hk:KT 65 [(0,v)] a) {R:Value->World->Prop} (hC:Calls Tryd.prog 37 #[v] w (fun e w'=>∃ y,e=.returned y/\R y w')) (h:∀ y w' a,R y w'->KT 65 [(3,y)] a->Q .normal a w'):cR1.wp Tryd.prog Q a w:=by
 refine wp_reg (id:=1) (l:=[opN cR1 0,opN cR1 1,opN cR1 2]) (by kernel_rfl) ?_
 refine wpV (d:=6) (v:=v) (by kernel_rfl) (by kernel_rfl) (by decide) hk (vMove (x:=.tmp 0) (by kernel_rfl) (hk.ev rfl)) (fun a hk=>?_)
 refine wpC (d:=7) (x:=.tmp 6) (ts:=#[23]) Tryd.func37 (by kernel_rfl) (by kernel_rfl) (by kernel_rfl) (by kernel_rfl) (by decide) hk (by kernel_rfl) (hk.ev rfl) hC (fun y w' a hR hk=>?_)
 refine wpV (d:=3) (v:=y) (by kernel_rfl) (by kernel_rfl) (by decide) hk (vAssign (x:=.tmp 7) (by kernel_rfl) (hk.ev rfl)) (fun a hk=>?_)
 exact wpList_nil (h _ _ _ hR (hk.sub2 ⟨rfl,trivial⟩))
theorem cg2 {a:Act} {w:World} {Q:Exit->Act->World->Prop} {nB cB:Nat} {aB:Option Addr} (hk:KT 65 [(3,.slice aB nB cB)] a)  (h:∀ a,KT 65 [(3,.slice aB nB cB),(9,.int .i64 (nB:Nat)),(10,.int .i64 0)] a->Q .normal a w):cR2.wp Tryd.prog Q a w:=by
 refine wp_reg (id:=2) (l:=[opN cR2 0,opN cR2 1,opN cR2 2]) (by kernel_rfl) ?_
 refine wpV (d:=8) (v:=.slice aB nB cB) (by kernel_rfl) (by kernel_rfl) (by decide) hk (vMove (x:=.tmp 3) (by kernel_rfl) (hk.ev rfl)) (fun a hk=>?_)
 refine wpV (d:=9) (v:=.int .i64 (nB:Nat)) (by kernel_rfl) (by kernel_rfl) (by decide) hk (vLen (c:=⟨.builtin .len,#[.tmp 8],#[23]⟩) (t:=23) (x:=.tmp 8) (by kernel_rfl) rfl rfl rfl ⟨54,by kernel_rfl⟩ (hk.ev rfl)) (fun a hk=>?_)
 refine wpV (d:=10) (v:=.int .i64 0) (by kernel_rfl) (by kernel_rfl) (by decide) hk (vMove (x:=.const (.int .i64 0)) (by kernel_rfl) (rfl)) (fun a hk=>?_)
 exact wpList_nil (h _ (hk.sub2 ⟨rfl,rfl,rfl,trivial⟩))
theorem cg3 {a:Act} {w:World} {Q:Exit->Act->World->Prop} {nB cB:Nat} {aB:Option Addr} {i:Nat} (hk:KT 65 [(3,.slice aB nB cB),(9,.int .i64 (nB:Nat)),(10,.int .i64 (i:Int))] a) (hm:(Lit.int .i64 ((i:Int):Int)).wf=true) (hn:(Lit.int .i64 ((nB:Nat):Int)).wf=true) (h:∀ a,KT 65 [(11,.bool (decide (((i:Int):Int) < (nB:Nat)))),(3,.slice aB nB cB),(9,.int .i64 (nB:Nat)),(10,.int .i64 (i:Int))] a->Q .normal a w):cR3.wp Tryd.prog Q a w:=by
 refine wp_reg (id:=3) (l:=[opN cR3 0]) (by kernel_rfl) ?_
 refine wpV (d:=11) (v:=.bool (decide (((i:Int):Int) < (nB:Nat)))) (by kernel_rfl) (by kernel_rfl) (by decide) hk (vLss (t:=3) (x:=.tmp 10) (y:=.tmp 9) (z:=3) (by kernel_rfl) (hk.ev rfl) (hk.ev rfl) hm hn) (fun a hk=>?_)
 exact wpList_nil (h _ (hk.sub2 ⟨rfl,rfl,rfl,rfl,trivial⟩))
theorem cg4 {a:Act} {w:World} {Q:Exit->Act->World->Prop} {nB cB:Nat} {aB:Option Addr} {i:Nat} (hk:KT 65 [(3,.slice aB nB cB),(9,.int .i64 (nB:Nat)),(10,.int .i64 (i:Int))] a)  (h:∀ a,KT 65 [(3,.slice aB nB cB),(9,.int .i64 (nB:Nat)),(10,.int .i64 (i:Int)),(4,.int .i64 (i:Int))] a->Q .normal a w):cR4.wp Tryd.prog Q a w:=by
 refine wp_reg (id:=4) (l:=[opN cR4 0,opN cR4 1]) (by kernel_rfl) ?_
 refine wpV (d:=12) (v:=.int .i64 (i:Int)) (by kernel_rfl) (by kernel_rfl) (by decide) hk (vMove (x:=.tmp 10) (by kernel_rfl) (hk.ev rfl)) (fun a hk=>?_)
 refine wpV (d:=4) (v:=.int .i64 (i:Int)) (by kernel_rfl) (by kernel_rfl) (by decide) hk (vAssign (x:=.tmp 12) (by kernel_rfl) (hk.ev rfl)) (fun a hk=>?_)
 exact wpList_nil (h _ (hk.sub2 ⟨rfl,rfl,rfl,rfl,trivial⟩))
theorem cg5 {a:Act} {w:World} {Q:Exit->Act->World->Prop} {nB cB bB i:Nat} (hi:i<nB) {u:Value} (hk:KT 65 [(3,.slice (some ⟨bB,0,none⟩) nB cB),(9,.int .i64 (nB:Nat)),(10,.int .i64 (i:Int)),(4,.int .i64 (i:Int))] a) (h1:w.cell? ⟨bB,0+i*9+3+4,none⟩=some (u)) {R:Value->World->Prop} (hC:Calls Tryd.prog 38 #[u] w (fun e w'=>∃ y,e=.returned y/\R y w')) (hz:∀ y w',R y w'->∃ z,w'.cell? ⟨bB,0+i*9+3+4,none⟩=some z/\Thawed w' bB/\oneC y=true) (h:∀ y w' a,R y w'->KT 65 [(3,.slice (some ⟨bB,0,none⟩) nB cB),(9,.int .i64 (nB:Nat)),(10,.int .i64 (i:Int)),(4,.int .i64 (i:Int))] a->Q .normal a (w'.setCell ⟨bB,0+i*9+3+4,none⟩ y)):cR5.wp Tryd.prog Q a w:=by
 refine wp_reg (id:=5) (l:=[opN cR5 0,opN cR5 1,opN cR5 2,opN cR5 3,opN cR5 4,opN cR5 5,opN cR5 6,opN cR5 7,opN cR5 8,opN cR5 9,opN cR5 10,opN cR5 11,opN cR5 12]) (by kernel_rfl) ?_
 refine wpV (d:=13) (v:=.slice (some ⟨bB,0,none⟩) nB cB) (by kernel_rfl) (by kernel_rfl) (by decide) hk (vMove (x:=.tmp 3) (by kernel_rfl) (hk.ev rfl)) (fun a hk=>?_)
 refine wpV (d:=14) (v:=.int .i64 (i:Int)) (by kernel_rfl) (by kernel_rfl) (by decide) hk (vMove (x:=.tmp 4) (by kernel_rfl) (hk.ev rfl)) (fun a hk=>?_)
 refine wpV (d:=15) (v:=.slice (some ⟨bB,0,none⟩) nB cB) (by kernel_rfl) (by kernel_rfl) (by decide) hk (vMove (x:=.tmp 3) (by kernel_rfl) (hk.ev rfl)) (fun a hk=>?_)
 refine wpV (d:=16) (v:=.int .i64 (i:Int)) (by kernel_rfl) (by kernel_rfl) (by decide) hk (vMove (x:=.tmp 4) (by kernel_rfl) (hk.ev rfl)) (fun a hk=>?_)
 refine wpV (d:=17) (v:=.pointer (some ⟨bB,0+i*9,none⟩)) (by kernel_rfl) (by kernel_rfl) (by decide) hk (vIA (t:=23) (x:=.tmp 15) (i:=.tmp 16) (e:=9) (by kernel_rfl) (hk.ev rfl) (hk.ev rfl) ⟨Int.natCast_nonneg _,Int.ofNat_lt.2 hi⟩ (by kernel_rfl)) (fun a hk=>?_)
 refine wpV (d:=18) (v:=.pointer (some ⟨bB,0+i*9+3,none⟩)) (by kernel_rfl) (by kernel_rfl) (by decide) hk (vFA (t:=54) (x:=.tmp 17) (i:=3) (k:=3) (by kernel_rfl) (hk.ev rfl) (by kernel_rfl)) (fun a hk=>?_)
 refine wpV (d:=19) (v:=.pointer (some ⟨bB,0+i*9+3+4,none⟩)) (by kernel_rfl) (by kernel_rfl) (by decide) hk (vFA (t:=52) (x:=.tmp 18) (i:=2) (k:=4) (by kernel_rfl) (hk.ev rfl) (by kernel_rfl)) (fun a hk=>?_)
 refine wpV (d:=20) (v:=u) (by kernel_rfl) (by kernel_rfl) (by decide) hk (vLoad (t:=50) (x:=.tmp 19) (by kernel_rfl) (hk.ev rfl) ⟨by kernel_rfl,by kernel_rfl⟩ h1) (fun a hk=>?_)
 refine wpC (d:=21) (x:=.tmp 20) (ts:=#[50]) Tryd.func38 (by kernel_rfl) (by kernel_rfl) (by kernel_rfl) (by kernel_rfl) (by decide) hk (by kernel_rfl) (hk.ev rfl) hC (fun y w' a hR hk=>?_)
 refine wpV (d:=22) (v:=.pointer (some ⟨bB,0+i*9,none⟩)) (by kernel_rfl) (by kernel_rfl) (by decide) hk (vIA (t:=23) (x:=.tmp 13) (i:=.tmp 14) (e:=9) (by kernel_rfl) (hk.ev rfl) (hk.ev rfl) ⟨Int.natCast_nonneg _,Int.ofNat_lt.2 hi⟩ (by kernel_rfl)) (fun a hk=>?_)
 refine wpV (d:=23) (v:=.pointer (some ⟨bB,0+i*9+3,none⟩)) (by kernel_rfl) (by kernel_rfl) (by decide) hk (vFA (t:=54) (x:=.tmp 22) (i:=3) (k:=3) (by kernel_rfl) (hk.ev rfl) (by kernel_rfl)) (fun a hk=>?_)
 refine wpV (d:=24) (v:=.pointer (some ⟨bB,0+i*9+3+4,none⟩)) (by kernel_rfl) (by kernel_rfl) (by decide) hk (vFA (t:=52) (x:=.tmp 23) (i:=2) (k:=4) (by kernel_rfl) (hk.ev rfl) (by kernel_rfl)) (fun a hk=>?_)
 obtain ⟨z,hz1,hz2,hz3⟩:=hz _ _ hR
 refine wpVst (v:=y) (t:=50) (x:=.tmp 24) (y:=.tmp 21) (by kernel_rfl) (by kernel_rfl) (by kernel_rfl) (hk.ev rfl) (hk.ev rfl) ⟨by kernel_rfl,by kernel_rfl⟩ hz3 hz1 (frozen_thawed hz2) ?_
 exact wpList_nil (h _ _ _ hR (hk.sub2 ⟨rfl,rfl,rfl,rfl,trivial⟩))
theorem cg6 {a:Act} {w:World} {Q:Exit->Act->World->Prop} {nB cB bB i:Nat} (hi:i<nB) {u:Value} (hk:KT 65 [(3,.slice (some ⟨bB,0,none⟩) nB cB),(9,.int .i64 (nB:Nat)),(10,.int .i64 (i:Int)),(4,.int .i64 (i:Int))] a) (h1:w.cell? ⟨bB,0+i*9+1,none⟩=some (u)) {R:Value->World->Prop} (hC:Calls Tryd.prog 39 #[u] w (fun e w'=>∃ y,e=.returned y/\R y w')) (hz:∀ y w',R y w'->∃ z,w'.cell? ⟨bB,0+i*9+1,none⟩=some z/\Thawed w' bB/\oneC y=true) (h:∀ y w' a,R y w'->KT 65 [(3,.slice (some ⟨bB,0,none⟩) nB cB),(9,.int .i64 (nB:Nat)),(10,.int .i64 (i:Int)),(4,.int .i64 (i:Int))] a->Q .normal a (w'.setCell ⟨bB,0+i*9+1,none⟩ y)):cR6.wp Tryd.prog Q a w:=by
 refine wp_reg (id:=6) (l:=[opN cR6 0,opN cR6 1,opN cR6 2,opN cR6 3,opN cR6 4,opN cR6 5,opN cR6 6,opN cR6 7,opN cR6 8,opN cR6 9,opN cR6 10]) (by kernel_rfl) ?_
 refine wpV (d:=25) (v:=.slice (some ⟨bB,0,none⟩) nB cB) (by kernel_rfl) (by kernel_rfl) (by decide) hk (vMove (x:=.tmp 3) (by kernel_rfl) (hk.ev rfl)) (fun a hk=>?_)
 refine wpV (d:=26) (v:=.int .i64 (i:Int)) (by kernel_rfl) (by kernel_rfl) (by decide) hk (vMove (x:=.tmp 4) (by kernel_rfl) (hk.ev rfl)) (fun a hk=>?_)
 refine wpV (d:=27) (v:=.slice (some ⟨bB,0,none⟩) nB cB) (by kernel_rfl) (by kernel_rfl) (by decide) hk (vMove (x:=.tmp 3) (by kernel_rfl) (hk.ev rfl)) (fun a hk=>?_)
 refine wpV (d:=28) (v:=.int .i64 (i:Int)) (by kernel_rfl) (by kernel_rfl) (by decide) hk (vMove (x:=.tmp 4) (by kernel_rfl) (hk.ev rfl)) (fun a hk=>?_)
 refine wpV (d:=29) (v:=.pointer (some ⟨bB,0+i*9,none⟩)) (by kernel_rfl) (by kernel_rfl) (by decide) hk (vIA (t:=23) (x:=.tmp 27) (i:=.tmp 28) (e:=9) (by kernel_rfl) (hk.ev rfl) (hk.ev rfl) ⟨Int.natCast_nonneg _,Int.ofNat_lt.2 hi⟩ (by kernel_rfl)) (fun a hk=>?_)
 refine wpV (d:=30) (v:=.pointer (some ⟨bB,0+i*9+1,none⟩)) (by kernel_rfl) (by kernel_rfl) (by decide) hk (vFA (t:=54) (x:=.tmp 29) (i:=1) (k:=1) (by kernel_rfl) (hk.ev rfl) (by kernel_rfl)) (fun a hk=>?_)
 refine wpV (d:=31) (v:=u) (by kernel_rfl) (by kernel_rfl) (by decide) hk (vLoad (t:=46) (x:=.tmp 30) (by kernel_rfl) (hk.ev rfl) ⟨by kernel_rfl,by kernel_rfl⟩ h1) (fun a hk=>?_)
 refine wpC (d:=32) (x:=.tmp 31) (ts:=#[46]) Tryd.func39 (by kernel_rfl) (by kernel_rfl) (by kernel_rfl) (by kernel_rfl) (by decide) hk (by kernel_rfl) (hk.ev rfl) hC (fun y w' a hR hk=>?_)
 refine wpV (d:=33) (v:=.pointer (some ⟨bB,0+i*9,none⟩)) (by kernel_rfl) (by kernel_rfl) (by decide) hk (vIA (t:=23) (x:=.tmp 25) (i:=.tmp 26) (e:=9) (by kernel_rfl) (hk.ev rfl) (hk.ev rfl) ⟨Int.natCast_nonneg _,Int.ofNat_lt.2 hi⟩ (by kernel_rfl)) (fun a hk=>?_)
 refine wpV (d:=34) (v:=.pointer (some ⟨bB,0+i*9+1,none⟩)) (by kernel_rfl) (by kernel_rfl) (by decide) hk (vFA (t:=54) (x:=.tmp 33) (i:=1) (k:=1) (by kernel_rfl) (hk.ev rfl) (by kernel_rfl)) (fun a hk=>?_)
 obtain ⟨z,hz1,hz2,hz3⟩:=hz _ _ hR
 refine wpVst (v:=y) (t:=46) (x:=.tmp 34) (y:=.tmp 32) (by kernel_rfl) (by kernel_rfl) (by kernel_rfl) (hk.ev rfl) (hk.ev rfl) ⟨by kernel_rfl,by kernel_rfl⟩ hz3 hz1 (frozen_thawed hz2) ?_
 exact wpList_nil (h _ _ _ hR (hk.sub2 ⟨rfl,rfl,rfl,rfl,trivial⟩))
theorem cg7 {a:Act} {w:World} {Q:Exit->Act->World->Prop} {nB cB bB i:Nat} (hi:i<nB) {nC cC:Nat} {aC:Option Addr} (hk:KT 65 [(3,.slice (some ⟨bB,0,none⟩) nB cB),(9,.int .i64 (nB:Nat)),(10,.int .i64 (i:Int)),(4,.int .i64 (i:Int))] a) (h1:w.cell? ⟨bB,0+i*9+1,none⟩=some (.slice aC nC cC)) (h:∀ a,KT 65 [(3,.slice (some ⟨bB,0,none⟩) nB cB),(9,.int .i64 (nB:Nat)),(10,.int .i64 (i:Int)),(4,.int .i64 (i:Int)),(40,.int .i64 (nC:Nat)),(41,.int .i64 0)] a->Q .normal a w):cR7.wp Tryd.prog Q a w:=by
 refine wp_reg (id:=7) (l:=[opN cR7 0,opN cR7 1,opN cR7 2,opN cR7 3,opN cR7 4,opN cR7 5,opN cR7 6]) (by kernel_rfl) ?_
 refine wpV (d:=35) (v:=.slice (some ⟨bB,0,none⟩) nB cB) (by kernel_rfl) (by kernel_rfl) (by decide) hk (vMove (x:=.tmp 3) (by kernel_rfl) (hk.ev rfl)) (fun a hk=>?_)
 refine wpV (d:=36) (v:=.int .i64 (i:Int)) (by kernel_rfl) (by kernel_rfl) (by decide) hk (vMove (x:=.tmp 4) (by kernel_rfl) (hk.ev rfl)) (fun a hk=>?_)
 refine wpV (d:=37) (v:=.pointer (some ⟨bB,0+i*9,none⟩)) (by kernel_rfl) (by kernel_rfl) (by decide) hk (vIA (t:=23) (x:=.tmp 35) (i:=.tmp 36) (e:=9) (by kernel_rfl) (hk.ev rfl) (hk.ev rfl) ⟨Int.natCast_nonneg _,Int.ofNat_lt.2 hi⟩ (by kernel_rfl)) (fun a hk=>?_)
 refine wpV (d:=38) (v:=.pointer (some ⟨bB,0+i*9+1,none⟩)) (by kernel_rfl) (by kernel_rfl) (by decide) hk (vFA (t:=54) (x:=.tmp 37) (i:=1) (k:=1) (by kernel_rfl) (hk.ev rfl) (by kernel_rfl)) (fun a hk=>?_)
 refine wpV (d:=39) (v:=.slice aC nC cC) (by kernel_rfl) (by kernel_rfl) (by decide) hk (vLoad (t:=46) (x:=.tmp 38) (by kernel_rfl) (hk.ev rfl) ⟨by kernel_rfl,by kernel_rfl⟩ h1) (fun a hk=>?_)
 refine wpV (d:=40) (v:=.int .i64 (nC:Nat)) (by kernel_rfl) (by kernel_rfl) (by decide) hk (vLen (c:=⟨.builtin .len,#[.tmp 39],#[46]⟩) (t:=46) (x:=.tmp 39) (by kernel_rfl) rfl rfl rfl ⟨82,by kernel_rfl⟩ (hk.ev rfl)) (fun a hk=>?_)
 refine wpV (d:=41) (v:=.int .i64 0) (by kernel_rfl) (by kernel_rfl) (by decide) hk (vMove (x:=.const (.int .i64 0)) (by kernel_rfl) (rfl)) (fun a hk=>?_)
 exact wpList_nil (h _ (hk.sub2 ⟨rfl,rfl,rfl,rfl,rfl,rfl,trivial⟩))
theorem cg8 {a:Act} {w:World} {Q:Exit->Act->World->Prop} {nB cB bB i nC k:Nat} (hk:KT 65 [(3,.slice (some ⟨bB,0,none⟩) nB cB),(9,.int .i64 (nB:Nat)),(10,.int .i64 (i:Int)),(4,.int .i64 (i:Int)),(40,.int .i64 (nC:Nat)),(41,.int .i64 (k:Int))] a) (hm:(Lit.int .i64 ((k:Int):Int)).wf=true) (hn:(Lit.int .i64 ((nC:Nat):Int)).wf=true) (h:∀ a,KT 65 [(42,.bool (decide (((k:Int):Int) < (nC:Nat)))),(3,.slice (some ⟨bB,0,none⟩) nB cB),(9,.int .i64 (nB:Nat)),(10,.int .i64 (i:Int)),(4,.int .i64 (i:Int)),(40,.int .i64 (nC:Nat)),(41,.int .i64 (k:Int))] a->Q .normal a w):cR8.wp Tryd.prog Q a w:=by
 refine wp_reg (id:=8) (l:=[opN cR8 0]) (by kernel_rfl) ?_
 refine wpV (d:=42) (v:=.bool (decide (((k:Int):Int) < (nC:Nat)))) (by kernel_rfl) (by kernel_rfl) (by decide) hk (vLss (t:=3) (x:=.tmp 41) (y:=.tmp 40) (z:=3) (by kernel_rfl) (hk.ev rfl) (hk.ev rfl) hm hn) (fun a hk=>?_)
 exact wpList_nil (h _ (hk.sub2 ⟨rfl,rfl,rfl,rfl,rfl,rfl,rfl,trivial⟩))
theorem cg9 {a:Act} {w:World} {Q:Exit->Act->World->Prop} {nB cB bB i nC k:Nat} (hk:KT 65 [(3,.slice (some ⟨bB,0,none⟩) nB cB),(9,.int .i64 (nB:Nat)),(10,.int .i64 (i:Int)),(4,.int .i64 (i:Int)),(40,.int .i64 (nC:Nat)),(41,.int .i64 (k:Int))] a)  (h:∀ a,KT 65 [(3,.slice (some ⟨bB,0,none⟩) nB cB),(9,.int .i64 (nB:Nat)),(10,.int .i64 (i:Int)),(4,.int .i64 (i:Int)),(40,.int .i64 (nC:Nat)),(41,.int .i64 (k:Int)),(5,.int .i64 (k:Int))] a->Q .normal a w):cR9.wp Tryd.prog Q a w:=by
 refine wp_reg (id:=9) (l:=[opN cR9 0,opN cR9 1]) (by kernel_rfl) ?_
 refine wpV (d:=43) (v:=.int .i64 (k:Int)) (by kernel_rfl) (by kernel_rfl) (by decide) hk (vMove (x:=.tmp 41) (by kernel_rfl) (hk.ev rfl)) (fun a hk=>?_)
 refine wpV (d:=5) (v:=.int .i64 (k:Int)) (by kernel_rfl) (by kernel_rfl) (by decide) hk (vAssign (x:=.tmp 43) (by kernel_rfl) (hk.ev rfl)) (fun a hk=>?_)
 exact wpList_nil (h _ (hk.sub2 ⟨rfl,rfl,rfl,rfl,rfl,rfl,rfl,trivial⟩))
theorem cg10 {a:Act} {w:World} {Q:Exit->Act->World->Prop} {nB cB bB i:Nat} {nC cC k:Nat} {bC:Nat} (hi:i<nB) (hj:k<nC) {u:Value} (hk:KT 65 [(3,.slice (some ⟨bB,0,none⟩) nB cB),(9,.int .i64 (nB:Nat)),(10,.int .i64 (i:Int)),(4,.int .i64 (i:Int)),(40,.int .i64 (nC:Nat)),(41,.int .i64 (k:Int)),(5,.int .i64 (k:Int))] a) (h1:w.cell? ⟨bB,0+i*9+1,none⟩=some (.slice (some ⟨bC,0,none⟩) nC cC)) (h2:w.cell? ⟨bC,0+k*2+1,none⟩=some (u)) {R:Value->World->Prop} (hC:∀ w2:World,w2.heap=w.heap->w2.os=w.os->w2.tape=w.tape->w2.output=w.output->Calls Tryd.prog 40 #[u] w2 (fun e w'=>∃ y,e=.returned y/\R y w')) (hR:∀ y w',R y w'->∀ b,b<w.heap.size->w'.heap[b]? = w.heap[b]?) (hz:∀ y w',R y w'->∃ z,w'.cell? ⟨bC,0+k*2+1,none⟩=some z/\Thawed w' bC/\oneC y=true) (h:∀ y w' a,R y w'->KT 65 [(3,.slice (some ⟨bB,0,none⟩) nB cB),(9,.int .i64 (nB:Nat)),(10,.int .i64 (i:Int)),(4,.int .i64 (i:Int)),(40,.int .i64 (nC:Nat)),(41,.int .i64 (k:Int))] a->Q .normal a (w'.setCell ⟨bC,0+k*2+1,none⟩ y)):cR10.wp Tryd.prog Q a w:=by
 refine wp_drawK (id:=10) (ol:=[opN cR10 0,opN cR10 1,opN cR10 2,opN cR10 3,opN cR10 4,opN cR10 5,opN cR10 6,opN cR10 7,opN cR10 8,opN cR10 9,opN cR10 10,opN cR10 11,opN cR10 12,opN cR10 13,opN cR10 14,opN cR10 15,opN cR10 16,opN cR10 17,opN cR10 18]) (by kernel_rfl) 18 w.heap.size (by kernel_rfl) (fun w2 e1 e2 e3 e4=>?_)
 refine KD_take (i:=0) (d:=44) (v:=.slice (some ⟨bB,0,none⟩) nB cB) (o:=opN cR10 0) [2,3,4,16,17,18] (by kernel_rfl) (by kernel_rfl) (by kernel_rfl) (by decide) (by kernel_rfl) (by kernel_rfl) (by decide) hk (fun w' _=>vMove (x:=.tmp 3) (by kernel_rfl) (hk.ev rfl)) (fun a hk=>?_)
 refine KD_take (i:=1) (d:=45) (v:=.int .i64 (i:Int)) (o:=opN cR10 1) [2,3,4,16,17,18] (by kernel_rfl) (by kernel_rfl) (by kernel_rfl) (by decide) (by kernel_rfl) (by kernel_rfl) (by decide) hk (fun w' _=>vMove (x:=.tmp 4) (by kernel_rfl) (hk.ev rfl)) (fun a hk=>?_)
 refine KD_take (i:=2) (d:=46) (v:=.pointer (some ⟨bB,0+i*9,none⟩)) (o:=opN cR10 2) [3,4,16,17,18] (by kernel_rfl) (by kernel_rfl) (by kernel_rfl) (by decide) (by kernel_rfl) (by kernel_rfl) (by decide) hk (fun w' _=>vIA (t:=23) (x:=.tmp 44) (i:=.tmp 45) (e:=9) (by kernel_rfl) (hk.ev rfl) (hk.ev rfl) ⟨Int.natCast_nonneg _,Int.ofNat_lt.2 hi⟩ (by kernel_rfl)) (fun a hk=>?_)
 refine KD_take (i:=3) (d:=47) (v:=.pointer (some ⟨bB,0+i*9+1,none⟩)) (o:=opN cR10 3) [4,16,17,18] (by kernel_rfl) (by kernel_rfl) (by kernel_rfl) (by decide) (by kernel_rfl) (by kernel_rfl) (by decide) hk (fun w' _=>vFA (t:=54) (x:=.tmp 46) (i:=1) (k:=1) (by kernel_rfl) (hk.ev rfl) (by kernel_rfl)) (fun a hk=>?_)
 refine KD_take (i:=4) (d:=48) (v:=.slice (some ⟨bC,0,none⟩) nC cC) (o:=opN cR10 4) [16,17,18] (by kernel_rfl) (by kernel_rfl) (by kernel_rfl) (by decide) (by kernel_rfl) (by kernel_rfl) (by decide) hk (fun w' hs=>vLoad (t:=46) (x:=.tmp 47) (by kernel_rfl) (hk.ev rfl) ⟨by kernel_rfl,by kernel_rfl⟩ ((cell?_of_heap ((hs _ (World.block_lt_of_cell? _ _ h1)).trans (by rw [e1]))).trans h1)) (fun a hk=>?_)
 refine KD_take (i:=5) (d:=49) (v:=.int .i64 (k:Int)) (o:=opN cR10 5) [16,17,18] (by kernel_rfl) (by kernel_rfl) (by kernel_rfl) (by decide) (by kernel_rfl) (by kernel_rfl) (by decide) hk (fun w' _=>vMove (x:=.tmp 5) (by kernel_rfl) (hk.ev rfl)) (fun a hk=>?_)
 refine KD_take (i:=6) (d:=50) (v:=.slice (some ⟨bB,0,none⟩) nB cB) (o:=opN cR10 6) [8,9,10,12,13,14,15,18] (by kernel_rfl) (by kernel_rfl) (by kernel_rfl) (by decide) (by kernel_rfl) (by kernel_rfl) (by decide) hk (fun w' _=>vMove (x:=.tmp 3) (by kernel_rfl) (hk.ev rfl)) (fun a hk=>?_)
 refine KD_take (i:=7) (d:=51) (v:=.int .i64 (i:Int)) (o:=opN cR10 7) [8,9,10,12,13,14,15,18] (by kernel_rfl) (by kernel_rfl) (by kernel_rfl) (by decide) (by kernel_rfl) (by kernel_rfl) (by decide) hk (fun w' _=>vMove (x:=.tmp 4) (by kernel_rfl) (hk.ev rfl)) (fun a hk=>?_)
 refine KD_take (i:=8) (d:=52) (v:=.pointer (some ⟨bB,0+i*9,none⟩)) (o:=opN cR10 8) [9,10,12,13,14,15,18] (by kernel_rfl) (by kernel_rfl) (by kernel_rfl) (by decide) (by kernel_rfl) (by kernel_rfl) (by decide) hk (fun w' _=>vIA (t:=23) (x:=.tmp 50) (i:=.tmp 51) (e:=9) (by kernel_rfl) (hk.ev rfl) (hk.ev rfl) ⟨Int.natCast_nonneg _,Int.ofNat_lt.2 hi⟩ (by kernel_rfl)) (fun a hk=>?_)
 refine KD_take (i:=9) (d:=53) (v:=.pointer (some ⟨bB,0+i*9+1,none⟩)) (o:=opN cR10 9) [10,12,13,14,15,18] (by kernel_rfl) (by kernel_rfl) (by kernel_rfl) (by decide) (by kernel_rfl) (by kernel_rfl) (by decide) hk (fun w' _=>vFA (t:=54) (x:=.tmp 52) (i:=1) (k:=1) (by kernel_rfl) (hk.ev rfl) (by kernel_rfl)) (fun a hk=>?_)
 refine KD_take (i:=10) (d:=54) (v:=.slice (some ⟨bC,0,none⟩) nC cC) (o:=opN cR10 10) [12,13,14,15,18] (by kernel_rfl) (by kernel_rfl) (by kernel_rfl) (by decide) (by kernel_rfl) (by kernel_rfl) (by decide) hk (fun w' hs=>vLoad (t:=46) (x:=.tmp 53) (by kernel_rfl) (hk.ev rfl) ⟨by kernel_rfl,by kernel_rfl⟩ ((cell?_of_heap ((hs _ (World.block_lt_of_cell? _ _ h1)).trans (by rw [e1]))).trans h1)) (fun a hk=>?_)
 refine KD_take (i:=11) (d:=55) (v:=.int .i64 (k:Int)) (o:=opN cR10 11) [12,13,14,15,18] (by kernel_rfl) (by kernel_rfl) (by kernel_rfl) (by decide) (by kernel_rfl) (by kernel_rfl) (by decide) hk (fun w' _=>vMove (x:=.tmp 5) (by kernel_rfl) (hk.ev rfl)) (fun a hk=>?_)
 refine KD_take (i:=12) (d:=56) (v:=.pointer (some ⟨bC,0+k*2,none⟩)) (o:=opN cR10 12) [13,14,15,18] (by kernel_rfl) (by kernel_rfl) (by kernel_rfl) (by decide) (by kernel_rfl) (by kernel_rfl) (by decide) hk (fun w' _=>vIA (t:=46) (x:=.tmp 54) (i:=.tmp 55) (e:=2) (by kernel_rfl) (hk.ev rfl) (hk.ev rfl) ⟨Int.natCast_nonneg _,Int.ofNat_lt.2 hj⟩ (by kernel_rfl)) (fun a hk=>?_)
 refine KD_take (i:=13) (d:=57) (v:=.pointer (some ⟨bC,0+k*2+1,none⟩)) (o:=opN cR10 13) [14,15,18] (by kernel_rfl) (by kernel_rfl) (by kernel_rfl) (by decide) (by kernel_rfl) (by kernel_rfl) (by decide) hk (fun w' _=>vFA (t:=82) (x:=.tmp 56) (i:=1) (k:=1) (by kernel_rfl) (hk.ev rfl) (by kernel_rfl)) (fun a hk=>?_)
 refine KD_take (i:=14) (d:=58) (v:=u) (o:=opN cR10 14) [15,18] (by kernel_rfl) (by kernel_rfl) (by kernel_rfl) (by decide) (by kernel_rfl) (by kernel_rfl) (by decide) hk (fun w' hs=>vLoad (t:=80) (x:=.tmp 57) (by kernel_rfl) (hk.ev rfl) ⟨by kernel_rfl,by kernel_rfl⟩ ((cell?_of_heap ((hs _ (World.block_lt_of_cell? _ _ h2)).trans (by rw [e1]))).trans h2)) (fun a hk=>?_)
 refine KD_call (i:=15) (d:=59) (o:=opN cR10 15) (x:=.tmp 58) (ts:=#[80]) (by kernel_rfl) (by kernel_rfl) Tryd.func40 (by kernel_rfl) (by kernel_rfl) (by kernel_rfl) (by kernel_rfl) (by decide) hk (by kernel_rfl) (hk.ev rfl) (hC w2 e1 e2 e3 e4) (fun y w' hr b hb=>(hR y w' hr b hb).trans (by rw [e1])) (fun y w' a hR hk=>?_)
 refine KD_take (i:=16) (d:=60) (v:=.pointer (some ⟨bC,0+k*2,none⟩)) (o:=opN cR10 16) [17,18] (by kernel_rfl) (by kernel_rfl) (by kernel_rfl) (by decide) (by kernel_rfl) (by kernel_rfl) (by decide) hk (fun w' _=>vIA (t:=46) (x:=.tmp 48) (i:=.tmp 49) (e:=2) (by kernel_rfl) (hk.ev rfl) (hk.ev rfl) ⟨Int.natCast_nonneg _,Int.ofNat_lt.2 hj⟩ (by kernel_rfl)) (fun a hk=>?_)
 refine KD_take (i:=17) (d:=61) (v:=.pointer (some ⟨bC,0+k*2+1,none⟩)) (o:=opN cR10 17) [18] (by kernel_rfl) (by kernel_rfl) (by kernel_rfl) (by decide) (by kernel_rfl) (by kernel_rfl) (by decide) hk (fun w' _=>vFA (t:=82) (x:=.tmp 60) (i:=1) (k:=1) (by kernel_rfl) (hk.ev rfl) (by kernel_rfl)) (fun a hk=>?_)
 obtain ⟨z,hz1,hz2,hz3⟩:=hz _ _ hR
 refine KD_store (o:=opN cR10 18) (v:=y) (t:=80) (x:=.tmp 61) (y:=.tmp 59) (by kernel_rfl) (by kernel_rfl) (by kernel_rfl) (by kernel_rfl) (by kernel_rfl) (hk.ev rfl) (hk.ev rfl) ⟨by kernel_rfl,by kernel_rfl⟩ hz3 hz1 (frozen_thawed hz2) ?_
 exact KD_nil (by kernel_rfl) (h _ _ _ hR (hk.sub2 ⟨rfl,rfl,rfl,rfl,rfl,rfl,trivial⟩))
theorem cg11 {a:Act} {w:World} {Q:Exit->Act->World->Prop} {nB cB bB i nC k:Nat} (hk:KT 65 [(3,.slice (some ⟨bB,0,none⟩) nB cB),(9,.int .i64 (nB:Nat)),(10,.int .i64 (i:Int)),(4,.int .i64 (i:Int)),(40,.int .i64 (nC:Nat)),(41,.int .i64 (k:Int))] a) (hm:(Lit.int .i64 (k:Int)).wf=true) (hw:IntKind.i64.wrap ((k:Int)+1)=((k+1:Nat):Int)) (h:∀ a,KT 65 [(3,.slice (some ⟨bB,0,none⟩) nB cB),(9,.int .i64 (nB:Nat)),(10,.int .i64 (i:Int)),(4,.int .i64 (i:Int)),(40,.int .i64 (nC:Nat)),(41,.int .i64 ((k+1:Nat):Int))] a->Q .normal a w):cR11.wp Tryd.prog Q a w:=by
 refine wp_reg (id:=11) (l:=[opN cR11 0,opN cR11 1]) (by kernel_rfl) ?_
 refine wpV (d:=62) (v:=.int .i64 ((k+1:Nat):Int)) (by kernel_rfl) (by kernel_rfl) (by decide) hk (vAdd (t:=3) (x:=.tmp 41) (y:=.const (.int .i64 1)) (z:=3) (by kernel_rfl) (hk.ev rfl) rfl hm (by decide) hw) (fun a hk=>?_)
 refine wpV (d:=41) (v:=.int .i64 ((k+1:Nat):Int)) (by kernel_rfl) (by kernel_rfl) (by decide) hk (vMove (x:=.tmp 62) (by kernel_rfl) (hk.ev rfl)) (fun a hk=>?_)
 exact wpList_nil (h _ (hk.sub2 ⟨rfl,rfl,rfl,rfl,rfl,rfl,trivial⟩))
theorem cg12 {a:Act} {w:World} {Q:Exit->Act->World->Prop} {nB cB i:Nat} {aB:Option Addr} (hk:KT 65 [(3,.slice aB nB cB),(9,.int .i64 (nB:Nat)),(10,.int .i64 (i:Int))] a) (hm:(Lit.int .i64 (i:Int)).wf=true) (hw:IntKind.i64.wrap ((i:Int)+1)=((i+1:Nat):Int)) (h:∀ a,KT 65 [(3,.slice aB nB cB),(9,.int .i64 (nB:Nat)),(10,.int .i64 ((i+1:Nat):Int))] a->Q .normal a w):cR12.wp Tryd.prog Q a w:=by
 refine wp_reg (id:=12) (l:=[opN cR12 0,opN cR12 1]) (by kernel_rfl) ?_
 refine wpV (d:=63) (v:=.int .i64 ((i+1:Nat):Int)) (by kernel_rfl) (by kernel_rfl) (by decide) hk (vAdd (t:=3) (x:=.tmp 10) (y:=.const (.int .i64 1)) (z:=3) (by kernel_rfl) (hk.ev rfl) rfl hm (by decide) hw) (fun a hk=>?_)
 refine wpV (d:=10) (v:=.int .i64 ((i+1:Nat):Int)) (by kernel_rfl) (by kernel_rfl) (by decide) hk (vMove (x:=.tmp 63) (by kernel_rfl) (hk.ev rfl)) (fun a hk=>?_)
 exact wpList_nil (h _ (hk.sub2 ⟨rfl,rfl,rfl,trivial⟩))
theorem cg13 {a:Act} {w:World} {Q:Exit->Act->World->Prop} {nB cB:Nat} {aB:Option Addr} (hk:KT 65 [(3,.slice aB nB cB)] a)  (h:∀ a,KT 65 [(2,.slice aB nB cB)] a->Q .normal a w):cR13.wp Tryd.prog Q a w:=by
 refine wp_reg (id:=13) (l:=[opN cR13 0,opN cR13 1]) (by kernel_rfl) ?_
 refine wpV (d:=64) (v:=.slice aB nB cB) (by kernel_rfl) (by kernel_rfl) (by decide) hk (vMove (x:=.tmp 3) (by kernel_rfl) (hk.ev rfl)) (fun a hk=>?_)
 refine wpV (d:=2) (v:=.slice aB nB cB) (by kernel_rfl) (by kernel_rfl) (by decide) hk (vAssign (x:=.tmp 64) (by kernel_rfl) (hk.ev rfl)) (fun a hk=>?_)
 exact wpList_nil (h _ (hk.sub2 ⟨rfl,trivial⟩))
end Go.Am
end

section
namespace Go.Am
open Go Go.RowKit Go.Proofs
set_option maxRecDepth 100000
abbrev frz (n:Nat):List Sh:=List.replicate n .fr
abbrev shPhi:List Sh:=[.fr,.ow (frz 4)]
abbrev shBlk:List Sh:=[.fr,.ow shPhi,.fr,.fr,.fr,.fr,.fr,.ow (frz 1),.fr]
def okPhiR (p:List D):Prop:=∃ I,p[1]? = some (.li I)/\okRows 4 I/\I.length<=1000000
def okBlkR (r:List D):Prop:=(∃ L,r[7]? = some (.li L)/\okRows 1 L/\L.length<=1000000)/\∃ Q,r[1]? = some (.li Q)/\okRows 2 Q/\Q.length<=1000000/\∀ p∈Q,okPhiR p
structure Cst (w0 w:World) (f:Fp):Prop where
 le:∀ b,f b<=1
 rng:∀ b,f b≠0->w0.heap.size<=b/\b<w.heap.size
 bl:Below w0.heap.size w0 w
theorem agB {w0 w:World} {H:FH} (hag:∀ b o y,H b o=some y->w0.cell? ⟨b,o,none⟩=some y) (hb:Below w0.heap.size w0 w):∀ b o y,H b o=some y->w.cell? ⟨b,o,none⟩=some y:=fun b o y h=>by
 have h:=hag b o y h
 rw [cell?_of_heap (hb.block b (World.block_lt_of_cell? _ _ h))]
 exact h
theorem FDx_v {H:FH} {u y:Value} (h:FDx H (.v u) y):y=u:=by
 obtain ⟨m,h⟩:=h
 cases m <;> exact h.1
theorem ClR.same {w w2 w':World} {H:FH} {n:Nat} {L:List (List D)} {y:Value} (h1:w2.heap=w.heap) (h2:w2.os=w.os) (h3:w2.tape=w.tape) (h4:w2.output=w.output) (h:ClR w2 H n L y w'):ClR w H n L y w':=by
 obtain ⟨⟨a1,a2,a3,a4,a5⟩,m,g,b1,b2,b3⟩:=h
 exact ⟨⟨a1.trans h2,a2.trans h3,a3.trans h4,by rw [<- h1]; exact a4,fun k hk=>by rw [a5 k (by rw [h1]; exact hk),h1]⟩,m,g,b1,b2,fun b hb=>by rw [<- h1]; exact b3 b hb⟩
section
variable {w0 w w':World} {H:FH} {R:List (List Sh)} {rows:List (List D)} {q c:Nat} {f e:Fp} {ad:Option Addr}
theorem od_put (h:OM w H R rows q f ad c) (hR:∀ s∈R,s.length=q) (hl:R.length=rows.length) {i j:Nat} (hi:i<rows.length) (hj:j<q) (hst:Cst w0 w (fun b=>f b+e b)) (hb:Below w.heap.size w w') {s':Sh} {x':D} {m:Nat} {g:Fp} {y:Value} (hy:OD w' H m s' x' g y) (hs:x'.sure=true) (hg1:∀ b,g b<=1) (hg:∀ b,g b≠0->w.heap.size<=b/\b<w'.heap.size) :
  ∃ B,ad=some ⟨B,0,none⟩/\(∃ z,w'.cell? ⟨B,i*q+j,none⟩=some z/\Thawed w' B/\oneC y=true)/\∃ f',OM (w'.setCell ⟨B,i*q+j,none⟩ y) H (R.set i ((R.getD i []).set j s')) (rows.set i ((rows.getD i []).set j x')) q f' ad c /\
   Cst w0 (w'.setCell ⟨B,i*q+j,none⟩ y) (fun b=>f' b+e b)/\(∀ b,e b≠0->(w'.setCell ⟨B,i*q+j,none⟩ y).heap[b]? = w.heap[b]?)/\f B≠0/\∀ b,f' b<=f b+g b:=by
 have hf1:∀ b,f b<=1:=fun b=>by have:=hst.le b; (try dsimp only at *); omega
 have hflt:∀ b,f b≠0->b<w.heap.size:=fun b hb=>(hst.rng b (by (try dsimp only); omega)).2
 obtain ⟨B,e1,e2,⟨z,e3⟩,e4,f',e5,e6⟩:=h.put hR hl hi hj hf1 hflt hb hy (fun b hb=>(hg b hb).1)
 have hBr:=hst.rng B (by (try dsimp only); omega)
 refine ⟨B,e1,⟨z,e3,e4,OD_one hs hy⟩,f',e5,⟨fun b=>?_,fun b hb'=>?_,?_⟩,fun b hb'=>?_,e2,e6⟩
 ·have h1:=e6 b; have h2:=hst.le b; have h3:=hg b; have h4:=hst.rng b; have h5:=hg1 b
  (try dsimp only at *)
  omega
 ·have h1:=e6 b; have h3:=hg b; have h4:=hst.rng b; have h5:=hb.size
  rw [World.size_setCell]
  have hw0:=hst.bl.size
  (try dsimp only at *)
  omega
 ·refine (hst.bl.trans ⟨hb.os,hb.tape,hb.output,hb.size,fun k hk=>hb.block k (by have:=hst.bl.size; omega)⟩).trans ⟨rfl,rfl,rfl,by rw [World.size_setCell]; exact Nat.le_refl _,fun k hk=>heap_setCell_ne (by omega)⟩
 ·have h2:=hst.le b
  have h4:=hst.rng b (by (try dsimp only); omega)
  (try dsimp only at *)
  rw [heap_setCell_ne (fun h=>by subst h; omega)]
  exact hb.block b h4.2
theorem cl_put (h:OM w H R rows q f ad c) (hR:∀ s∈R,s.length=q) (hl:R.length=rows.length) {i j n:Nat} (hi:i<rows.length) (hj:j<q) (hst:Cst w0 w (fun b=>f b+e b)) {L:List (List D)} (hx:(rows.getD i [])[j]? = some (.li L)) {y:Value} (hc:ClR w H n L y w') :
  ∃ B,ad=some ⟨B,0,none⟩/\(∃ z,w'.cell? ⟨B,i*q+j,none⟩=some z/\Thawed w' B/\oneC y=true)/\∃ f',OM (w'.setCell ⟨B,i*q+j,none⟩ y) H (R.set i ((R.getD i []).set j (.ow (frz n)))) rows q f' ad c /\
   Cst w0 (w'.setCell ⟨B,i*q+j,none⟩ y) (fun b=>f' b+e b)/\(∀ b,e b≠0->(w'.setCell ⟨B,i*q+j,none⟩ y).heap[b]? = w.heap[b]?)/\f B≠0:=by
 obtain ⟨hb,m,g,h1,h2,h3⟩:=hc
 have:=od_put h hR hl hi hj hst hb h1 rfl h2 h3
 rw [rows_same hx] at this
 obtain ⟨B,c1,c2,f',c3,c4,c5,c6,_⟩:=this
 exact ⟨B,c1,c2,f',c3,c4,c5,c6⟩
end
theorem set_getD {α:Type} {l:List (List α)} {i:Nat} {x:List α} (h:i<l.length):(l.set i x).getD i []=x:=by simp [List.getD,h]
theorem Cst.zero {w0 w:World} {f:Fp} (h:Cst w0 w f):Cst w0 w (fun b=>f b+0):=h
section
variable {w0:World} {H:FH} (hag:∀ b o y,H b o=some y->w0.cell? ⟨b,o,none⟩=some y)
include hag
theorem cp2 {nB cB bB i:Nat} {rows:List (List D)} {R:List (List Sh)} (hi:i<nB) (hlen:rows.length=nB) (hR:∀ s∈R,s.length=9) (hRl:R.length=nB) {Ps:List (List D)} {aC:Option Addr} {cC:Nat} {fB fC:Fp}
  (hs:(R.getD i [])[1]? = some .fr) (hx:(rows.getD i [])[1]? = some (.v (.slice aC Ps.length cC))) {a:Act} {w:World}
  (hB:OM w H R rows 9 fB (some ⟨bB,0,none⟩) cB) (hCm:OM w H (List.replicate Ps.length (frz 2)) Ps 2 fC aC cC) (hst:Cst w0 w (fun b=>fC b+fB b)) (hP:∀ p∈Ps,okPhiR p) (hPn:Ps.length<=1000000)
  (hk:KT 65 [(3,.slice (some ⟨bB,0,none⟩) nB cB),(9,.int .i64 (nB:Nat)),(10,.int .i64 (i:Int)),(4,.int .i64 (i:Int))] a) {Q:Exit->Act->World->Prop}
  (hQ:∀ a w fC',KT 65 [(3,.slice (some ⟨bB,0,none⟩) nB cB),(9,.int .i64 (nB:Nat)),(10,.int .i64 (i:Int))] a->OM w H R rows 9 fB (some ⟨bB,0,none⟩) cB->OM w H (List.replicate Ps.length shPhi) Ps 2 fC' aC cC->Cst w0 w (fun b=>fC' b+fB b)->Q .normal a w):cx4.wp Tryd.prog Q a w:=by
 have e1:0+i*9+1=i*9+1:=by omega
 have ldB:∀ {w fB},OM w H R rows 9 fB (some ⟨bB,0,none⟩) cB->w.cell? ⟨bB,0+i*9+1,none⟩=some (.slice aC Ps.length cC):=fun hB=>by
  obtain ⟨B,e,s,x,v,m,fk,fr,a1,a2,a3,a4,_⟩:=hB.row hR (by omega) (i:=i) (j:=1) (by omega) (by omega)
  obtain rfl:bB=B:=by simpa using e
  rw [hs] at a1; rw [hx] at a2
  obtain rfl:=Option.some.inj a1
  obtain rfl:=Option.some.inj a2
  rw [FDx_v (OD_fr.1 a4).2] at a3
  rw [e1]; exact a3
 refine wp_sq (x:=cR7) (y:=.block 2 (.loop cb2)) (by kernel_rfl) ?_
 refine cg7 hi hk (ldB hB) (fun a hk=>?_)
 refine wp_bk (c:=.loop cb2) (id:=2) rfl ?_
 refine wp_for (I:=fun (k:Nat) a w=>KT 65 [(3,.slice (some ⟨bB,0,none⟩) nB cB),(9,.int .i64 (nB:Nat)),(10,.int .i64 (i:Int)),(4,.int .i64 (i:Int)),(40,.int .i64 (Ps.length:Nat)),(41,.int .i64 (k:Int))] a /\
   ∃ fC,OM w H R rows 9 fB (some ⟨bB,0,none⟩) cB/\OM w H (Rn Ps.length k shPhi (frz 2)) Ps 2 fC aC cC/\Cst w0 w (fun b=>fC b+fB b)) (N:=Ps.length) (i0:=0) ⟨hk,fC,hB,by rw [Rn_0]; exact hCm,hst⟩ (Nat.zero_le _) ?_
 clear hk hB hCm hst
 rintro k a w hkn ⟨hk,fC,hB,hCm,hst⟩
 refine wp_sq (x:=cR8) (y:=.seq (.cond (.tmp 42) .skip (.exit 2)) cc2) (by kernel_rfl) ?_
 refine cg8 hk (wf_nat (by show _<=4611686018427387904; omega)) (wf_nat (by show _<=4611686018427387904; omega)) (fun a hk=>?_)
 refine wp_sq rfl ?_
 by_cases hl:k<Ps.length
 ·refine wp_cond_true (by rw [hk.ev (i:=42) rfl]; simp [hl]) (wp_skip ?_)
  refine wp_sq (x:=.block 3 cy1) (y:=cR11) (by kernel_rfl) ?_
  refine wp_bk (c:=cy1) (id:=3) rfl ?_
  refine wp_sq (x:=cR9) (y:=cR10) (by kernel_rfl) ?_
  refine cg9 (hk.sub2 ⟨rfl,rfl,rfl,rfl,rfl,rfl,trivial⟩) (fun a hk=>?_)
  have hRm:=Rn_mem (n:=Ps.length) (i:=k) (s:=shPhi) (z:=frz 2) rfl
  have hRl2:(Rn Ps.length k shPhi (frz 2)).length=Ps.length:=Rn_len (by omega)
  obtain ⟨bC,rfl,s,x,u,m,fk,fr,a1,a2,a3,a4,_⟩:=hCm.row hRm hRl2 (i:=k) (j:=1) hl (by decide)
  rw [Rn_get hl] at a1
  obtain rfl:=Option.some.inj a1
  have hpk:Ps.getD k []=Ps[k]:=by simp [List.getD,hl]
  obtain ⟨I,b1,b2,b3⟩:=hP _ (List.getElem_mem hl)
  rw [<- hpk] at b1
  rw [b1] at a2
  obtain rfl:=Option.some.inj a2
  have e2:0+k*2+1=k*2+1:=by omega
  refine cg10 hi hl hk (ldB hB) (by rw [e2]; exact a3) (R:=ClR w H 4 I) (fun w2 h1 h2 h3 h4=>?_) (fun y w' hc b hb=>hc.1.block b hb) (fun y w' hc=>?_) (fun y w' a hc hk=>?_)
  ·refine Calls.mono (ccI (H:=H) (rows:=I) (OD_fr.1 a4).2 (fun b o y h=>?_) b2 b3) (fun e w' ⟨y,h5,h6⟩=>⟨y,h5,h6.same h1 h2 h3 h4⟩)
   exact (cell?_of_heap (w':=w2) (by rw [h1])).trans (agB hag hst.bl b o y h)
  ·obtain ⟨B,c1,c2,_⟩:=cl_put hCm hRm hRl2 (n:=4) hl (j:=1) (by decide) hst b1 hc
   obtain rfl:bC=B:=by simpa using c1
   rw [e2]; exact c2
  ·obtain ⟨B,c1,c2,f',c3,c4,c5,_⟩:=cl_put hCm hRm hRl2 (n:=4) hl (j:=1) (by decide) hst b1 hc
   obtain rfl:bC=B:=by simpa using c1
   rw [e2]
   refine cg11 hk (wf_nat (by show _<=4611686018427387904; omega)) (wrap_suc (by show _ < 4611686018427387904; omega)) (fun a hk=>?_)
   refine ⟨hl,hk,f',hB.frame c5,?_,c4⟩
   rw [<- Rn_set hl]
   rw [Rn_get hl] at c3
   exact c3
 ·refine wp_cond_false (by rw [hk.ev (i:=42) rfl]; simp [hl]) (wp_exit ?_)
  have hkk:k=Ps.length:=by omega
  subst hkk
  rw [Rn_n] at hCm
  exact (if_pos rfl).mpr (hQ _ _ _ (hk.sub2 ⟨rfl,rfl,rfl,trivial⟩) hB hCm hst)
theorem cp1 {nB cB:Nat} {aB:Option Addr} {rows:List (List D)} (hlen:rows.length=nB) (hnB:nB<=1000000) (hok:∀ r∈rows,okBlkR r) {fB:Fp} {a:Act} {w:World} (hB:OM w H (List.replicate nB (frz 9)) rows 9 fB aB cB) (hst:Cst w0 w fB)
  (hk:KT 65 [(3,.slice aB nB cB)] a) {Q:Exit->Act->World->Prop} (hQ:∀ a w fB,KT 65 [(3,.slice aB nB cB)] a->OM w H (List.replicate nB shBlk) rows 9 fB aB cB->Cst w0 w fB->Q .normal a w):cqL.wp Tryd.prog Q a w:=by
 refine wp_sq (x:=cR2) (y:=.block 0 (.loop cb1)) (by kernel_rfl) ?_
 refine cg2 hk (fun a hk=>?_)
 refine wp_bk (c:=.loop cb1) (id:=0) rfl ?_
 refine wp_for (I:=fun (i:Nat) a w=>KT 65 [(3,.slice aB nB cB),(9,.int .i64 (nB:Nat)),(10,.int .i64 (i:Int))] a/\∃ fB,OM w H (Rn nB i shBlk (frz 9)) rows 9 fB aB cB/\Cst w0 w fB) (N:=nB) (i0:=0) ⟨hk,fB,by rw [Rn_0]; exact hB,hst⟩ (Nat.zero_le _) ?_
 clear hk hB hst
 rintro i a w hin ⟨hk,fB,hB,hst⟩
 refine wp_sq (x:=cR3) (y:=.seq (.cond (.tmp 11) .skip (.exit 0)) cc1) (by kernel_rfl) ?_
 refine cg3 hk (wf_nat (by show _<=4611686018427387904; omega)) (wf_nat (by show _<=4611686018427387904; omega)) (fun a hk=>?_)
 refine wp_sq rfl ?_
 by_cases hi:i<nB
 ·refine wp_cond_true (by rw [hk.ev (i:=11) rfl]; simp [hi]) (wp_skip ?_)
  refine wp_sq (x:=.block 1 cx1) (y:=cR12) (by kernel_rfl) ?_
  refine wp_bk (c:=cx1) (id:=1) rfl ?_
  refine wp_sq (x:=cR4) (y:=cx2) (by kernel_rfl) ?_
  refine cg4 (hk.sub2 ⟨rfl,rfl,rfl,trivial⟩) (fun a hk=>?_)
  have hRm:=Rn_mem (n:=nB) (i:=i) (s:=shBlk) (z:=frz 9) rfl
  have hRl:(Rn nB i shBlk (frz 9)).length=rows.length:=by rw [Rn_len (by omega),hlen]
  have hi':i<rows.length:=by omega
  have hrk:rows.getD i []=rows[i]:=by simp [List.getD,hi']
  obtain ⟨⟨L,l1,l2,l3⟩,Q0,q1,q2,q3,q4⟩:=hok _ (List.getElem_mem hi')
  rw [<- hrk] at l1 q1
  obtain ⟨bB,rfl,s,x,u,m,fk,fr,a1,a2,a3,a4,_⟩:=hB.row hRm hRl (i:=i) (j:=7) hi' (by decide)
  rw [Rn_get hi] at a1
  obtain rfl:=Option.some.inj a1
  rw [l1] at a2
  obtain rfl:=Option.some.inj a2
  have e7:0+i*9+3+4=i*9+7:=by omega
  have e1:0+i*9+1=i*9+1:=by omega
  refine wp_sq (x:=cR5) (y:=cx3) (by kernel_rfl) ?_
  refine cg5 hi hk (by rw [e7]; exact a3) (ccS (OD_fr.1 a4).2 (agB hag hst.bl) l2 l3) (fun y w' hc=>?_) (fun y w' a hc hk=>?_)
  ·obtain ⟨B,c1,c2,_⟩:=cl_put hB hRm hRl (n:=1) hi' (j:=7) (by decide) hst.zero l1 hc
   obtain rfl:bB=B:=by simpa using c1
   rw [e7]; exact c2
  obtain ⟨B,c1,c2,f1,hB1,hst1,_⟩:=cl_put hB hRm hRl (n:=1) hi' (j:=7) (by decide) hst.zero l1 hc
  obtain rfl:bB=B:=by simpa using c1
  rw [e7]
  generalize w'.setCell ⟨bB,i*9+7,none⟩ y=w at hB1 hst1 ⊢
  rw [Rn_get hi] at hB1
  generalize hR1:(Rn nB i shBlk (frz 9)).set i ((frz 9).set 7 (.ow (frz 1)))=R1 at hB1
  have hR1g:R1.getD i []=(frz 9).set 7 (.ow (frz 1)):=by rw [<- hR1]; exact set_getD (by omega)
  have hR1m:∀ s∈R1,s.length=9:=by
   intro s hs
   rw [<- hR1] at hs
   rcases List.mem_or_eq_of_mem_set hs with h | h
   ·exact hRm s h
   ·rw [h]; rfl
  have hR1l:R1.length=rows.length:=by rw [<- hR1]; simpa using hRl
  obtain ⟨B,c1,s,x,u2,m2,fk,fr,a1,a2,a3,a4,_⟩:=hB1.row hR1m hR1l (i:=i) (j:=1) hi' (by decide)
  obtain rfl:bB=B:=by simpa using c1
  rw [hR1g] at a1
  obtain rfl:=Option.some.inj a1
  rw [q1] at a2
  obtain rfl:=Option.some.inj a2
  refine wp_sq (x:=cR6) (y:=cx4) (by kernel_rfl) ?_
  refine cg6 hi hk (by rw [e1]; exact a3) (ccP (OD_fr.1 a4).2 (agB hag hst1.bl) q2 q3) (fun y w' hc=>?_) (fun v1 w' a hc hk=>?_)
  ·obtain ⟨B,c1,c2,_⟩:=cl_put hB1 hR1m hR1l (n:=2) hi' (j:=1) (by decide) hst1 q1 hc
   obtain rfl:bB=B:=by simpa using c1
   rw [e1]; exact c2
  obtain ⟨hbl,m3,g,hod,hg1,hg⟩:=hc
  obtain ⟨aC,cC,rfl,hC⟩:=OM_of hod
  obtain ⟨B,c1,_,f2,hB2,hst2,_,hfB,hf2⟩:=od_put hB1 hR1m hR1l hi' (j:=1) (by decide) hst1 hbl (s':=.fr) (x':=.v (.slice aC Q0.length cC)) (m:=1) (g:=fun _=>0) (y:=.slice aC Q0.length cC) (OD_fr.2 ⟨fun _=>rfl,0,rfl,rfl⟩) rfl (fun _=>Nat.zero_le _) (fun b hb=>absurd rfl hb)
  obtain rfl:bB=B:=by simpa using c1
  rw [e1]
  have hB0:=(hst1.rng bB (by (try dsimp only); omega)).2
  have hgB:g bB=0:=by
   rcases Nat.eq_zero_or_pos (g bB) with h | h
   ·exact h
   ·have:=(hg bB (by omega)).1; omega
  have hC2:=hC.frame (w':=w'.setCell ⟨bB,i*9+1,none⟩ (.slice aC Q0.length cC)) (fun b hb=>heap_setCell_ne (fun e=>hb (by rw [e]; exact hgB)))
  have hst3:Cst w0 (w'.setCell ⟨bB,i*9+1,none⟩ (.slice aC Q0.length cC)) (fun b=>g b+f2 b):=by
   refine ⟨fun b=>?_,fun b hb=>?_,hst2.bl⟩
   ·have h1:=hg b; have h2:=hst1.rng b; have h3:=hf2 b; have h4:=hst2.le b; have h5:=hg1 b
    (try dsimp only at *)
    omega
   ·have h1:=hg b; have h2:=hst2.rng b; have h3:=hst1.bl.size
    rw [World.size_setCell] at h2 ⊢
    (try dsimp only at *)
    omega
  have hs1:(R1.getD i [])[1]? = some .fr:=by rw [hR1g]; rfl
  rw [rows_same hs1] at hB2
  have h1len:1 < (rows.getD i []).length:=(List.getElem?_eq_some_iff.1 q1).1
  have hg2:(rows.set i ((rows.getD i []).set 1 (.v (.slice aC Q0.length cC)))).getD i []=(rows.getD i []).set 1 (.v (.slice aC Q0.length cC)):=set_getD hi'
  have hx2:((rows.set i ((rows.getD i []).set 1 (.v (.slice aC Q0.length cC)))).getD i [])[1]? = some (.v (.slice aC Q0.length cC)):=by
   rw [hg2,List.getElem?_set_self h1len]
  refine cp2 hag hi (by simpa using hlen) hR1m (by omega) hs1 hx2 hB2 hC2 hst3 q4 q3 hk (fun a w fC' hk hB hC hst=>?_)
  obtain ⟨m4,hod4⟩:=hC.od
  obtain ⟨B,c1,s,x,u3,m5,fk,fr,a1,a2,a3,a4,a5,_,_,a8,_⟩:=hB.row hR1m (by simpa using hR1l) (i:=i) (j:=1) (by simpa using hi') (by decide)
  rw [hs1] at a1
  obtain rfl:=Option.some.inj a1
  rw [hx2] at a2
  obtain rfl:=Option.some.inj a2
  obtain rfl:=FDx_v (OD_fr.1 a4).2
  have hz:=(OD_fr.1 a4).1
  have hB3:=a8 (.ow shPhi) (.li Q0) fC' m4 hod4
  rw [hg2,hR1g,List.set_set,List.set_set,rows_same q1,<- hR1,List.set_set] at hB3
  refine cg12 hk (wf_nat (by show _<=4611686018427387904; omega)) (wrap_suc (by show _ < 4611686018427387904; omega)) (fun a hk=>⟨hi,hk,fun b=>fC' b+f2 b,?_,?_⟩)
  ·rw [<- Rn_set hi]
   rw [show (fun b=>fC' b+fr b)=fun b=>fC' b+f2 b from funext (fun b=>by have:=a5 b; have:=hz b; omega)] at hB3
   exact hB3
  ·exact hst
 ·refine wp_cond_false (by rw [hk.ev (i:=11) rfl]; simp [hi]) (wp_exit ?_)
  have hkk:i=nB:=by omega
  subst hkk
  rw [Rn_n] at hB
  exact (if_pos rfl).mpr (hQ _ _ _ (hk.sub2 ⟨rfl,trivial⟩) hB hst)
theorem copied_calls {rows:List (List D)} {v:Value} (hv:FDx H (.li rows) v) (hok:∀ r∈rows,okBlkR r) (hrows:okRows 9 rows) (hbig:rows.length<=1000000) :
  Calls Tryd.prog cpId #[v] w0 (fun e w'=>∃ y,e=.returned y/\∃ m g,OD w' H m (.ow shBlk) (.li rows) g y/\Cst w0 w' g):=by
 refine Calls_code (args:=[v]) (c:=cq0) cpFunc (by kernel_rfl) w0 (fun y w'=>∃ m g,OD w' H m (.ow shBlk) (.li rows) g y/\Cst w0 w' g) (show 1<=cpF.ntmps by decide +kernel) (fun a0 hn0 hd0 ht0=>?_)
 have hk:=KT_of (nt:=65) (l:=[(0,v)]) (hn0.trans (by kernel_rfl)) hd0 (fun x hx=>by obtain rfl:=List.mem_singleton.1 hx; exact ht0 0 v rfl)
 refine wp_sq (x:=cR0) (y:=cq1) (by kernel_rfl) ?_
 refine cg0 hk (fun a hk=>?_)
 refine wp_sq (x:=cR1) (y:=cq2) (by kernel_rfl) ?_
 refine cg1 hk (ccB hv hag hrows hbig) (fun y w a hc hk=>?_)
 obtain ⟨hbl,m,g,hod,hg1,hg⟩:=hc
 obtain ⟨aB,cB,rfl,hB⟩:=OM_of hod
 refine wp_sq (x:=cqL) (y:=cqT) (by kernel_rfl) ?_
 refine cp1 hag rfl hbig hok hB ⟨hg1,hg,hbl⟩ hk (fun a w fB hk hB hst=>?_)
 refine wp_sq (x:=cR13) (y:=.ret) (by kernel_rfl) ?_
 refine cg13 hk (fun a hk=>?_)
 obtain ⟨m,hod⟩:=hB.od
 exact wp_ret ⟨.inr rfl,hk.df,_,res_one (nt:=65) (show cpF.results=#[.tmp 2] by kernel_rfl) hk rfl (by decide),m,fB,hod,hst⟩
end
end Go.Am
end

section
namespace Go.Am
open Go Go.Proofs
def newT (sh:List Sh) (u:U) (nm:Nm) (pre:List (El u)->Prop):CKt:=fun _ s ops k=>
 let s1:=frzAts s (ops.map (evA s))
 match canAs [.sl u] (ops.map (evA s1)) with
 | some l=>pre l/\k ((s1.fresh nm).root nm ⟨false,[.ow sh u l],none⟩) (.one (.c (.rf ⟨nm,0,[]⟩)))
 | none=>False
def newB (sh:List Sh) (u:U) (nm:Nm) (pb:List (El u)->Bool):CKb:=fun s ops k=>
 let s1:=frzAts s (ops.map (evA s))
 match canAs [.sl u] (ops.map (evA s1)) with
 | some l=>match pb l with
  | true=>k ((s1.fresh nm).root nm ⟨false,[.ow sh u l],none⟩) (.one (.c (.rf ⟨nm,0,[]⟩)))
  | false=>false
 | none=>false
theorem newB_ck {sh:List Sh} {u:U} {nm:Nm} {pb:List (El u)->Bool} {pre:List (El u)->Prop} (hp:∀ l,pb l=true->pre l):CkOk (newB sh u nm pb) (newT sh u nm pre):=by
 intro pk s ops kb k hk h
 unfold newB at h
 unfold newT
 dsimp only at h ⊢
 split at h
 ·split at h
  ·rename_i hb; exact ⟨hp _ hb,hk _ _ h⟩
  ·cases h
 ·cases h
section
variable {P:Program}
theorem Cont_new {f:Nat} {fn:Func} {sh:List Sh} {u:U} {nm:Nm} (hno:nm.isOut=false) {pre:List (El u)->Prop} (hf:P.funcs[f]? = some fn) (hname:(fn.name == "runtime.NumGoroutine")=false) (hb:fn.body.isSome=true)
  (hbody:∀ (l:List (El u)) (v:Value) (w:World) (H:FH),pre l->FDx H (.li (l.map (encU u))) v->(∀ b o y,H b o=some y->w.cell? ⟨b,o,none⟩=some y) ->
   Calls P f #[v] w (fun e w'=>∃ y,e=.returned y/\∃ m g,OD w' H m (.ow sh) (.li (l.map (encU u))) g y/\Cst w w' g)):Cont P f (newT sh u nm pre):=by
 refine ⟨fun args w=>run_fn2 hf hname hb args w,fun pk s ops k k' hk hc=>?_,fun g pk s a w H γ F1 ops k hX hops hc=>?_⟩
 ·unfold newT at hc ⊢
  dsimp only at hc ⊢
  split at hc
  ·exact ⟨hc.1,hk _ _ ((Ext_frzAts _ _).trans ((Ext_fresh _ _).trans (Ext_root _ _ _))) hc.2⟩
  ·exact hc.elim
 ·unfold newT at hc
  dsimp only at hc
  obtain ⟨H1,F2,h1⟩:=RXt_frzAts (ops.map (evA s)) s H F1 hX
  generalize frzAts s (ops.map (evA s))=s1 at hc h1
  split at hc
  ·rename_i l hl
   obtain ⟨c1,c2,c3⟩:=canAs_ok hl
   match ops,hl,hops,c1,c2,c3 with
   | [],hl,_,_,_,_=>simp [canAs] at hl
   | _::_::_,hl,_,_,_,_=>simp only [List.map_cons,canAs] at hl; (repeat' split at hl) <;> simp_all
   | [o],hl,hops,c1,c2,c3=>
    have ho:okOp o=true:=by simpa using hops
    have hv:=ev_ok h1 ho
    rw [evA_toV ho] at hv
    simp only [List.map_cons,List.map_nil,List.all_cons,List.all_nil,Bool.and_true] at c1 c2 c3
    have hv2:=AR_map (w:=w) (w':=w) TR_canon (AR_fz (w':=w) (γ':=fun _=>.blk 0) (m':=[]) (fun _ _ _ h=>h) c2 hv)
    have e0:(evA s1 o).toV.map T.canon=(toAt (.sl u) l).toV:=by
     have:=(List.cons.inj c3).1
     exact this
    rw [e0] at hv2
    have hfd:FDx H1 (.li (l.map (encU u))) (a.eval o):=hv2.2
    refine Calls.mono (hbody l (a.eval o) w H1 hc.1 hfd h1.mem.agree) ?_
    rintro e w' ⟨y,rfl,m,gf,hod,hst⟩
    have hX2:=RX_frame h1 hst.bl.size hst.bl.os hst.bl.tape hst.bl.output (fun b hb=>.inl (hst.bl.block b hb))
    have hX3:=RX_fresh hX2 nm
    have hn:=getR_fresh hX2 nm
    have hHnew:∀ b,w.heap.size<=b->∀ o,H1 b o=none:=by
     intro b hb o
     cases hc:H1 b o with
     | none=>rfl
     | some y=>have h9:b<w.heap.size:=World.block_lt_of_cell? _ _ (h1.mem.agree _ _ _ hc); omega
    have hts:∀ b,tot F2 (s1.toS.fresh nm).m b<=tot F2 s1.toS.m b:=by
     intro b
     unfold S.fresh
     split
     ·exact Nat.le_refl _
     ·show tot F2 (killM _ _) b<=_
      rw [tot_killM]; exact tot_delR
    have htz:∀ b,w.heap.size<=b->tot F2 s1.toS.m b=0:=fun b hb=>by
     rcases Nat.eq_zero_or_pos (tot F2 s1.toS.m b) with h' | h'
     ·exact h'
     ·have:=h1.mem.lt b (by omega); omega
    obtain ⟨γ',F',hX4,hγ⟩:=RX_ghost hX3 (n:=nm) hno hn (v:=y) (t:=.ow sh (l.map (encU u))) (f:=gf) ⟨m,hod⟩ (fun b=>by
      have h3:=hts b; have h4:=h1.mem.le1 b; have h5:=hst.le b
      by_cases hb:gf b=0
      ·omega
      ·have:=htz b (hst.rng b hb).1; omega)
     (fun b hb=>⟨(hst.rng b hb).2,hHnew b (hst.rng b hb).1⟩) (fun b hb=>.inr (Nat.le_trans h1.fr.size (hst.rng b hb).1))
    have e2:((s1.fresh nm).root nm ⟨false,[.ow sh u l],none⟩).toS=⟨(s1.toS.fresh nm).t,(nm,⟨false,[.ow sh (l.map (encU u))]⟩)::(s1.toS.fresh nm).m⟩:=by
     rw [<- fresh_toS (ND_of h1)]; rfl
    rw [<- e2] at hX4
    refine .inl ⟨y,_,_,H1,γ',F',rfl,hc.2,?_,hX4⟩
    refine AR_ghost (sub:=sh) (l:=l.map (encU u)) ?_ hγ
    show getR ((s1.fresh nm).root nm ⟨false,[.ow sh u l],none⟩).toS.m nm=_
    rw [e2]
    simp [getR]
  ·exact hc.elim
end
end Go.Am
end

section
namespace Go.Am
open Go Go.Proofs
set_option maxRecDepth 100000
abbrev eA:List (TypeId×List Sh):=[(54,shBlk)]
abbrev xs17:List (Fl [.s]×Fl [.st .Program,.i .i64,.i .i64]):=[(txt17,(prog17,0,0))]
theorem c_parse17:Cont Tryd.prog 9 (pureT [.s] [.st .Program,.i .i64,.i .i64] (fun x=>∃ y,(x,y)∈xs17) (pairF xs17 (prog17,0,0))):=
 Cont_deferB (n:=80) eU eS lParse 4 Tryd.f9 (ps:=[.s]) (rs:=[.st .Program,.i .i64,.i .i64]) xs17 Tryd.func9 (by kernel_rfl) (by kernel_rfl) (by kernel_rfl) (by kernel_rfl) (by kernel_rfl) (by kernel_rfl) (by kernel_rfl) (by kernel_rfl) (by kernel_rfl) (by kernel_rfl) (by kernel_rfl) (by kernel_rfl) (prog17,0,0) (fun x hx=>by
  obtain rfl:=List.mem_singleton.1 hx
  exact t17)
noncomputable def x9:Cl 9:=⟨fnB [.s] [.st .Program,.i .i64,.i .i64] (fun x=>decide (x=txt17)) (pairF xs17 (prog17,0,0)),_,fnB_ck (pre:=fun x=>∃ y,(x,y)∈xs17) (fun x h=>⟨(prog17,0,0),List.mem_singleton.2 (by rw [of_decide_eq_true h])⟩),c_parse17⟩
noncomputable def x7:Cl 7:=clL eU eP [] 80 Tryd.f7 [(.st .Func),.s] [(.i .i64),.bo] (by kernel_rfl) (by kernel_rfl)
noncomputable def x36:Cl 36:=clP eU eP [⟨_,x7⟩] 80 Tryd.f36 [(.st .Func)] [(.sl (.sl (.i .i64)))] (by kernel_rfl) (by kernel_rfl)
noncomputable def x81:Cl 81:=clL eU eP [] 80 Tryd.f81 [(.sl (.i .i64)),(.i .i64)] [(.i .i64)] (by kernel_rfl) (by kernel_rfl)
noncomputable def x66:Cl 66:=clL eU eP [⟨_,x81⟩] 80 Tryd.f66 [(.sl (.i .i64)),(.i .i64)] [.bo] (by kernel_rfl) (by kernel_rfl)
noncomputable def x35:Cl 35:=clP eU eP [⟨_,x66⟩] 80 Tryd.f35 [(.sl (.sl (.i .i64)))] [(.sl (.sl (.i .i64)))] (by kernel_rfl) (by kernel_rfl)
noncomputable def x22:Cl 22:=clP eU eP [⟨_,x36⟩,⟨_,x35⟩,⟨_,x7⟩] 80 Tryd.f22 [(.st .Func)] [(.sl (.st .way))] (by kernel_rfl) (by kernel_rfl)
noncomputable def x10:Cl 10:=clP eU eP [⟨_,x22⟩] 80 Tryd.f10 [(.st .Func)] [(.sl (.st .Pair))] (by kernel_rfl) (by kernel_rfl)
noncomputable def x15:Cl 15:=clN eU eP [] 80 Tryd.f15 (by kernel_rfl) (by kernel_rfl)
def preCp (l:List Lt.Block):Bool:=Nat.ble l.length 1000000&&l.all fun b=>Nat.ble b.End.To.length 1000000&&(Nat.ble b.Phis.length 1000000&&b.Phis.all fun p=>Nat.ble p.Ins.length 1000000)
theorem preCp_ok {l:List Lt.Block} (h:preCp l=true):(∀ r∈l.map (encU (.st .Block)),okBlkR r)/\okRows 9 (l.map (encU (.st .Block)))/\(l.map (encU (.st .Block))).length<=1000000:=by
 unfold preCp at h
 simp only [Bool.and_eq_true] at h
 refine ⟨fun r hr=>?_,fun r hr=>?_,by rw [List.length_map]; exact Nat.le_of_ble_eq_true h.1⟩
 ·obtain ⟨b,hb,rfl⟩:=List.mem_map.1 hr
  have h2:=List.all_eq_true.1 h.2 b hb
  simp only [Bool.and_eq_true] at h2
  refine ⟨⟨b.End.To.map (encU .s),rfl,fun y hy=>?_,by rw [List.length_map]; exact Nat.le_of_ble_eq_true h2.1⟩,b.Phis.map (encU (.st .Phi)),rfl,fun y hy=>?_,by rw [List.length_map]; exact Nat.le_of_ble_eq_true h2.2.1,fun p hp=>?_⟩
  ·obtain ⟨z,_,rfl⟩:=List.mem_map.1 hy
   exact ⟨rfl,fun x hx=>by obtain rfl:=List.mem_singleton.1 hx; rfl⟩
  ·obtain ⟨z,_,rfl⟩:=List.mem_map.1 hy
   exact ⟨rfl,List.all_eq_true.1 rfl⟩
  ·obtain ⟨z,hz,rfl⟩:=List.mem_map.1 hp
   have h3:=List.all_eq_true.1 h2.2.2 z hz
   refine ⟨z.Ins.map (encU (.st .In)),rfl,fun y hy=>?_,by rw [List.length_map]; exact Nat.le_of_ble_eq_true h3⟩
   obtain ⟨q,_,rfl⟩:=List.mem_map.1 hy
   exact ⟨rfl,List.all_eq_true.1 rfl⟩
 ·obtain ⟨b,hb,rfl⟩:=List.mem_map.1 hr
  exact ⟨rfl,List.all_eq_true.1 rfl⟩
noncomputable def x23:Cl 23:=⟨newB shBlk (.st .Block) (.gh 800000) preCp,newT shBlk (.st .Block) (.gh 800000) (fun l=>preCp l=true),newB_ck (fun _ h=>h),Cont_new rfl Tryd.func23 (by kernel_rfl) (by kernel_rfl) (fun l v w H hl hv hag=>copied_calls hag hv (preCp_ok hl).1 (preCp_ok hl).2.1 (preCp_ok hl).2.2)⟩
noncomputable def x14:Cl 14:=clN eU eP [⟨_,x26⟩] 80 Tryd.f14 (by kernel_rfl) (by kernel_rfl)
noncomputable def x24:Cl 24:=clN eU eP [] 80 Tryd.f24 (by kernel_rfl) (by kernel_rfl)
noncomputable def x11:Cl 11:=clP eU eA [⟨_,x15⟩,⟨_,x22⟩,⟨_,x23⟩,⟨_,x14⟩,⟨_,x24⟩] 80 Tryd.f11 [(.st .Func)] [(.st .Func)] (by kernel_rfl) (by kernel_rfl)
noncomputable def x6:Cl 6:=clL eU eP [⟨_,x15⟩,⟨_,x14⟩] 80 Tryd.f6 [(.st .Func),.s] [.s] (by kernel_rfl) (by kernel_rfl)
noncomputable abbrev lAw:ClS:=[⟨_,x9⟩,⟨_,x10⟩,⟨_,x11⟩,⟨_,x6⟩]
theorem t_aw:bodyB 80 (clE eU eA lAw) Tryd.f4 [] [.bo] () (fun z=>decide (z=true))=true:=by kernel_rfl
theorem c_awake:Cont Tryd.prog 4 (pureT0 [] [.bo] (fun _=>true)):=Cl_const eU eA lAw 80 Tryd.f4 [.bo] true Tryd.func4 (by kernel_rfl) t_aw
end Go.Am
end

section
namespace Go.Am
open Go Go.Proofs
set_option linter.unusedVariables false
set_option maxRecDepth 100000
def C_awake17:CKt:=pureT0 [] [.bo] (fun x=>Lt.awake17 )
theorem c_awake17:Cont Tryd.prog 4 C_awake17:=c_awake
theorem En.ok0 {P:Program} {u:Ut} {sh:List (TypeId×List Sh)} {pk:PKt}:En.ok ⟨P,u,[],sh,pk⟩:=fun _ h=>by cases h
theorem En.okc {P:Program} {u:Ut} {sh:List (TypeId×List Sh)} {pk:PKt} {f:Nat} {C:CKt} {cs:CTt} (h:Cont P f C) (hs:En.ok ⟨P,u,cs,sh,pk⟩):En.ok ⟨P,u,(f,C)::cs,sh,pk⟩:=by
 intro x hx
 rcases List.mem_cons.1 hx with rfl | hx
 ·exact h
 ·exact hs x hx
theorem mixed:Tryd.prog.follows .mixedOrders=true:=by kernel_rfl
def okF (n:Nat) (fn:Func):Bool:=fn.name != "runtime.NumGoroutine" && (fn.body.isSome&&(Nat.ble n fn.ntmps&&chkC fn.ntmps (fn.body.getD .skip)))
theorem okF_1 {n:Nat} {fn:Func} (h:okF n fn=true):(fn.name == "runtime.NumGoroutine")=false/\fn.body.isSome=true/\Nat.ble n fn.ntmps=true/\chkC fn.ntmps (fn.body.getD .skip)=true:=by
 unfold okF at h
 simp only [Bool.and_eq_true,bne,Bool.not_eq_true'] at h
 exact h
theorem k0 (e:En) (he:e.ok) (hm:e.P.follows .mixedOrders=true) {f:Nat} {fn:Func} (an:An) {ps rs:List U} {F:Fl ps->Fl rs} (hf:e.P.funcs[f]? = some fn) (hb:okF ps.length fn=true) (law:∀ x,∀ KK:Fl rs->Prop,KK (F x)->bodyT e fn an ps rs x KK):Cont e.P f (pureT0 ps rs F):=
 Cont_pure0 he hm hf (okF_1 hb).1 (okF_1 hb).2.1 (okF_1 hb).2.2.1 (okF_1 hb).2.2.2 law
theorem k1 (e:En) (he:e.ok) (hm:e.P.follows .mixedOrders=true) {f:Nat} {fn:Func} (an:An) {ps rs:List U} {pre:Fl ps->Prop} {F:Fl ps->Fl rs} (hf:e.P.funcs[f]? = some fn) (hb:okF ps.length fn=true) (law:∀ x,pre x->∀ KK:Fl rs->Prop,KK (F x)->bodyT e fn an ps rs x KK):Cont e.P f (pureT ps rs pre F):=
 Cont_pure he hm hf (okF_1 hb).1 (okF_1 hb).2.1 (okF_1 hb).2.2.1 (okF_1 hb).2.2.2 law
theorem k2 (e:En) (he:e.ok) (hm:e.P.follows .mixedOrders=true) {f:Nat} {fn:Func} (an:An) {sh:List Sh} {u:U} {ps rs:List U} {pre:El u->Fl ps->Prop} {Fn:El u->Fl ps->Fl rs×El u} (hf:e.P.funcs[f]? = some fn) (hb:okF (ps.length+1) fn=true) (law:∀ x y,pre x y->∀ KK:Fl rs×El u->Prop,KK (Fn x y)->bodyPT e fn an sh u ps rs x y KK):Cont e.P f (ptrT sh u ps rs pre Fn):=
 Cont_ptr he hm hf (okF_1 hb).1 (okF_1 hb).2.1 (okF_1 hb).2.2.1 (okF_1 hb).2.2.2 law
theorem k3 (e:En) (he:e.ok) (hm:e.P.follows .mixedOrders=true) {f:Nat} {fn:Func} (an:An) {u:U} {ps:List U} {pre:List (El u)->Fl ps->Prop} {Fn:List (El u)->Fl ps->List (El u)} (hf:e.P.funcs[f]? = some fn) (hb:okF (ps.length+1) fn=true) (law:∀ x y,pre x y->∀ KK:List (El u)->Prop,KK (Fn x y)->bodyOT e fn an u ps x y KK):Cont e.P f (ownT u ps pre Fn):=
 Cont_own he hm hf (okF_1 hb).1 (okF_1 hb).2.1 (okF_1 hb).2.2.1 (okF_1 hb).2.2.2 law
abbrev sh2:List Sh:=[.fr,.fr,.fr,.fr,.ow [.fr,.fr,.fr,.fr],.ow [.fr,.fr]]
def C_countVars:CKt:=pureT0 [(.sl (.st .Var)),(.i .i64)] [(.i .i64)] (fun x=>Lt.countVars x.1 x.2)
def an_countVars:An:=.s .l (.s (.s .l (.c (.s .l .l) .l)) (.s .l (.s (.s .l (.b (.lp ⟨[0,1],[],[],[.sl 5 (.i .i64),.sl 6 (.i .i64)]⟩ (.s (.j ⟨[0,1,5,6],[],[],[.sl 23 .bo]⟩ .l (.c .l .l)) (.j ⟨[0,1,6],[],[],[.sl 5 (.i .i64)]⟩ (.b (.s .l (.s .l (.c .l .l)))) .l))))) (.s .l .l))))
theorem walk_countVars (a0_l:List Lt.Var) (a1_most:Int) (KK:Int->Prop):F_countVars a0_l a1_most KK=bodyT ⟨Tryd.prog,eU,[],[],noP⟩ Tryd.f12 an_countVars [(.sl (.st .Var)),(.i .i64)] [(.i .i64)] (a0_l,a1_most) KK:=by kernel_rfl
theorem c_countVars:Cont Tryd.prog 12 C_countVars:=k0 ⟨Tryd.prog,eU,[],[],noP⟩ En.ok0 mixed (fn:=Tryd.f12) an_countVars (by kernel_rfl) (by kernel_rfl) (fun (a0_l,a1_most) KK h=>Eq.mp (walk_countVars a0_l a1_most KK) (law_countVars a0_l a1_most KK h))
def C_countArgs:CKt:=pureT0 [(.sl (.st .Arg)),(.i .i64)] [(.i .i64)] (fun x=>Lt.countArgs x.1 x.2)
def an_countArgs:An:=.s .l (.s (.s .l (.c (.s .l .l) .l)) (.s .l (.s (.s .l (.b (.lp ⟨[0,1],[],[],[.sl 5 (.i .i64),.sl 6 (.i .i64)]⟩ (.s (.j ⟨[0,1,5,6],[],[],[.sl 23 .bo]⟩ .l (.c .l .l)) (.s (.b .l) .l))))) (.s .l .l))))
theorem walk_countArgs (a0_l:List Lt.Arg) (a1_most:Int) (KK:Int->Prop):F_countArgs a0_l a1_most KK=bodyT ⟨Tryd.prog,eU,[],[],noP⟩ Tryd.f41 an_countArgs [(.sl (.st .Arg)),(.i .i64)] [(.i .i64)] (a0_l,a1_most) KK:=by kernel_rfl
theorem c_countArgs:Cont Tryd.prog 41 C_countArgs:=k0 ⟨Tryd.prog,eU,[],[],noP⟩ En.ok0 mixed (fn:=Tryd.f41) an_countArgs (by kernel_rfl) (by kernel_rfl) (fun (a0_l,a1_most) KK h=>Eq.mp (walk_countArgs a0_l a1_most KK) (law_countArgs a0_l a1_most KK h))
def C_countInstr:CKt:=pureT [(.st .Instr),(.i .i64)] [(.i .i64)] (fun x=>Lt.preCI x.1 x.2) (fun x=>Lt.countInstr x.1 x.2)
def an_countInstr:An:=.s .l (.s (.j ⟨[1,2],[.loc 2],[],[.sl 20 .bo]⟩ .l (.c (.s .l .l) .l)) (.s .l (.j ⟨[1,2],[.loc 2],[],[.sl 5 (.i .i64)]⟩ (.s .l (.c .l .l)) (.j ⟨[1,2],[.loc 2],[],[.sl 5 (.i .i64)]⟩ (.s .l (.c .l .l)) (.s (.s .l (.b (.lp ⟨[1,2],[.loc 2],[],[.sl 5 (.i .i64),.sl 6 (.i .i64)]⟩ (.s (.j ⟨[1,2,5,6],[.loc 2],[],[.sl 61 .bo]⟩ .l (.c .l .l)) (.s (.b (.s .l (.j ⟨[1,2,6],[.loc 2],[],[.sl 5 (.i .i64)]⟩ (.s .l (.c .l .l)) (.s .l (.b (.lp ⟨[1,2,6],[.loc 2],[],[.sl 5 (.i .i64),.sl 7 (.i .i64)]⟩ (.s (.j ⟨[1,2,5,6,7],[.loc 2],[],[.sl 98 .bo]⟩ .l (.c .l .l)) (.j ⟨[1,2,6,7],[.loc 2],[],[.sl 5 (.i .i64)]⟩ (.b (.s .l (.s .l (.c .l .l)))) .l)))))))) .l))))) (.s (.s .l (.b (.lp ⟨[1,2],[.loc 2],[],[.sl 5 (.i .i64),.sl 8 (.i .i64)]⟩ (.s (.j ⟨[1,2,5,8],[.loc 2],[],[.sl 141 .bo]⟩ .l (.c .l .l)) (.j ⟨[1,2,8],[.loc 2],[],[.sl 5 (.i .i64)]⟩ (.b (.s .l (.s .l (.c .l .l)))) .l))))) (.s .l .l)))))))
abbrev t_countInstr:CTt:=[(41,C_countArgs)]
theorem walk_countInstr (a0_x:Lt.Instr) (a1_most:Int) (KK:Int->Prop):F_countInstr a0_x a1_most KK=bodyT ⟨Tryd.prog,eU,t_countInstr,[],noP⟩ Tryd.f25 an_countInstr [(.st .Instr),(.i .i64)] [(.i .i64)] (a0_x,a1_most) KK:=by kernel_rfl
theorem c_countInstr:Cont Tryd.prog 25 C_countInstr:=k1 ⟨Tryd.prog,eU,t_countInstr,[],noP⟩ (En.okc c_countArgs En.ok0) mixed (fn:=Tryd.f25) an_countInstr (by kernel_rfl) (by kernel_rfl) (fun (a0_x,a1_most) hp KK h=>Eq.mp (walk_countInstr a0_x a1_most KK) (law_countInstr a0_x a1_most hp KK h))
def C_countBlock:CKt:=pureT [(.st .Block),(.i .i64)] [(.i .i64)] (fun x=>Lt.preCB x.1 x.2) (fun x=>Lt.countBlock x.1 x.2)
def an_countBlock:An:=.s .l (.s (.j ⟨[1,2],[.loc 2],[],[.sl 29 .bo]⟩ .l (.c (.s .l .l) .l)) (.s .l (.j ⟨[1,2],[.loc 2],[],[.sl 5 (.i .i64)]⟩ (.s .l (.c .l .l)) (.s (.s .l (.b (.lp ⟨[1,2],[.loc 2],[],[.sl 5 (.i .i64),.sl 6 (.i .i64)]⟩ (.s (.j ⟨[1,2,5,6],[.loc 2],[],[.sl 56 .bo]⟩ .l (.c .l .l)) (.s (.b .l) .l))))) (.s (.s .l (.b (.lp ⟨[1,2],[.loc 2],[],[.sl 5 (.i .i64),.sl 7 (.i .i64)]⟩ (.s (.j ⟨[1,2,5,7],[.loc 2],[],[.sl 78 .bo]⟩ .l (.c .l .l)) (.s (.b (.s .l (.s .l (.b (.lp ⟨[1,2,7],[.loc 2],[],[.sl 5 (.i .i64),.sl 8 (.i .i64)]⟩ (.s (.j ⟨[1,2,5,7,8],[.loc 2],[],[.sl 104 .bo]⟩ .l (.c .l .l)) (.j ⟨[1,2,7,8],[.loc 2],[],[.sl 5 (.i .i64)]⟩ (.b (.s .l (.s .l (.c .l .l)))) .l))))))) .l))))) (.s (.s .l (.b (.lp ⟨[1,2],[.loc 2],[],[.sl 5 (.i .i64),.sl 9 (.i .i64)]⟩ (.s (.j ⟨[1,2,5,9],[.loc 2],[],[.sl 147 .bo]⟩ .l (.c .l .l)) (.s (.b .l) .l))))) (.s .l .l)))))))
abbrev t_countBlock:CTt:=[(25,C_countInstr)]
theorem walk_countBlock (a0_b:Lt.Block) (a1_most:Int) (KK:Int->Prop):F_countBlock a0_b a1_most KK=bodyT ⟨Tryd.prog,eU,t_countBlock,[],noP⟩ Tryd.f13 an_countBlock [(.st .Block),(.i .i64)] [(.i .i64)] (a0_b,a1_most) KK:=by kernel_rfl
theorem c_countBlock:Cont Tryd.prog 13 C_countBlock:=k1 ⟨Tryd.prog,eU,t_countBlock,[],noP⟩ (En.okc c_countInstr En.ok0) mixed (fn:=Tryd.f13) an_countBlock (by kernel_rfl) (by kernel_rfl) (fun (a0_b,a1_most) hp KK h=>Eq.mp (walk_countBlock a0_b a1_most KK) (law_countBlock a0_b a1_most hp KK h))
def C_FewFunc:CKt:=pureT [(.st .Func),(.i .i64)] [(.i .i64)] (fun x=>Lt.preFF x.1 x.2) (fun x=>Lt.FewFunc x.1 x.2)
def an_FewFunc:An:=.s .l (.s (.s .l (.c (.s .l .l) .l)) (.s .l (.j ⟨[1,2],[.loc 2],[],[.sl 5 (.i .i64)]⟩ (.s .l (.c .l .l)) (.j ⟨[1,2],[.loc 2],[],[.sl 5 (.i .i64)]⟩ (.s .l (.c .l .l)) (.j ⟨[1,2],[.loc 2],[],[.sl 5 (.i .i64)]⟩ (.s .l (.c .l .l)) (.s (.s .l (.b (.lp ⟨[1,2],[.loc 2],[],[.sl 5 (.i .i64),.sl 6 (.i .i64)]⟩ (.s (.j ⟨[1,2,5,6],[.loc 2],[],[.sl 53 .bo]⟩ .l (.c .l .l)) (.s (.b .l) .l))))) (.s .l .l)))))))
abbrev t_FewFunc:CTt:=[(12,C_countVars),(13,C_countBlock)]
theorem walk_FewFunc (a0_f:Lt.Func) (a1_most:Int) (KK:Int->Prop):F_FewFunc a0_f a1_most KK=bodyT ⟨Tryd.prog,eU,t_FewFunc,[],noP⟩ Tryd.f5 an_FewFunc [(.st .Func),(.i .i64)] [(.i .i64)] (a0_f,a1_most) KK:=by kernel_rfl
theorem c_FewFunc:Cont Tryd.prog 5 C_FewFunc:=k1 ⟨Tryd.prog,eU,t_FewFunc,[],noP⟩ (En.okc c_countVars (En.okc c_countBlock En.ok0)) mixed (fn:=Tryd.f5) an_FewFunc (by kernel_rfl) (by kernel_rfl) (fun (a0_f,a1_most) hp KK h=>Eq.mp (walk_FewFunc a0_f a1_most KK) (law_FewFunc a0_f a1_most hp KK h))
def C_spFresh:CKt:=pureT [(.st .Func),.s] [.s] (fun x=>Lt.preFresh x.1 x.2) (fun x=>Lt.spFresh x.1 x.2)
def an_fresh_spFresh:An:=.s .l (.s .l (.b (.lp ⟨[0,1,100000,100001,100002,100004,100005,100006,100007],[.gh 10,.loc 2],[],[.sl 5 (.i .i64)]⟩ (.s (.b (.s .l (.s .l (.c (.s .l .l) .l)))) .l))))
def C_fresh_spFresh:CKt:=inlT ⟨Tryd.prog,eU,[(26,C_numPut)],[],noP⟩ Tryd.f14 an_fresh_spFresh
def an_taken_spFresh:An:=.s .l (.s .l (.s (.s .l (.b (.lp ⟨[1,3,12,13,100000,100001,100002,100004,100005],[.loc 1,.loc 2],[],[.sl 14 (.i .i64),.mp (.gh 10) .s .bo]⟩ (.s .l (.s (.c .l .l) (.s (.b (.s .l .l)) .l)))))) (.s (.s .l (.b (.lp ⟨[3,26,27,100000,100001,100002,100004,100005],[.gh 26,.loc 2],[],[.sl 28 (.i .i64),.mp (.gh 10) .s .bo]⟩ (.s .l (.s (.c .l .l) (.s (.b (.s .l (.s .l (.b (.lp ⟨[3,26,27,28,32,33,100000,100001,100002,100004,100005],[.gh 26,.loc 2],[],[.sl 34 (.i .i64),.mp (.gh 10) .s .bo]⟩ (.s .l (.s (.c .l .l) (.s (.b (.s .l .l)) .l)))))))) .l)))))) (.s .l .l))))
def C_taken_spFresh:CKt:=inlT ⟨Tryd.prog,eU,[],[],noP⟩ Tryd.f15 an_taken_spFresh
def an_spFresh:An:=.s .l (.s .l .l)
abbrev t_spFresh:CTt:=[(14,C_fresh_spFresh),(15,C_taken_spFresh)]
theorem walk_spFresh (a0_f:Lt.Func) (a1_begin:List UInt8) (KK:(List UInt8)->Prop):F_spFresh a0_f a1_begin KK=bodyT ⟨Tryd.prog,eU,t_spFresh,[],noP⟩ Tryd.f6 an_spFresh [(.st .Func),.s] [.s] (a0_f,a1_begin) KK:=by kernel_rfl
theorem c_spFresh:Cont Tryd.prog 6 C_spFresh:=k1 ⟨Tryd.prog,eU,t_spFresh,[],noP⟩ (En.okc (Cont_inl (En.okc c_numPut En.ok0) mixed (fn:=Tryd.f14) (by kernel_rfl) (by kernel_rfl) (by kernel_rfl) (by kernel_rfl) (by kernel_rfl)) (En.okc (Cont_inl En.ok0 mixed (fn:=Tryd.f15) (by kernel_rfl) (by kernel_rfl) (by kernel_rfl) (by kernel_rfl) (by kernel_rfl)) En.ok0)) mixed (fn:=Tryd.f6) an_spFresh (by kernel_rfl) (by kernel_rfl) (fun (a0_f,a1_begin) hp KK h=>Eq.mp (walk_spFresh a0_f a1_begin KK) (law_spFresh a0_f a1_begin hp KK h))
def C_spPlace:CKt:=pureT0 [(.st .Func),.s] [(.i .i64),.bo] (fun x=>Lt.spPlace x.1 x.2)
def an_spPlace:An:=.s .l (.s (.s .l (.b (.lp ⟨[1,9,10],[],[],[.sl 11 (.i .i64)]⟩ (.s .l (.s (.c .l .l) (.s (.b (.s .l (.s .l (.c (.s .l .l) .l)))) .l)))))) (.s .l .l))
theorem walk_spPlace (a0_f:Lt.Func) (a1_name:List UInt8) (KK:(Int×Bool)->Prop):F_spPlace a0_f a1_name KK=bodyT ⟨Tryd.prog,eU,[],[],noP⟩ Tryd.f7 an_spPlace [(.st .Func),.s] [(.i .i64),.bo] (a0_f,a1_name) KK:=by kernel_rfl
theorem c_spPlace:Cont Tryd.prog 7 C_spPlace:=k0 ⟨Tryd.prog,eU,[],[],noP⟩ En.ok0 mixed (fn:=Tryd.f7) an_spPlace (by kernel_rfl) (by kernel_rfl) (fun (a0_f,a1_name) KK h=>Eq.mp (walk_spPlace a0_f a1_name KK) (law_spPlace a0_f a1_name KK h))
def C_rfHas:CKt:=pureT0 [(.st .Func),.s] [.bo] (fun x=>Lt.rfHas x.1 x.2)
def an_rfHas:An:=.s .l (.s (.s .l (.b (.lp ⟨[1,2],[.loc 2],[],[.sl 5 (.i .i64)]⟩ (.s (.s .l (.c .l .l)) (.s (.b (.s .l (.c (.s .l .l) .l))) .l))))) (.s (.s .l (.b (.lp ⟨[1,2],[.loc 2],[],[.sl 6 (.i .i64)]⟩ (.s (.s .l (.c .l .l)) (.s (.b (.s .l (.c (.s .l .l) .l))) .l))))) (.s (.s .l (.b (.lp ⟨[1,2],[.loc 2],[],[.sl 7 (.i .i64)]⟩ (.s (.s .l (.c .l .l)) (.s (.b (.s .l (.c (.s .l .l) .l))) .l))))) (.s .l .l))))
theorem walk_rfHas (a0_f:Lt.Func) (a1_s:List UInt8) (KK:Bool->Prop):F_rfHas a0_f a1_s KK=bodyT ⟨Tryd.prog,eU,[],[],noP⟩ Tryd.f16 an_rfHas [(.st .Func),.s] [.bo] (a0_f,a1_s) KK:=by kernel_rfl
theorem c_rfHas:Cont Tryd.prog 16 C_rfHas:=k0 ⟨Tryd.prog,eU,[],[],noP⟩ En.ok0 mixed (fn:=Tryd.f16) an_rfHas (by kernel_rfl) (by kernel_rfl) (fun (a0_f,a1_s) KK h=>Eq.mp (walk_rfHas a0_f a1_s KK) (law_rfHas a0_f a1_s KK h))
def C_rSize:CKt:=pureT0 [(.i .i64)] [(.i .u64)] (fun x=>Lt.rSize x)
def an_rSize:An:=.s .l (.s (.s .l (.c (.s .l .l) .l)) (.s .l .l))
theorem walk_rSize (a0_n:Int) (KK:Int->Prop):F_rSize a0_n KK=bodyT ⟨Tryd.prog,eU,[],[],noP⟩ Tryd.f27 an_rSize [(.i .i64)] [(.i .u64)] a0_n KK:=by kernel_rfl
theorem c_rSize:Cont Tryd.prog 27 C_rSize:=k0 ⟨Tryd.prog,eU,[],[],noP⟩ En.ok0 mixed (fn:=Tryd.f27) an_rSize (by kernel_rfl) (by kernel_rfl) (fun a0_n KK h=>Eq.mp (walk_rSize a0_n KK) (law_rSize a0_n KK h))
def C_rNum:CKt:=pureT [(.i .i64)] [.s] (fun x=>Lt.preNum x) (fun x=>Lt.rNum x)
def an_rNum:An:=.s .l (.s .l (.s .l (.j ⟨[0],[],[],[.ow 3 [.fr] .b8]⟩ (.b (.lp ⟨[0],[],[],[.ow 3 [.fr] .b8,.sl 4 (.i .u64)]⟩ (.b (.s .l (.s .l (.s .l (.c .l .l))))))) (.s (.s .l (.c (.s .l .l) .l)) (.s .l .l)))))
abbrev t_rNum:CTt:=[(27,C_rSize)]
theorem walk_rNum (a0_n:Int) (KK:(List UInt8)->Prop):F_rNum a0_n KK=bodyT ⟨Tryd.prog,eU,t_rNum,[],noP⟩ Tryd.f17 an_rNum [(.i .i64)] [.s] a0_n KK:=by kernel_rfl
theorem c_rNum:Cont Tryd.prog 17 C_rNum:=k1 ⟨Tryd.prog,eU,t_rNum,[],noP⟩ (En.okc c_rSize En.ok0) mixed (fn:=Tryd.f17) an_rNum (by kernel_rfl) (by kernel_rfl) (fun a0_n hp KK h=>Eq.mp (walk_rNum a0_n KK) (law_rNum a0_n hp KK h))
def C_rfFresh:CKt:=pureT [(.st .Func),.s] [.s] (fun x=>Lt.preFresh x.1 x.2) (fun x=>Lt.rfFresh x.1 x.2)
def an_rfFresh:An:=.s .l (.s .l (.s (.b (.lp ⟨[1,2],[.loc 2],[],[.sl 5 (.i .i64)]⟩ (.s (.j ⟨[1,2,5],[.loc 2],[],[.sl 11 .bo]⟩ .l (.c .l .l)) (.b .l)))) (.s .l .l)))
abbrev t_rfFresh:CTt:=[(16,C_rfHas),(17,C_rNum)]
theorem walk_rfFresh (a0_f:Lt.Func) (a1_begin:List UInt8) (KK:(List UInt8)->Prop):F_rfFresh a0_f a1_begin KK=bodyT ⟨Tryd.prog,eU,t_rfFresh,[],noP⟩ Tryd.f8 an_rfFresh [(.st .Func),.s] [.s] (a0_f,a1_begin) KK:=by kernel_rfl
theorem c_rfFresh:Cont Tryd.prog 8 C_rfFresh:=k1 ⟨Tryd.prog,eU,t_rfFresh,[],noP⟩ (En.okc c_rfHas (En.okc c_rNum En.ok0)) mixed (fn:=Tryd.f8) an_rfFresh (by kernel_rfl) (by kernel_rfl) (fun (a0_f,a1_begin) hp KK h=>Eq.mp (walk_rfFresh a0_f a1_begin KK) (law_rfFresh a0_f a1_begin hp KK h))
def an_SplitFresh:An:=.s .l (.s (.j ⟨[1,2],[.loc 2],[],[.sl 21 .bo]⟩ .l (.c (.s .l .l) .l)) (.s .l (.s .l (.s (.s .l (.b (.lp ⟨[1,2,5],[.loc 2],[],[.sl 7 .bo,.sl 8 (.i .i64)]⟩ (.s (.s .l (.c .l .l)) (.j ⟨[1,2,5,8],[.loc 2],[],[.sl 7 .bo]⟩ (.b .l) .l))))) (.s (.s .l (.b (.lp ⟨[1,2,5],[.loc 2],[],[.sl 7 .bo,.sl 9 (.i .i64)]⟩ (.s (.s .l (.c .l .l)) (.j ⟨[1,2,5,9],[.loc 2],[],[.sl 7 .bo]⟩ (.b .l) .l))))) (.j ⟨[],[],[],[.sl 4 .bo]⟩ .l .l))))))
abbrev t_SplitFresh:CTt:=[(4,C_awake17),(5,C_FewFunc),(6,C_spFresh),(7,C_spPlace),(8,C_rfFresh)]
theorem walk_SplitFresh (a0_f:Lt.Func) (a1_begin:List UInt8) (KK:Bool->Prop):F_SplitFresh a0_f a1_begin KK=bodyT ⟨Tryd.prog,eU,t_SplitFresh,[],noP⟩ Tryd.f3 an_SplitFresh [(.st .Func),.s] [.bo] (a0_f,a1_begin) KK:=by kernel_rfl
theorem en_SplitFresh:En.ok ⟨Tryd.prog,eU,t_SplitFresh,[],noP⟩:=(En.okc c_awake17 (En.okc c_FewFunc (En.okc c_spFresh (En.okc c_spPlace (En.okc c_rfFresh En.ok0)))))
end Go.Am
end
