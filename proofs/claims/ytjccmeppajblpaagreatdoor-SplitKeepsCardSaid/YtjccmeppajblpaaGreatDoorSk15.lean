/-
  Part 15: AmKp1 · AmLib.
-/
import Derived.Test.YtjccmeppajblpaaGreatDoorSk14
set_option linter.unusedSimpArgs false
set_option linter.unusedVariables false
set_option linter.unusedSectionVars false
set_option linter.unnecessarySimpa false
section
namespace Go.Am
def lkV:List (Nat×Value)->Nat->Option Value
 | [],_=>none
 | (k,v)::r,i=>match Nat.beq k i with
  | true=>some v
  | false=>lkV r i
structure KT (nt:Nat) (l:List (Nat×Value)) (a:Act):Prop where
 nt:a.tmps.size=nt
 df:a.defers=[]
 t:∀ i v,lkV l i=some v->a.tmps.getD i undef=v
theorem KT.put {nt:Nat} {l:List (Nat×Value)} {a:Act} (h:KT nt l a) {d:Nat} (hd:d<nt) (v:Value):KT nt ((d,v)::l) (a.put (some d) v):=by
 refine ⟨by simp only [Act.put,Array.size_setIfInBounds]; exact h.nt,h.df,fun i x hx=>?_⟩
 rw [put_getD a d i v (by rw [h.nt]; exact hd)]
 unfold lkV at hx
 by_cases e:d=i
 ·subst e
  rw [Nat.beq_refl] at hx
  rw [if_pos rfl]
  exact Option.some.inj hx
 ·have:Nat.beq d i=false:=by
   cases hb:Nat.beq d i
   ·rfl
   ·exact absurd (Nat.eq_of_beq_eq_true hb) e
  rw [this] at hx
  rw [if_neg e]
  exact h.t i x hx
theorem KT.none {nt:Nat} {l:List (Nat×Value)} {a:Act} (h:KT nt l a) (v:Value):KT nt l (a.put none v):=h
theorem KT.ev {nt:Nat} {l:List (Nat×Value)} {a:Act} (h:KT nt l a) {i:Nat} {v:Value} (hi:lkV l i=some v):a.eval (.tmp i)=v:=h.t i v hi
theorem KT.sub {nt:Nat} {l l':List (Nat×Value)} {a:Act} (h:KT nt l a) (hs:∀ x∈l',lkV l x.1=some x.2):KT nt l' a:=by
 refine ⟨h.nt,h.df,fun i v hi=>h.t i v ?_⟩
 have:∃ x∈l',x.1=i/\x.2=v:=by
  clear hs h
  induction l' with
  | nil=>cases hi
  | cons y r ih=>
   unfold lkV at hi
   cases hb:Nat.beq y.1 i with
   | true=>rw [hb] at hi; exact ⟨y,by simp,Nat.eq_of_beq_eq_true hb,Option.some.inj hi⟩
   | false=>
    rw [hb] at hi
    obtain ⟨x,h1,h2⟩:=ih hi
    exact ⟨x,List.mem_cons_of_mem _ h1,h2⟩
 obtain ⟨x,h1,rfl,rfl⟩:=this
 exact hs x h1
def subV (l:List (Nat×Value)):List (Nat×Value)->Prop
 | []=>True
 | x::r=>lkV l x.1=some x.2/\subV l r
theorem KT.sub2 {nt:Nat} {l l':List (Nat×Value)} {a:Act} (h:KT nt l a) (hs:subV l l'):KT nt l' a:=by
 refine h.sub ?_
 clear h
 induction l' with
 | nil=>intro x hx; cases hx
 | cons y r ih=>
  intro x hx
  rcases List.mem_cons.1 hx with rfl | hx
  ·exact hs.1
  ·exact ih hs.2 x hx
section
variable {P:Program} {all:Array Oper} {rest:List Oper} {Q:Exit->Act->World->Prop} {o:Oper} {l:List (Nat×Value)} {a:Act} {w:World} {nt d:Nat} {v:Value}
theorem wpV (hg:o.guard=none) (ho:o.dst=some d) (hd:d<nt) (hk:KT nt l a) (hrun:(execOp a.eval o).run P w=.ok (.value v) w) (h:∀ a',KT nt ((d,v)::l) a'->wpList P all Q rest a' w) :
  wpList P all Q (o::rest) a w:=
 wpList_plain hg fun K hK=>by
  unfold Oper.wp
  rw [hrun]
  exact hK _ _ (by rw [ho]; exact h _ (hk.put hd v))
theorem vMove {x:Operand} (hop:o.op=.move x) (hx:a.eval x=v):(execOp a.eval o).run P w=.ok (.value v) w:=by simp [execOp,hop,hx]
theorem vAssign {x:Operand} (hop:o.op=.assign x) (hx:a.eval x=v):(execOp a.eval o).run P w=.ok (.value v) w:=by simp [execOp,hop,hx]
def fOff (P:Program) (t:TypeId) (i:Nat):Option Nat:=match (ty P t).k with
 | .st fs=>match fs[i]? with
  | some (off,size,_)=>match Nat.beq size 0 with
   | true=>none
   | false=>some off
  | none=>none
 | _=>none
theorem vFA {t:TypeId} {x:Operand} {i k b off:Nat} (hop:o.op=.fieldAddr t x i) (hx:a.eval x=.pointer (some ⟨b,off,none⟩)) (hf:fOff P t i=some k) :
  (execOp a.eval o).run P w=.ok (.value (.pointer (some ⟨b,off+k,none⟩))) w:=by
 unfold fOff at hf
 split at hf
 ·rename_i fs hk
  obtain ⟨_,d,_,hd,he,_⟩:=ty_und hk (by simp)
  obtain ⟨fs',rfl,rfl⟩:=tk_st he
  split at hf
  ·rename_i off' size ag h1
   split at hf
   ·cases hf
   ·rename_i h0
    obtain rfl:=Option.some.inj hf
    simp only [List.getElem?_map,Option.map_eq_some_iff,Prod.mk.injEq] at h1
    obtain ⟨f,hf1,rfl,rfl,rfl⟩:=h1
    have hf2:fs'[i]? = some f:=by simpa using hf1
    have h0:¬ P.cellsOf f.type=0:=fun e=>by rw [e] at h0; cases h0
    obtain ⟨it,hit⟩:∃ i,P.info? f.type=some i:=by
     cases hi:P.info? f.type with
     | none=>simp [Program.cellsOf,hi] at h0
     | some i=>exact ⟨i,rfl⟩
    simp only [execOp,hop,hx]
    simp only [Instr.fieldAt,Sem.run_bind,run_underlying hd,Result.andThen_ok,hf2,Instr.sureAddr,Sem.run_pure,fieldPlace,runs_sizeOf hit]
    rw [if_neg h0]
    simp only [Sem.run_pure,Result.andThen_ok,addr_add]
  ·cases hf
 ·cases hf
def eSz (P:Program) (t:TypeId):Option Nat:=match (ty P t).k with
 | .sl e=>match (ty P e).ok with
  | true=>some (ty P e).size
  | false=>none
 | _=>none
theorem vIA {t:TypeId} {x i:Operand} {e b off n c:Nat} {κ:IntKind} {j:Int} (hop:o.op=.indexAddr t x i) (hx:a.eval x=.slice (some ⟨b,off,none⟩) n c) (hi:a.eval i=.int κ j) (h0:0<=j/\j<n) (he:eSz P t=some e) :
  (execOp a.eval o).run P w=.ok (.value (.pointer (some ⟨b,off+j.toNat*e,none⟩))) w:=by
 unfold eSz at he
 split at he
 ·rename_i u hk
  split at he
  ·rename_i hok
   obtain rfl:=Option.some.inj he
   obtain ⟨_,d,_,hd,h2,_⟩:=ty_und hk (by simp)
   obtain rfl:=tk_sl h2
   obtain ⟨it,_,hit,_⟩:=ty_ok hok
   have hel:P.elem t=u:=by simp [Program.elem,hd]
   simp only [execOp,hop,hx,hi]
   rw [Sem.run_bind,run_indexAt_slice w t _ _ _ _ _ (by rw [hel]; exact hd),if_pos h0,hel,runs_sizeOf hit,Result.andThen_ok,addr_add,ty_size hok]
   rfl
  ·cases he
 ·cases he
theorem vLoad {t:TypeId} {x:Operand} {b off:Nat} (hop:o.op=.load t x) (hx:a.eval x=.pointer (some ⟨b,off,none⟩)) (ht:(ty P t).ok=true/\(ty P t).agg=false) (hc:w.cell? ⟨b,off,none⟩=some v) :
  (execOp a.eval o).run P w=.ok (.value v) w:=by
 obtain ⟨_,d,_,hd,h1,_⟩:=ty_ok ht.1
 have hr:=runs_loadVar_one (P:=P) hd (by rw [<- h1]; exact ht.2) hc
 simp only [execOp,hop,hx]
 first
  | (rw [Sem.run_bind,hr]; rfl)
  | (simp only [Instr.loadAt,Sem.run_bind,Instr.sureAddr,Sem.run_pure,Result.andThen_ok]; rw [hr]; rfl)
theorem vLen {c:Call} {t:TypeId} {x:Operand} {b:Option Addr} {n cc:Nat} (hop:o.op=.call c) (h1:c.callee=.builtin .len) (h2:c.args=#[x]) (h3:c.argTypes=#[t]) (ht:∃ e,(ty P t).k=.sl e) (hx:a.eval x=.slice b n cc) :
  (execOp a.eval o).run P w=.ok (.value (.int .i64 n)) w:=by
 obtain ⟨callee,args,argTypes⟩:=c
 dsimp only at h1 h2 h3
 subst h1; subst h2; subst h3
 obtain ⟨e,hk⟩:=ht
 obtain ⟨_,ud,_,u2,u3,_⟩:=ty_und hk (by simp)
 obtain rfl:=tk_sl u3
 simp [execOp,hop,resolve,invoke,builtin,Builtin.len_,run_underlying u2,hx,goInt]
theorem vLss {t:TypeId} {x y:Operand} {z:TypeId} {m n:Int} (hop:o.op=.binOp .lss t x y z) (hx:a.eval x=.int .i64 m) (hy:a.eval y=.int .i64 n) (hm:(Lit.int .i64 m).wf=true) (hn:(Lit.int .i64 n).wf=true) :
  (execOp a.eval o).run P w=.ok (.value (.bool (decide (m<n)))) w:=by
 obtain ⟨u,d,e1,e2,e3⟩:=binK_ok (P:=P) (w:=w) (H:=fun _ _=>none) (γ:=fun _=>.blk 0) (m:=[]) (op:=.lss) (t:=t) (xo:=x) (yo:=y) (x:=sc (.int .i64 m)) (y:=sc (.int .i64 n)) (k:=fun d=>d=sc (.bool (decide (m<n)))) ⟨rfl,rfl⟩
  (AR_mk_int hm) (AR_mk_int hn)
 subst e3
 simp only [execOp,hop,hx,hy]
 rw [Sem.run_bind,e1]
 obtain ⟨_,k,hk⟩:=e2
 have:u=.bool (decide (m<n)):=by cases k <;> exact hk
 rw [this]
 rfl
theorem vAdd {t:TypeId} {x y:Operand} {z:TypeId} {m n r:Int} (hop:o.op=.binOp .add t x y z) (hx:a.eval x=.int .i64 m) (hy:a.eval y=.int .i64 n) (hm:(Lit.int .i64 m).wf=true) (hn:(Lit.int .i64 n).wf=true) (hr:IntKind.i64.wrap (m+n)=r) :
  (execOp a.eval o).run P w=.ok (.value (.int .i64 r)) w:=by
 obtain ⟨u,d,e1,e2,e3⟩:=binK_ok (P:=P) (w:=w) (H:=fun _ _=>none) (γ:=fun _=>.blk 0) (m:=[]) (op:=.add) (t:=t) (xo:=x) (yo:=y) (x:=sc (.int .i64 m)) (y:=sc (.int .i64 n)) (k:=fun d=>d=sc (.int .i64 (IntKind.i64.wrap (m+n)))) ⟨rfl,rfl⟩
  (AR_mk_int hm) (AR_mk_int hn)
 subst e3
 simp only [execOp,hop,hx,hy]
 rw [Sem.run_bind,e1]
 obtain ⟨_,k,hk⟩:=e2
 have:u=.int .i64 (IntKind.i64.wrap (m+n)):=by cases k <;> exact hk.1
 rw [this,hr]
 rfl
theorem wpVst {t:TypeId} {x y:Operand} {b off:Nat} {z:Value} (hg:o.guard=none) (ho:o.dst=none) (hop:o.op=.store t x y) (hx:a.eval x=.pointer (some ⟨b,off,none⟩)) (hy:a.eval y=v) (ht:(ty P t).ok=true/\(ty P t).size=1) (hv:oneC v=true)
  (hc:w.cell? ⟨b,off,none⟩=some z) (hf:w.frozen? ⟨b,off,none⟩=false) (h:wpList P all Q rest a (w.setCell ⟨b,off,none⟩ v)):wpList P all Q (o::rest) a w:=
 wpList_plain hg fun K hK=>by
  obtain ⟨it,_,hit,_⟩:=ty_ok ht.1
  have hsz:P.cellsOf t=1:=by rw [<- ty_size ht.1,ht.2]
  have hcells:v.cells=#[v]:=by cases v <;> first | rfl | (simp [oneC] at hv)
  have hr:(execOp a.eval o).run P w=.ok .skip (w.setCell ⟨b,off,none⟩ v):=by
   simp only [execOp,hop,hx,hy]
   simp only [Instr.storeAt,Instr.sureAddr,Sem.run_bind,Sem.run_pure,Result.andThen_ok,storeVar,runs_sizeOf hit]
   rw [if_neg (by rw [hcells,hsz]; simp),hcells]
   simp only [storeCells,Sem.run_bind,addr_add]
   rw [Nat.add_zero,run_store1 hv hc hf]
   rfl
  unfold Oper.wp
  rw [hr]
  exact hK _ _ (by rw [ho]; exact h)
theorem wp_for {c:Code} {I:Nat->Act->World->Prop} {N i0:Nat} (h0:I i0 a w) (hle:i0<=N)
  (round:∀ i a w,i<=N->I i a w->c.wp P (fun e a' w'=>match e with | .normal=>i<N/\I (i+1) a' w' | e=>Q e a' w') a w):(Code.loop c).wp P Q a w:=by
 let p:Act->World->Nat->Prop:=fun a w n=>∃ i,i<=N/\N-i=n/\I i a w
 have hmin:∀ a w,(∃ n,p a w n)->∃ n,p a w n/\∀ m,m<n->¬ p a w m:=fun a w h=>least h
 let μ:Act->World->Nat:=fun a w=>by
  classical
  exact if h:∃ n,p a w n then Classical.choose (hmin a w h) else 0
 have hμ:∀ a w (h:∃ n,p a w n),p a w (μ a w)/\∀ m,m<μ a w->¬ p a w m:=by
  intro a w h
  have:μ a w=Classical.choose (hmin a w h):=by simp only [μ]; rw [dif_pos h]
  rw [this]
  exact Classical.choose_spec (hmin a w h)
 refine wp_loop (fun a w=>∃ n,p a w n) μ ⟨_,i0,hle,rfl,h0⟩ (fun a w hI=>?_)
 obtain ⟨⟨i,hi,hin,h2⟩,_⟩:=hμ a w hI
 refine Code.wp_mono (fun e a' w' hl=>?_) (round i a w hi h2)
 cases e with
 | normal=>
  obtain ⟨hlt,k2⟩:=hl
  have hI':∃ n,p a' w' n:=⟨_,i+1,hlt,rfl,k2⟩
  refine ⟨hI',?_⟩
  rcases Nat.lt_or_ge (μ a' w') (μ a w) with h | h
  ·exact h
  ·exact absurd ⟨i+1,hlt,rfl,k2⟩ ((hμ a' w' hI').2 (N - (i+1)) (by omega))
 | _=>exact hl
theorem wp_reg {R:Code} {id:Nat} {l:List Oper} (h:R=.region id l.toArray false) (hw:wpList P l.toArray Q l a w):R.wp P Q a w:=by
 rw [h]; exact wp_region_lit hw
theorem wp_sq {R x y:Code} (h:R=.seq x y) (hw:x.wp P (fun e a w=>match e with | .normal=>y.wp P Q a w | e=>Q e a w) a w):R.wp P Q a w:=by
 rw [h]
 refine wp_seq (Code.wp_mono (fun e a w hl=>?_) hw)
 cases e <;> exact hl
theorem wp_bk {R c:Code} {id:Nat} (h:R=.block id c) (hw:c.wp P (fun e a w=>match e with | .exit i=>if i=id then Q .normal a w else Q (.exit i) a w | e=>Q e a w) a w):R.wp P Q a w:=by
 rw [h]
 refine wp_block (Code.wp_mono (fun e a w hl=>?_) hw)
 cases e with
 | exit i=>simp only [Exit.inBlock]; split <;> simp_all
 | _=>exact hl
end
def kpL:Code->Code
 | .seq x _=>x
 | .cond _ x _=>x
 | _=>.skip
def kpR:Code->Code
 | .seq _ x=>x
 | .cond _ _ x=>x
 | _=>.skip
def kpB:Code->Code
 | .block _ x=>x
 | .loop x=>x
 | _=>.skip
def kpO:Code->List Oper
 | .region _ l _=>l.toList
 | _=>[]
def opN (R:Code) (i:Nat):Oper:=(kpO R).getD i ⟨none,.move (.tmp 0),0, "",#[],none⟩
structure Wd (H:FH) (G:Nat->Prop) (w2 w:World):Prop where
 size:w.heap.size=w2.heap.size
 os:w.os=w2.os
 tape:w.tape=w2.tape
 output:w.output=w2.output
 old:∀ b,¬ G b->w.heap[b]? = w2.heap[b]?
 cell:∀ b o y,H b o=some y->(∀ l,y≠.string l)->w.cell? ⟨b,o,none⟩=some y
 str:∀ b o l,H b o=some (.string l)->∃ l',w.cell? ⟨b,o,none⟩=some (.string l')
 thaw:∀ b,G b->Thawed w b
theorem frozen_thawed {w:World} {b o:Nat} (h:Thawed w b):w.frozen? ⟨b,o,none⟩=false:=by
 obtain ⟨cs,ty,h⟩:=h
 simp [World.frozen?,h]
theorem cell_setCell {w:World} {b o b' o':Nat} {v z:Value} (hz:w.cell? ⟨b,o,none⟩=some z):(w.setCell ⟨b,o,none⟩ v).cell? ⟨b',o',none⟩=if b'=b/\o'=o then some v else w.cell? ⟨b',o',none⟩:=by
 by_cases hb:b'=b
 ·subst hb
  simp only [World.cell?,Option.isSome_none,Bool.false_eq_true,if_false] at hz ⊢
  cases hh:w.heap[b']? with
  | none=>rw [hh] at hz; cases hz
  | some ob=>
   rw [hh] at hz
   cases ob with
   | cells cs ty fz=>
    rw [heap_setCell hh]
    dsimp only at hz ⊢
    rw [Array.getElem?_setIfInBounds]
    by_cases ho:o=o'
    ·subst ho
     rw [if_pos rfl,if_pos (Array.getElem?_eq_some_iff.1 hz).1,if_pos ⟨trivial,rfl⟩]
    ·rw [if_neg ho,if_neg (fun e=>ho e.2.symm)]
   | _=>cases hz
 ·rw [if_neg (fun e=>hb e.1)]
  exact cell?_of_heap (heap_setCell_ne hb)
theorem Wd.store {H:FH} {G:Nat->Prop} {w2 w:World} (h:Wd H G w2 w) {b o:Nat} {l l':ByteArray} (hH:H b o=some (.string l)) (hG:G b):Wd H G w2 (w.setCell ⟨b,o,none⟩ (.string l')):=by
 obtain ⟨z,hz⟩:=h.str b o l hH
 refine ⟨by rw [World.size_setCell]; exact h.size,h.os,h.tape,h.output,fun c hc=>?_,fun c q y hy hn=>?_,fun c q y hy=>?_,fun c hc=>(h.thaw c hc).setCell⟩
 ·rw [heap_setCell_ne (fun e=>hc (by rw [e]; exact hG))]; exact h.old c hc
 ·rw [cell_setCell hz]
  split
  ·rename_i e
   rw [e.1,e.2,hH] at hy
   exact absurd (Option.some.inj hy).symm (hn l)
  ·exact h.cell c q y hy hn
 ·rw [cell_setCell hz]
  split
  ·exact ⟨_,rfl⟩
  ·exact h.str c q y hy
theorem wf_nat {n:Nat} (h:n<=BIG):(Lit.int .i64 (n:Int)).wf=true:=wf_len h
theorem wrap_suc {n:Nat} (h:n<BIG):IntKind.i64.wrap ((n:Int)+1)=((n+1:Nat):Int):=by
 have h3:BIG=4611686018427387904:=rfl
 rw [h3] at h
 rw [IntKind.wrap_i64]; omega
end Go.Am
end

section
namespace Go.Am
open Go Go.RowKit Go.Proofs
section
variable {P:Program}
theorem Con_calls {f:Nat} {φ:List AV->(AV->Prop)->Prop} (hrun:∀ args w,(callFunc f args).run P w=.ok (.enter f args) w)
  (hbody:∀ (avs:List AV) (K:AV->Prop) (args:List Value) (w:World) (H:FH) (γ:Gam),φ avs K->args.length=avs.length->(∀ (i:Nat) v,avs[i]? = some v->∃ y,args[i]? = some y/\AR w H γ [] v y)->Globs H ->
   (∀ b o y,H b o=some y->w.cell? ⟨b,o,none⟩=some y) ->
   Calls P f args.toArray w (fun e w'=>∃ r av H2,e=.returned r/\K av/\Below w.heap.size w w'/\(∀ b o y,H b o=some y->H2 b o=some y)/\(∀ b o,H2 b o≠none->H b o=none->w.heap.size<=b)/\(∀ b o x l c,H2 b o=some (.slice x l c)->H b o=none->Thawed w' b) /\
    (∀ b o y,H2 b o=some y->w'.cell? ⟨b,o,none⟩=some y)/\av.isFz=true/\AR w' H2 γ [] av r)):Con P f (pureC φ):=by
 refine ⟨hrun,fun g s a w H γ F ops k hX hops hK=>?_⟩
 unfold pureC at hK
 dsimp only at hK
 obtain ⟨H1,F1,h1⟩:=RX_frzVs (ops.map (ev s)) s H F hX
 generalize frzVs s (ops.map (ev s))=s1 at hK h1
 obtain ⟨hfz,hφ⟩:=hK
 refine (hbody _ _ (ops.map a.eval) w H1 γ hφ (by simp) (fun i v hi=>?_) (RX_globs h1) h1.mem.agree).mono ?_
 ·rw [List.getElem?_map] at hi
  obtain ⟨x,hx0,rfl⟩:=Option.map_eq_some_iff.1 hi
  have hx:=ev_ok h1 (List.all_eq_true.1 hops x (List.mem_of_getElem? hx0))
  have hz:(ev s1 x).isFz=true:=List.all_eq_true.1 hfz (ev s1 x) (List.mem_map_of_mem (List.mem_of_getElem? hx0))
  exact ⟨a.eval x,by rw [List.getElem?_map,hx0]; rfl,AR_map TR_canon (AR_fz (fun _ _ _ h=>h) hz hx)⟩
 ·rintro e w' ⟨r,av,H2,rfl,hk,hb,hh,hn,hnz,hag,hz,har⟩
  have hold:∀ b,b<w.heap.size->w'.heap[b]? = w.heap[b]? := hb.block
  have hnew:∀ b,b<w.heap.size->H1 b=H2 b:=by
   intro b hb
   funext o
   cases hc:H1 b o with
   | some y=>rw [hh b o y hc]
   | none=>
    cases hc2:H2 b o with
    | none=>rfl
    | some y=>have:=hn b o (by rw [hc2]; simp) hc; omega
  have hsame:∀ b,tot F1 s1.m b≠0->w'.heap[b]? = w.heap[b]? := fun b hb=>hold b (h1.mem.lt b hb)
  have hKp:=Keeps_grow (w':=w') h1.mem hsame
  have hmem:Mem w' H2 γ s1.m F1:=by
   refine ⟨hag,fun x hx=>RootR_keeps hKp hh rfl (fun b hb=>hsame b (by have:=tot_ge (F:=F1) hx b; omega)) (h1.mem.roots x hx),h1.mem.keys,h1.mem.le1,fun b hb'=>by have:=h1.mem.lt b hb'; have:=hb.size; omega,fun b hb o=>?_⟩
   rw [<- hnew b (h1.mem.lt b hb)]; exact h1.mem.nofz b hb o
  have hFr:Fr w H1 (tot F1 s1.m) w' H2 (tot F1 s1.m):=
   ⟨hb.size,hb.os,hb.tape,hb.output,fun b hb _=>hold b hb,hh,fun b o h2 h3=>.inr (hn b o h2 h3),fun b hb=>.inl hb,fun b h0=>h0.of_block (hold b h0.lt),hnz⟩
  exact ⟨r,s1,av,H2,γ,F1,rfl,hk,AR_fz (fun _ _ _ h=>h) hz har,RX_step h1 hmem hFr (fun i=>AR_keeps hKp hh (h1.t i)) (fun _=>rfl)⟩
theorem Cont_calls {f:Nat} {ps rs:List U} {pre:Fl ps->Prop} {F:Fl ps->Fl rs} (hrun:∀ args w,(callFunc f args).run P w=.ok (.enter f args) w)
  (hbody:∀ (x:Fl ps) (args:List Value) (w:World) (H:FH) (γ:Gam),pre x->args.length=(avs0 ps x).length->(∀ (i:Nat) v,(avs0 ps x)[i]? = some v->∃ y,args[i]? = some y/\AR w H γ [] v y)->Globs H ->
   (∀ b o y,H b o=some y->w.cell? ⟨b,o,none⟩=some y) ->
   Calls P f args.toArray w (fun e w'=>∃ r H2,e=.returned r/\Below w.heap.size w w'/\(∀ b o y,H b o=some y->H2 b o=some y)/\(∀ b o,H2 b o≠none->H b o=none->w.heap.size<=b)/\(∀ b o x l c,H2 b o=some (.slice x l c)->H b o=none->Thawed w' b) /\
    (∀ b o y,H2 b o=some y->w'.cell? ⟨b,o,none⟩=some y)/\AR w' H2 γ [] (resA rs (F x)).toV r)):Cont P f (pureT ps rs pre F):=
 Cont_of_con (φ:=fun avs K=>∃ x:Fl ps,avs=avs0 ps x/\pre x/\K (resA rs (F x)).toV) (fun x K hp hk=>⟨x,rfl,hp,hk⟩)
  (Con_calls hrun (fun avs K args w H γ ⟨x,hx,hp,hk⟩ hl ha hg hag=>by
   subst hx
   refine (hbody x args w H γ hp hl ha hg hag).mono ?_
   rintro e w' ⟨r,H2,h1,h2,h3,h4,hz,h5,h6⟩
   exact ⟨r,_,H2,h1,hk,h2,h3,h4,hz,h5,resA_fz rs (F x),h6⟩))
theorem run_fn2 {f:Nat} {fn:Func} (hf:P.funcs[f]? = some fn) (hname:(fn.name == "runtime.NumGoroutine")=false) (hb:fn.body.isSome=true) (args:Array Value) (w:World):(callFunc f args).run P w=.ok (.enter f args) w:=by
 have h1:fn.name ≠ "runtime.NumGoroutine" := by simpa using hname
 cases hc:fn.body with
 | none=>rw [hc] at hb; cases hb
 | some c=>simp [callFunc,hf,h1,hc]
theorem AR_text {w:World} {H:FH} {γ:Gam} {l:List UInt8} {y:Value} (h:AR w H γ [] (.one (.c (.d (.str l)))) y):y=.string ⟨l.toArray⟩/\l.length<=BIG:=by
 obtain ⟨_,m,h⟩:=h
 cases m <;> exact h
theorem bs_list (l:List UInt8):(⟨l.toArray⟩:ByteArray).data.toList=l:=by simp
theorem bs_size (l:List UInt8):(⟨l.toArray⟩:ByteArray).size=l.length:=by simp [ByteArray.size]
theorem args2 {args:List Value} {x y:AV} {w:World} {H:FH} {γ:Gam} (hl:args.length=2) (ha:∀ (i:Nat) v,[x,y][i]? = some v->∃ y,args[i]? = some y/\AR w H γ [] v y):∃ u v,args=[u,v]/\AR w H γ [] x u/\AR w H γ [] y v:=by
 match args,hl with
 | [u,v],_=>
  obtain ⟨u',h1,h2⟩:=ha 0 x rfl
  obtain ⟨v',h3,h4⟩:=ha 1 y rfl
  simp only [List.getElem?_cons_zero,List.getElem?_cons_succ,Option.some.injEq] at h1 h3
  subst h1; subst h3
  exact ⟨u,v,rfl,h2,h4⟩
theorem below_drawn (B:Nat) (w:World) (n:Nat):Below B w (w.drewN n):=⟨rfl,rfl,rfl,Nat.le_refl _,fun _ _=>rfl⟩
theorem globs_max {w:World} {H:FH} (hg:Globs H) (hag:∀ b o y,H b o=some y->w.cell? ⟨b,o,none⟩=some y) {k:Nat} (hk:maxK=some k):∃ n,w.cell? ⟨k,0,none⟩=some (.int .i64 n):=by
 obtain ⟨n,m,h⟩:=hg.2 k hk
 obtain ⟨y,h1,h2⟩:=h 0 (by simp)
 have h2:FD H m (.int .i64 n) y:=h2
 have:y=.int .i64 n:=by cases m <;> exact h2.1
 subst this
 exact ⟨n,hag k 0 _ h1⟩
end
end Go.Am
end
