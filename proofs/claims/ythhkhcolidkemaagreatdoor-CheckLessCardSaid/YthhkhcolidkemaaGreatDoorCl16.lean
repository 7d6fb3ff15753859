/-
  Part 16: AmIt · AmE3i · AmE5 · AmE6 · AmE7 · AmE8 · AmE9 · AmE10 · AmE11 · AmOwnCon · AmE12 · AmLib.
-/
import Derived.Test.YthhkhcolidkemaaGreatDoorCl15
import Derived.Maps.RangeRun
set_option linter.unusedSimpArgs false
set_option linter.unusedVariables false
set_option linter.unusedSectionVars false
set_option linter.unnecessarySimpa false
section
namespace Go.Am
open MapKept
open Go.ChangeMaps (setBlock)
theorem LB {H:FH}:∀ {l:List (D×D)} {es:List MapEntry},ItL H l es->l.length=es.length
 | [],[],_=>rfl
 | _::_,_::_,h=>by simp [LB h.2]
 | [],_::_,h=>h.elim
 | _::_,[],h=>h.elim
theorem LA {H:FH}:∀ {l:List (D×D)} {es:List MapEntry},ItL H l es->∀ {i:Nat} {e:MapEntry},es[i]? = some e->∃ x,l[i]? = some x/\x.1.isKey=true/\FDx H x.1 e.key/\FDx H x.2 e.val
 | x::l,e0::es,h,i,e,he=>by
  cases i with
  | zero=>
   obtain rfl:e0=e:=by simpa using he
   exact ⟨x,rfl,h.1⟩
  | succ i=>exact LA h.2 (by simpa using he)
 | [],[],_,i,e,he=>by simp at he
 | [],_::_,h,_,_,_=>h.elim
 | _::_,[],h,_,_,_=>h.elim
theorem Ah {H:FH}:∀ {l:List (D×D)} {es:List MapEntry},ItL H l es->∀ i,ItL H (l.eraseIdx i) (es.eraseIdx i)
 | [],[],_,i=>by simp [ItL]
 | x::l,e::es,h,i=>by
  cases i with
  | zero=>exact h.2
  | succ i=>exact ⟨h.1,Ah h.2 i⟩
 | [],_::_,h,_=>h.elim
 | _::_,[],h,_=>h.elim
theorem xv:∀ {L:List MapEntry} {i:Nat} {e:MapEntry},(L.map (·.born)).Nodup->L[i]? = some e->L.filter (fun x=>!(x.born==e.born))=L.eraseIdx i
 | [],i,e,_,h=>by simp at h
 | x::L,i,e,hn,h=>by
  simp only [List.map_cons,ZL] at hn;cases i with
  | zero=>
   obtain rfl:x=e:=by simpa using h
   simp only [List.filter_cons,beq_self_eq_true,Bool.not_true,Y4,if_false,List.eraseIdx_cons_zero];refine List.filter_eq_self.2 fun y hy=>?_
   have:y.born≠x.born:=fun e=>hn.1 (e ▸ Zl hy)
   simpa using this
  | succ i=>
   have h:L[i]? = some e:=by simpa using h
   have hne:x.born≠e.born:=fun e2=>hn.1 (e2 ▸ Zl (Zi h))
   simp only [List.filter_cons,List.eraseIdx_cons_succ];rw [if_pos (by simpa using hne),xv hn.2 h]
theorem PX {H:FH} {m:Nat}:∀ {l:List (D×D)} {es:List MapEntry},es.length=l.length->(∀ (i:Nat) (x:D×D) (y:MapEntry),l[i]? = some x->es[i]? = some y->FD H m x.1 y.key/\FD H m x.2 y.val)->(∀ e∈l,e.1.isKey=true)->ItL H l es
 | [],[],_,_,_=>trivial
 | x::l,e::es,hl,h,hk=>by
  have h0:=h 0 x e rfl rfl
  exact ⟨⟨hk x (by simp),⟨m,h0.1⟩,m,h0.2⟩,PX (by simpa using hl) (fun i a b ha hb=>h (i+1) a b (by simpa using ha) (by simpa using hb)) (fun a ha=>hk a (by simp [ha]))⟩
 | [],_::_,h,_,_=>by simp at h
 | _::_,[],h,_,_=>by simp at h
section
variable {P:Program} {g:G} {s:S} {a:Act} {w:World} {H:FH} {γ:Gam} {F:Nm->Fp}
theorem P6 (h:RX g s a w H γ F) {z:Option (List (D×D))} {v:Value} (hv:FDx H (.mp z) v) (hk:∀ e∈z.getD [],e.1.isKey=true) {n:Nm} (hno:n.isOut=false) (hn:aa s.m n=none) {t kt et:TypeId} (ht:P.underlying t=some (.map kt et)) :
  ∃ w' γ' F',(Instr.range t v).run P w=.ok (.pointer (some ⟨w.heap.size,0,none⟩)) w'/\RX g ⟨s.t,(n,⟨false,[.it none (z.getD [])]⟩)::s.m⟩ a w' H γ' F'/\γ' n=.gh (.pointer (some ⟨w.heap.size,0,none⟩)):=by
 have main:∀ o:Obj,(∃ q a c,o=.mapIter q a #[] c/\ItR H none (z.getD []) q a #[] c)->∃ γ' F',RX g ⟨s.t,(n,⟨false,[.it none (z.getD [])]⟩)::s.m⟩ a (w.alloc o) H γ' F'/\γ' n=.gh (.pointer (some ⟨w.heap.size,0,none⟩)):=by
  rintro o ⟨q,a',c,rfl,hi⟩
  have hold:∀ k,k<w.heap.size->(w.alloc (.mapIter q a' #[] c)).heap[k]? = w.heap[k]? := fun k hk=>bO hk
  have h1:=nw h (w':=w.alloc (.mapIter q a' #[] c)) (by simp) rfl rfl rfl (fun b hb=>.inl (hold b hb))
  have hz:tot F s.m w.heap.size=0:=by
   rcases Zj (tot F s.m w.heap.size) with h' | h'
   ·exact h'
   ·have:=h.mem.lt w.heap.size (by omega); omega
  refine cO h1 hno hn (v:=.pointer (some ⟨w.heap.size,0,none⟩)) (t:=.it none (z.getD [])) (f:=fun b=>if b=w.heap.size then 1 else 0) ⟨w.heap.size,q,a',#[],c,rfl,bj,hi,fun _=>rfl⟩ (fun b=>?_) (fun b hb=>?_) (fun b hb=>?_)
  ·by_cases e:b=w.heap.size
   ·subst e; rw [hz]; simp
   ·rw [if_neg e]; have:=h.mem.le1 b; omega
  ·have e:b=w.heap.size:=by
    by_cases e:b=w.heap.size
    ·exact e
    ·rw [if_neg e] at hb; exact absurd rfl hb
   subst e;refine ⟨by simp,fun o=>?_⟩;cases hc:H w.heap.size o with
   | none=>rfl
   | some y=>have:=(h.mem.agree _ _ _ hc).lt; simp at this
  ·right
   have e:b=w.heap.size:=by
    by_cases e:b=w.heap.size
    ·exact e
    ·rw [if_neg e] at hb; exact absurd rfl hb
   have:=h.fr.size
   omega
 cases z with
 | none=>
  have hv:v=.map none:=by obtain ⟨m,hv⟩:=hv; cases m <;> exact hv
  subst hv;obtain ⟨γ',F',h1,h2⟩:=main (.mapIter none 0 #[] 0) ⟨_,_,_,rfl,rfl,rfl⟩;exact ⟨_,γ',F',by simp [Instr.range,run_underlying ht,Sem.run_bind,Result.andThen,newObj,Sem.run],h1,h2⟩
 | some l=>
  obtain ⟨m,hv⟩:=hv;cases m with
  | zero=>exact hv.elim
  | succ m=>
   obtain ⟨b,es,ck,rfl,k2,k3,k4⟩:=hv;obtain ⟨k5,k6⟩:=h.mem.agree b 0 _ k2;obtain ⟨γ',F',h1,h2⟩:=main (.mapIter (some b) ck #[] ck) ⟨_,_,_,rfl,es,ck,k2,rfl,rfl,by rw [List.filter_eq_self.2 (fun e _=>by simp)]; exact PX k3 k4 hk,trivial⟩;exact ⟨_,γ',F',by simp [Instr.range,run_underlying ht,getObj,k5,Sem.run_bind,Result.andThen,newObj,Sem.run],h1,h2⟩
theorem V0 (h:Mem w H γ s.m F) {n:Nm} {cur:Option (D×D)} {rest:List (D×D)} (hr:aa s.m n=some ⟨false,[.it cur rest]⟩) :
  ∃ r q x y c,γ n=.gh (.pointer (some ⟨r,0,none⟩))/\w.heap[r]? = some (.mapIter q x y c)/\ItR H cur rest q x y c/\∀ k,F n k=if k=r then 1 else 0:=by
 have hroot:=h.roots _ (ab hr)
 unfold aW at hroot;dsimp only at hroot;rw [if_neg (by simp)] at hroot;obtain ⟨v,t,h1,h2,h3⟩:=hroot;obtain rfl:t=.it cur rest:=by simpa using h2.symm
 obtain ⟨r,q,x,y,c,rfl,k2,k3,k4⟩:=h3;exact ⟨r,q,x,y,c,h1,k2,k3,k4⟩
theorem M2 (h:RX g s a w H γ F) {n:Nm} {cur:Option (D×D)} {rest:List (D×D)} (hr:aa s.m n=some ⟨false,[.it cur rest]⟩) (ty:TypeId) :
  ∃ v,γ n=.gh v/\((rest=[]/\(Instr.next v false ty).run P w=.ok (.tuple #[.bool false]) w) \/
   ∃ i x ky vl w' F',i<rest.length/\rest[i]? = some x/\(Instr.next v false ty).run P w=.ok (.tuple #[.bool true,ky,vl]) w'/\FDx H x.1 ky/\FDx H x.2 vl /\
    RX g ⟨s.t,bv s.m n ⟨false,[.it (some x) (rest.eraseIdx i)]⟩⟩ a w' H γ F'):=by
 obtain ⟨r,q,x,y,c,h1,h2,h3,h4⟩:=V0 h.mem hr;refine ⟨_,h1,?_⟩;cases q with
 | none=>
  obtain ⟨rfl,rfl⟩:=h3;exact .inl ⟨rfl,by simp [Instr.next,getObj,Sem.run_bind,Sem.run,h2,Result.andThen]⟩
 | some b=>
  obtain ⟨es,ck,k1,k2,k3,k4,k5⟩:=h3;obtain ⟨k6,k7⟩:=h.mem.agree b 0 _ k1;have hst:=(stamped_iff es ck).1 k7
  have hL:(leftOf es y).toList=es.toList.filter fun e=>!y.contains e.born:=by simp [leftOf]
  rcases run_next_at (P:=P) w ty r b x c y es ck h2 k6 (fun e he=>by rw [k2]; exact hst.1 e he) (by omega) with ⟨h5,h6⟩ | ⟨e,he,w1,hw1,h6⟩
  ·refine .inl ⟨?_,h6⟩;have:=LB k4
   have h7:(leftOf es y).toList.length=0:=h5
   rw [hL] at h7;exact Zy (by omega)
  ·refine .inr ?_;rw [hL] at he;obtain ⟨i,hi⟩:=List.getElem?_of_mem he;obtain ⟨z,z1,z2,z3,z4⟩:=LA k4 hi;have hil:i<rest.length:=(Zr.1 z1).1
   have hbe:w1.heap=w.heap/\w1.os=w.os/\w1.tape=w.tape/\w1.output=w.output:=by rcases hw1 with rfl | rfl <;> exact ⟨rfl,rfl,rfl,rfl⟩
   obtain ⟨e1,e2,e3,e4⟩:=hbe;have hset:=heap_set (o':=.mapIter (some b) x (y.push e.born) ck) h2
   have htr:tot F s.m r≠0:=by have:=aN (F:=F) (ab hr) r; have:=h4 r; rw [if_pos rfl] at this; dsimp only at *; omega
   have hbr:b≠r:=fun e=>by subst e; rw [h2] at k6; cases k6
   have hnd:((es.toList.filter fun e=>!y.contains e.born).map (·.born)).Nodup:=(hst.2.1.sublist ((List.filter_sublist (p:=fun e:MapEntry=>!y.contains e.born) (l:=es.toList)).map _))
   have hmem:e∈es.toList:=(aaV.1 he).1
   have hfil:es.toList.filter (fun x=>!(y.push e.born).contains x.born)=(es.toList.filter fun e=>!y.contains e.born).eraseIdx i:=by
    rw [<- xv hnd hi,List.filter_filter];refine List.filter_congr fun x _=>?_
    simp only [Array.contains_push];cases y.contains x.born <;> cases hb:(x.born==e.born) <;> simp_all
   refine ⟨i,z,e.key,e.val,setBlock w1 r (.mapIter (some b) x (y.push e.born) ck),upd F n (F n),hil,z1,h6,z3,z4,?_⟩;have hheap:(setBlock w1 r (.mapIter (some b) x (y.push e.born) ck)).heap=w.heap.setIfInBounds r (.mapIter (some b) x (y.push e.born) ck):=by show w1.heap.setIfInBounds _ _=_; rw [e1]
   refine P5 h rfl rfl hr h1 (f':=F n) ⟨r,some b,x,y.push e.born,ck,rfl,by rw [hheap]; exact hset.1,⟨es,ck,k1,k2,rfl,by rw [hfil]; exact Ah k4 i,y,e,rfl,hmem,z2,z3,z4⟩,h4⟩ (fun c=>by have:=h.mem.le1 c; omega) (fun c hc=>?_) (by rw [hheap]; simp) e2 e3 e4 (fun c hc=>?_) (fun _ _ _ h=>h) (fun b' o y' hy=>(h.mem.agree b' o y' hy).frame ?_) (fun b o h1 h2=>absurd h2 h1) ⟨fun b' h'=>h'.of_block ?_,fun c o x y z h1 h2=>by rw [h2] at h1; cases h1⟩
   ·have:tot F s.m c≠0:=by have:=aN (F:=F) (ab hr) c; dsimp only at *; omega
    exact ⟨h.mem.lt c this,h.mem.nofz c this,h.fr.tt c this⟩
   ·rw [hheap];exact hset.2 c fun e=>by rw [h4,if_pos e] at hc; cases hc
   ·rw [hheap];exact hset.2 b' fun e=>by subst e; rw [h.mem.nofz _ htr o] at hy; cases hy
   ·rw [hheap];refine hset.2 b' fun e=>?_
    subst e;obtain ⟨cs,ty,e⟩:=h';rw [h2] at e; cases e
theorem IN (h:RX g s a w H γ F) {n:Nm} {x:D×D} {rest:List (D×D)} (hr:aa s.m n=some ⟨false,[.it (some x) rest]⟩) :
  ∃ v ky vl,γ n=.gh v/\(Instr.entry v).run P w=.ok (.tuple #[ky,vl]) w/\x.1.isKey=true/\FDx H x.1 ky/\FDx H x.2 vl:=by
 obtain ⟨r,q,a',y,c,h1,h2,h3,h4⟩:=V0 h.mem hr;cases q with
 | none=>obtain ⟨h3,_⟩:=h3; cases h3
 | some b=>
  obtain ⟨es,ck,k1,k2,k3,k4,sn,e,rfl,k5,k8,k9,k10⟩:=h3;obtain ⟨k6,k7⟩:=h.mem.agree b 0 _ k1;have hst:=(stamped_iff es ck).1 k7
  subst k3;exact ⟨_,e.key,e.val,h1,run_entry_at w r b a' sn es c e h2 k6 k5 hst.2.1,k8,k9,k10⟩
theorem Po {m:Mm} {n:Nm} {cur:Option (D×D)} {rest:List (D×D)} {v:Value} (hn:aa m n=some ⟨false,[.it cur rest]⟩) (hg:γ n=.gh v):AR w H γ m (.one (.c (.rf ⟨n,0,[]⟩))) v:=by
 refine ⟨fun _=>rfl,?_,?_⟩
 ·rw [br];exact ⟨_,hn,trivial⟩
 ·unfold plV;dsimp only;rw [hg]; rfl
end
end Go.Am
end

section
namespace Go.Am
section
variable {P:Program} {g:G} {a:Act} {w:World} {H:FH} {γ:Gam} {F:Nm->Fp} {s:St} {k k':St->Prop}
theorem KB {t:TypeId} {x:Operand} {d:Tmp} (hk:∀ s',Ext s s'->k s'->k' s') (h:t8 P s t x d k):t8 P s t x d k':=by
 unfold t8 at h ⊢;dsimp only at h ⊢
 (repeat' split at h) <;> first | exact h.elim | exact hk _ ((((fg _ _).trans (bt _ _)).trans (ce _ _ _)).trans (ax _ _ _)) h
theorem OA {x:At} {d:Option Tmp} (hk:∀ s',Ext s s'->k s'->k' s') (h:Bb s x d k):Bb s x d k':=by
 unfold Bb at h ⊢;split at h
 ·exact ⟨fun e=>hk _ (ax _ _ _) (h.1 e),fun i hi=>hk _ ((qS _ _ _).trans (ax _ _ _)) (h.2 i hi)⟩
 ·exact h.elim
theorem Jq {x:At} {d:Option Tmp} (hk:∀ s',Ext s s'->k s'->k' s') (h:oN s x d k):oN s x d k':=by
 unfold oN at h ⊢;split at h
 ·exact hk _ (ax _ _ _) h
 ·exact h.elim
theorem Gc {x:At} {d:Tmp} (hk:∀ s',Ext s s'->k s'->k' s') (h:oW s x d k):oW s x d k':=by
 unfold oW at h ⊢
 (repeat' split at h) <;> first | exact h.elim | exact ⟨h.1,hk _ (ax _ _ _) h.2⟩
theorem Nd {n:Nm} {row:List C}:∀ {t:Tt},t.hit (aJ n)=false->t.frB n row=t:=by
 intro t h;cases t with
 | pl p=>
  have h:decide (p.root=n)=false:=h
  have h:p.root≠n:=of_decide_eq_false h
  simp only [Tt.frB];split
  ·rw [if_neg h]
  ·simp [Tt.kill,aJ,h]
 | rf p=>
  have h:decide (p.root=n)=false:=h
  have h:p.root≠n:=of_decide_eq_false h
  simp [Tt.frB,Tt.kill,aJ,h]
 | _=>rfl
theorem MU (s:St) (n:Nm):Ext s (E9 s n):=by
 unfold E9;split
 ·split
  ·exact ⟨ZC _,qQ (·.hit (aJ n)) (·.map (Tt.frB n _)) (fun _ h=>sE Nd h) (YY _),(lq n).trans (cN (YY _))⟩
  ·exact Ext.refl s
 ·exact Ext.refl s
theorem oB:∀ (vs:List At) (s:St),Ext s (pz s vs)
 | [],s=>Ext.refl s
 | v::vs,s0=>by
  unfold pz;split
  ·exact Ext.refl _
  ·rename_i h; cases h; exact (MU _ _).trans (oB _ _)
  ·rename_i h; cases h; exact oB _ _
theorem zq {f:Nat} {caps:List Operand} {d:Option Tmp} (hk:∀ s',Ext s s'->k s'->k' s') (h:jg s f caps d k):jg s f caps d k':=by
 unfold jg at h ⊢;dsimp only at h ⊢;split at h
 ·exact hk _ ((oB _ _).trans (ax _ _ _)) h
 ·exact h.elim
theorem Uh {ku vu:U} (h1:leaf ku=true) (h2:leaf vu=true) (z:Option (List (El ku×El vu))):(C.mp ku vu z).toD=.mp (z.map fun l=>l.map (pm ku vu)):=by
 show D.mp _=D.mp _
 congr 1
 cases z with
 | none=>rfl
 | some l=>
  show some _=some _
  congr 1
  refine Zc fun x _=>?_
  show ((ak ku x.1).headD .any,(ak vu x.2).headD .any)=_
  rw [gV h1,gV h2]; rfl
theorem ON {t:TypeId} {x:Operand} {d:Tmp} (hX:RX g s.toS a w H γ F) (hd:okD g.nt (some d)=true) (hx:au x=true) (h:t8 P s t x d k) :
  ∃ t' y w' H' γ' F',(Instr.range t (a.eval x)).run P w=.ok y w'/\k t'/\RX g t'.toS (a.put (some d) y) w' H' γ' F':=by
 unfold t8 at h;dsimp only at h;obtain ⟨H1,F1,h1⟩:=fh hX (evA s x);generalize dV s (evA s x)=s1 at h h1;split at h
 ·rename_i kt et ht;split at h
  ·rename_i ku vu z hv;split at h
   ·rename_i hc;simp only [YV] at hc;obtain ⟨_,td,_,hu,htd,_⟩:=aO ht (by simp);obtain rfl:=pK htd;have h2:=bS h1 (.gh d)
    rw [<- bk (dT h1)] at h2;have h3:=az h2 hx
    rw [ac hx,hv] at h3;have h4:FDx H1 (.mp (z.map fun l=>l.map (pm ku vu))) (a.eval x):=by rw [<- Uh (x5 hc.1) hc.2]; exact h3.2
    have hn:=bB h1 (.gh d)
    rw [<- bk (dT h1)] at hn;obtain ⟨w',γ',F',e1,e2,e3⟩:=P6 (P:=P) h2 h4 (fun e he=>by
     cases z with
     | none=>cases he
     | some l=>
      obtain ⟨y,_,rfl⟩:=Zo.1 (show e∈l.map (pm ku vu) from he);exact mH (eh hc.1 y.1)) (n:=.gh d) rfl hn hu
    refine ⟨_,_,w',H1,γ',F',e1,h,?_⟩;have ez:(z.map fun l=>l.map (pm ku vu)).getD []=(z.getD []).map (pm ku vu):=by cases z <;> rfl
    rw [ez] at e2;have e:((s1.fresh (.gh d)).root (.gh d) ⟨false,[.it ku vu none (z.getD [])],none⟩).toS=⟨(s1.fresh (.gh d)).toS.t,(.gh d,⟨false,[.it none ((z.getD []).map (pm ku vu))]⟩)::(s1.fresh (.gh d)).toS.m⟩:=rfl
    rw [<- e] at e2;refine aR (aD _ (some d) (.one (.c (.rf ⟨.gh d,0,[]⟩)))) (e2.put hd ?_);exact Po (cur:=none) (rest:=(z.getD []).map (pm ku vu)) (by rw [e]; simp [aa]) e3
   ·exact h.elim
  ·exact h.elim
 ·exact h.elim
theorem Mo {x:At} {n:Nm} {ku vu:U} {cur:Option (El ku×El vu)} {rest:List (El ku×El vu)} (h:Uz s.m x=some (n,⟨ku,vu,cur,rest⟩)) :
  x=.one (.c (.rf ⟨n,0,[]⟩))/\aa s.toS.m n=some ⟨false,[.it (cur.map (pm ku vu)) (rest.map (pm ku vu))]⟩:=by
 unfold Uz at h;split at h
 ·split at h
  ·rename_i hr;cases h;exact ⟨rfl,aM hr⟩
  ·cases h
 ·cases h
theorem V1 {n:Nm} {v y:Value} {m:Mm} (hg:γ n=.gh v) (h:AR w H γ m (.one (.c (.rf ⟨n,0,[]⟩))) y):y=v:=by
 obtain ⟨_,_,hv⟩:=h;unfold plV at hv;dsimp only at hv;rw [hg] at hv;exact (Option.some.inj hv).symm
theorem RY {x:At} {d:Option Tmp} (hX:RX g s.toS a w H γ F) (hd:okD g.nt d=true) {y:Value} (hy:AR w H γ s.toS.m x.toV y) (ty:TypeId) (h:Bb s x d k) :
  ∃ t' z w' F',(Instr.next y false ty).run P w=.ok z w'/\k t'/\RX g t'.toS (a.put d z) w' H γ F':=by
 unfold Bb at h;split at h
 ·rename_i n ku vu cur rest hi;obtain ⟨rfl,hr⟩:=Mo hi;obtain ⟨v,hg,hnx⟩:=M2 (P:=P) hX hr ty;obtain rfl:=V1 hg hy;rcases hnx with ⟨h1,h2⟩ | ⟨i,e,ky,vl,w',F',h1,h2,h3,h4,h5,h6⟩
  ·refine ⟨_,_,w,F,h2,h.1 (List.map_eq_nil_iff.1 h1),aR (aD _ _ _) (hX.put hd ?_)⟩;exact ⟨_,rfl,⟨fun _=>rfl,0,rfl⟩,trivial⟩
  ·have hil:i<rest.length:=by simpa using h1
   refine ⟨_,_,w',F',h3,h.2 i hil,?_⟩;have ee:e=pm ku vu (rest.getD i (dflt ku,dflt vu)):=by
    rw [YW,YU hil] at h2;rw [List.getD,YU hil];exact (Option.some.inj h2).symm
   have e2:(⟨s.nx+1,s.t,cq s.m n s.nx ⟨false,[.it ku vu (some (rest.getD i (dflt ku,dflt vu))) (rest.eraseIdx i)],none⟩⟩:St).toS=⟨s.toS.t,bv s.toS.m n ⟨false,[.it (some e) ((rest.map (pm ku vu)).eraseIdx i)]⟩⟩:=by
    rw [ee,<- Go.ChangeMaps.map_eraseIdx];show (⟨_,toM (cq s.m n s.nx _)⟩:S)=_
    rw [dI]; rfl
   rw [<- e2] at h6;refine aR (aD _ _ _) (h6.put hd ?_);rw [ee] at h4 h5;exact ⟨_,rfl,⟨fun _=>rfl,0,rfl⟩,⟨fun _=>rfl,h4⟩,⟨fun _=>rfl,h5⟩,trivial⟩
 ·exact h.elim
theorem NZ {x:At} {d:Option Tmp} (hX:RX g s.toS a w H γ F) (hd:okD g.nt d=true) {y:Value} (hy:AR w H γ s.toS.m x.toV y) (h:oN s x d k) :
  ∃ t' z,(Instr.entry y).run P w=.ok z w/\k t'/\RX g t'.toS (a.put d z) w H γ F:=by
 unfold oN at h;split at h
 ·rename_i n ku vu e rest hi;obtain ⟨rfl,hr⟩:=Mo hi;obtain ⟨v,ky,vl,hg,h1,_,h2,h3⟩:=IN (P:=P) hX hr;obtain rfl:=V1 hg hy;exact ⟨_,_,h1,h,aR (aD _ _ _) (hX.put hd ⟨_,rfl,⟨fun _=>rfl,h2⟩,⟨fun _=>rfl,h3⟩,trivial⟩)⟩
 ·exact h.elim
theorem yu {t tt:TypeId} {kt et:TypeId} {b:Nat} {es:Array MapEntry} {ck:Nat} (hu:P.underlying t=some (.map kt et)) (hb:w.heap[b]? = some (.map es ck)) :
  (Builtin.len_ #[t] tt #[.map (some b)]).run P w=.ok (.int .i64 (es.size:Int)) w:=by
 simp [Builtin.len_,run_underlying hu,getObj,Sem.run,Sem.run_bind,hb,Result.andThen,goInt]
theorem GG {t tt:TypeId} {kt et:TypeId} (hu:P.underlying t=some (.map kt et)) :
  (Builtin.len_ #[t] tt #[.map none]).run P w=.ok (.int .i64 0) w:=by
 simp [Builtin.len_,run_underlying hu,Sem.run,Sem.run_bind,Result.andThen,goInt]
theorem LD {w:World} {H:FH}:∀ {l:List (D×Sh×D)} {es:List MapEntry} {f:Fp},MpO w H l es f->l.length=es.length
 | [],[],_,_=>rfl
 | _::_,_::_,_,h=>by obtain ⟨_,f1,f2,k,_,_,h⟩:=h; simp [LD h]
 | [],_::_,_,h=>h.elim
 | _::_,[],_,h=>h.elim
theorem J0 {x:At} {d:Tmp} (hX:RX g s.toS a w H γ F) (hd:okD g.nt (some d)=true) {y:Value} (hy:AR w H γ s.toS.m x.toV y) {t tt:TypeId} {kt et:TypeId} (ht:(ty P t).k=.mp kt et) (h:oW s x d k) :
  ∃ t' z,(Builtin.len_ #[t] tt #[y]).run P w=.ok z w/\k t'/\RX g t'.toS (a.put (some d) z) w H γ F:=by
 obtain ⟨_,td,_,hu,htd,_⟩:=aO ht (by simp);obtain rfl:=pK htd;have big:∀ n:Nat,n<=4611686018427387904->(Lit.int .i64 (n:Int)).wf=true:=fun n h=>yV (by unfold BIG; omega)
 unfold oW at h;split at h
 ·rename_i ku vu z;have hd2:FDx H (.mp (z.map fun l=>l.map fun x=>((ak ku x.1).headD .any,(ak vu x.2).headD .any))) y:=hy.2
  cases z with
  | none=>
   have hy0:y=.map none:=by obtain ⟨m,hd2⟩:=hd2; cases m <;> exact hd2
   subst hy0;exact ⟨_,_,GG hu,h.2,aR (aD _ _ _) (hX.put hd ⟨fun _=>rfl,0,rfl,big 0 (by omega)⟩)⟩
  | some l=>
   obtain ⟨m,hd2⟩:=hd2;cases m with
   | zero=>exact hd2.elim
   | succ m=>
    obtain ⟨b,es,ck,rfl,k2,k3,k4⟩:=hd2;obtain ⟨k5,k6⟩:=hX.mem.agree b 0 _ k2;have e:es.size=l.length:=by rw [YX] at k3; exact k3
    exact ⟨_,_,yu hu k5,h.2,aR (aD _ _ _) (hX.put hd ⟨fun _=>rfl,0,by rw [e]; rfl,big _ h.1⟩)⟩
 ·rename_i p;split at h
  ·rename_i ku vu l hm;obtain ⟨n,rfl,hr⟩:=oU hm;obtain ⟨b,es,ck,f,rfl,_,c2,c3,c4,_⟩:=qz hX hr hy;have e:es.size=l.length:=by have:=LD c4; rw [YX] at this; exact this.symm
   exact ⟨_,_,yu hu c2,h.2,aR (aD _ _ _) (hX.put hd ⟨fun _=>rfl,0,by rw [e],big _ h.1⟩)⟩
  ·exact h.elim
 ·exact h.elim
theorem SR:∀ {cells:List Tt} {row:List C},tdC cells=some row->(cells.map Tt.toT).all T.isD=true/\(cells.map Tt.toT).map T.toD=row.map C.toD
 | [],row,h=>by cases h; exact ⟨rfl,rfl⟩
 | t::ts,row,h=>by
  cases t with
  | d c=>
   have h':∃ r,tdC ts=some r/\row=c::r:=by
    cases c with
    | any=>cases h
    | _=>obtain ⟨r,h1,h2⟩:=Y7.1 h; exact ⟨r,h1,h2.symm⟩
   obtain ⟨r,h1,rfl⟩:=h';obtain ⟨k1,k2⟩:=SR h1;exact ⟨by simp only [List.map_cons,Zb,k1]; rfl,by simp only [List.map_cons,k2]; rfl⟩
  | _=>simp [tdC] at h
theorem IX (n:Nm) (row:List C) (t:Tt):(t.frB n row).toT=t.toT.frB n (row.map C.toD):=by
 cases t with
 | pl p=>
  obtain ⟨r,o,path⟩:=p;cases path with
  | nil=>
   show (if r=n then Tt.el row o else Tt.pl ⟨r,o,[]⟩).toT=if r=n then T.el (row.map C.toD) o else T.pl ⟨r,o,[]⟩
   by_cases e:r=n
   ·rw [if_pos e,if_pos e]; rfl
   ·rw [if_neg e,if_neg e]; rfl
  | cons st u=>exact cW (aJ n) (.pl ⟨r,o,st::u⟩)
 | rf p=>exact cW (aJ n) (.rf p)
 | _=>rfl
theorem M7 (h:RX g s.toS a w H γ F) (n:Nm):∃ H',RX g (E9 s n).toS a w H' γ F:=by
 unfold E9;split
 ·rename_i cells hr;split
  ·rename_i row hrow;obtain ⟨h1,h2⟩:=SR hrow;obtain ⟨H',h'⟩:=Tp h n;refine ⟨H',?_⟩;have eg:aa s.toS.m n=some ⟨true,cells.map Tt.toT⟩:=aM hr
   have e:s.toS.frzB n=(⟨s.nx+1,s.t.map fun x=>(x.1,stp (x.2.2.hit (aJ n)) s.nx x.2.1,x.2.2.map (Tt.frB n row)),bC (aJ n) s.nx (dh s.m n)⟩:St).toS:=by
    unfold S.frzB;rw [eg];dsimp only;rw [if_pos h1,h2];refine aU.S_ext ?_ ?_
    ·simp only [St.toS,qj,Y9];exact Zc fun x _=>by simp only [Function.comp,pM (IX n row)]
    ·have h3:=cH (aJ n) s.nx (dh s.m n)
     rw [jB n s.m (dT h)] at h3;exact h3.symm
   rw [<- e]; exact h'
  ·exact ⟨H,h⟩
 ·exact ⟨H,h⟩
theorem oG:∀ (vs:List At) (s:St) (H:FH),RX g s.toS a w H γ F->∃ H',RX g (pz s vs).toS a w H' γ F
 | [],s,H,h=>⟨H,h⟩
 | v::vs,s0,H,h=>by
  unfold pz;split
  ·exact ⟨H,h⟩
  ·rename_i e; cases e;obtain ⟨H1,h1⟩:=M7 h _;exact oG _ _ H1 h1
  ·rename_i e; cases e; exact oG _ _ H h
theorem xm {row:List C} {c:Lt.Cap}:∀ {l:List Sn},EN row l=some c->row=flat (.st (B1 c).1) (B1 c).2/\c.enc=row.map C.toD
 | [],h=>by cases h
 | n::r,h=>by
  unfold EN at h;split at h
  ·rename_i x hx;split at h
   ·rename_i c' hc;cases h;obtain ⟨h1,h2⟩:=Uc hc;have h3:=ug hx
    refine ⟨by rw [h1]; exact h3,?_⟩;rw [h2,h3,bh]; rfl
   ·exact xm h
  ·exact xm h
theorem AE (hX:RX g s.toS a w H γ F):∀ {ops:List Operand} {cs:List Lt.Cap},ops.all au=true->B2 s ops=some cs->cs.length=ops.length/\∃ m,∀ (i:Nat) (row:List D) (y:Value),(cs.map Lt.Cap.enc)[i]? = some row->(ops.map a.eval)[i]? = some y ->
   ∃ b o,y=.pointer (some ⟨b,o,none⟩)/\∀ j,j<row.length->∃ z:Value,H b (o+j)=some z/\FD H m (row.getD j default) z
 | [],cs,_,h=>by cases h; exact ⟨rfl,0,fun i row y h=>by simp at h⟩
 | x::ops,cs,ho,h=>by
  simp only [Zb,YV] at ho;unfold B2 at h;split at h
  ·rename_i row hv;split at h
   ·rename_i c cs' hc hcs;cases h;obtain ⟨h1,m1,h2⟩:=AE hX ho.2 hcs;have h3:=az hX ho.1
    rw [ac ho.1,hv] at h3;obtain ⟨_,b,o,m2,h4,h5⟩:=h3;obtain ⟨_,h6⟩:=xm hc;refine ⟨by simp [h1],m1+m2,fun i row' y hi hy=>?_⟩;have mono:=fun {m:Nat} (hm:m<=m1+m2) {d:D} {v:Value} (h:FD H m d v)=>eF (fun _ _ _ h=>h) m (m1+m2) d v hm h
    cases i with
    | zero=>
     have hi:c.enc=row':=by simpa using hi
     have hy:a.eval x=y:=by simpa using hy
     subst hi hy;rw [h6];refine ⟨b,o,h4,fun j hj=>?_⟩;obtain ⟨z,hz,hf⟩:=h5 j hj;exact ⟨z,hz,mono (by omega) hf⟩
    | succ i=>
     obtain ⟨b',o',k1,k2⟩:=h2 i row' y (by simpa using hi) (by simpa using hy);refine ⟨b',o',k1,fun j hj=>?_⟩;obtain ⟨z,hz,hf⟩:=k2 j hj;exact ⟨z,hz,mono (by omega) hf⟩
   ·cases h
  ·cases h
theorem Cv {f:Nat} {caps:List Operand} {d:Option Tmp} (hX:RX g s.toS a w H γ F) (hd:okD g.nt d=true) (hc:caps.all au=true) (h:jg s f caps d k) :
  ∃ t' H',k t'/\RX g t'.toS (a.put d (.func (.func f) #[] (caps.map a.eval).toArray)) w H' γ F:=by
 unfold jg at h;dsimp only at h;obtain ⟨H1,h1⟩:=oG (caps.map (evA s)) s H hX;generalize pz s (caps.map (evA s))=s1 at h h1;split at h
 ·rename_i cs hcs;obtain ⟨k1,m,k2⟩:=AE h1 hc hcs;refine ⟨_,H1,h,aR (aD _ _ _) (h1.put hd ⟨fun _=>rfl,m+1,caps.map a.eval,rfl,?_,k2⟩)⟩;simp [k1]
 ·exact h.elim
end
abbrev chn (v:Value):List PanicEntry:=[{ v,recovered:=false }]
def fH (g:G) (a:Act) (pk:PKt) (k:St->At->Prop) (e:Ending) (w':World):Prop:=
 (∃ r s' av H' γ' F',e=.returned r/\k s' av/\AR w' H' γ' (toM s'.m) av.toV r/\RX g s'.toS a w' H' γ' F') \/
 ∃ v s',e=.panicked (chn v)/\pk v s'/\R g s'.toS a w'
structure Cont (P:Program) (f:Nat) (C:CKt):Prop where
 run:∀ args w,(callFunc f args).run P w=.ok (.enter f args) w
 ext:∀ (pk:PKt) (s:St) (ops:List Operand) (k k':St->At->Prop),(∀ s' v,Ext s s'->k s' v->k' s' v)->C pk s ops k->C pk s ops k'
 call:∀ (g:G) (pk:PKt) (s:St) (a:Act) (w:World) (H:FH) (γ:Gam) (F:Nm->Fp) (ops:List Operand) (k:St->At->Prop),RX g s.toS a w H γ F->ops.all au=true->C pk s ops k ->
  Calls P f (ops.map a.eval).toArray w (fH g a pk k)
structure ContC (P:Program) (key:Nat) (C:CKt):Prop where
 big:1000000<=key
 run:∀ args w,(callFunc (key - 1000000) args).run P w=.ok (.enter (key - 1000000) args) w
 ext:∀ (pk:PKt) (s:St) (ops:List Operand) (k k':St->At->Prop),(∀ s' v,Ext s s'->k s' v->k' s' v)->C pk s ops k->C pk s ops k'
 call:∀ (g:G) (pk:PKt) (s:St) (a:Act) (w:World) (H:FH) (γ:Gam) (F:Nm->Fp) (t:Tmp) (ops:List Operand) (k:St->At->Prop) (ps:Array Value),RX g s.toS a w H γ F->ops.all au=true->t<TB->a.tmps.getD t undef=.func (.func (key - 1000000)) #[] ps->C pk s (.tmp t::ops) k ->
  Calls P (key - 1000000) ((ops.map a.eval).toArray++ps) w (fH g a pk k)
def En.ok (e:En):Prop:=∀ x∈e.cs,(Nat.blt x.1 1000000=true->Cont e.P x.1 x.2)/\(1000000<=x.1->ContC e.P x.1 x.2)
theorem En.ok_get' {e:En} (h:e.ok) {f:Nat} {C:CKt} (hg:e.cs.get f=some C):(Nat.blt f 1000000=true->Cont e.P f C)/\(1000000<=f->ContC e.P f C):=by
 have:∀ cs:CTt,(∀ x∈cs,(Nat.blt x.1 1000000=true->Cont e.P x.1 x.2)/\(1000000<=x.1->ContC e.P x.1 x.2))->cs.get f=some C->(Nat.blt f 1000000=true->Cont e.P f C)/\(1000000<=f->ContC e.P f C):=by
  intro cs;induction cs with
  | nil=>intro _ h; cases h
  | cons x cs ih=>
   obtain ⟨f',C'⟩:=x;intro h hg2;simp only [CTt.get] at hg2;split at hg2
   ·rename_i hb;have:=Y1 hb
    subst this;have hg':C'=C:=by simpa using hg2
    subst hg';exact h (f',C') (by simp)
   ·exact ih (fun y hy=>h y (Y8 _ hy)) hg2
 exact this e.cs h hg
theorem En.ok_get {e:En} (h:e.ok) {f:Nat} {C:CKt} (hg:e.cs.get f=some C) (hf:Nat.blt f 1000000=true):Cont e.P f C:=(En.ok_get' h hg).1 hf
theorem NV {v:At} {key:Nat} (h:AK v=some key):1000000<=key:=by
 unfold AK at h;split at h
 ·simp only [YT] at h; omega
 ·cases h
section
variable {k k':At->Prop}
theorem Ko {c x y:At} (hk:∀ v,k v->k' v) (h:uN c x y k):uN c x y k':=by
 unfold uN at h ⊢
 (repeat' split at h) <;> first | exact h.elim | exact hk _ h | exact ⟨h.1,hk _ h.2⟩ | (simp_all; done)
theorem OC {op:BinOp} {κ:IntKind} {a b:Int} {K K':C->Prop} (hk:∀ v,K v->K' v) (h:Kf op κ a b K):Kf op κ a b K':=by
 unfold Kf at h ⊢;cases op <;> first | exact hk _ h | exact ⟨h.1,hk _ h.2⟩
theorem Nr {op:BinOp} {x y:C} {K K':C->Prop} (hk:∀ v,K v->K' v) (h:yY op x y K):yY op x y K':=by
 unfold yY at h ⊢;split at h
 ·split at h <;> first | exact h.elim | exact hk _ h | exact ⟨h.1,hk _ h.2⟩
 ·split at h
  ·split at h
   ·rename_i hc; rw [if_pos hc]; exact OC hk h
   ·exact h.elim
  ·exact h.elim
theorem Ns {P:Program} {op:BinOp} {t:TypeId} {x y:At} (hk:∀ v,k v->k' v) (h:EA P op t x y k):EA P op t x y k':=by
 unfold EA at h ⊢
 (repeat' split at h) <;> first | exact h.elim | exact hk _ h | exact ⟨h.1,hk _ h.2⟩ | exact Nr (fun v hv=>hk _ hv) h | (simp_all; done)
theorem SW {op:UnOp} {x:At} (hk:∀ v,k v->k' v) (h:unT op x k):unT op x k':=by
 unfold unT at h ⊢
 (repeat' split at h) <;> first | exact h.elim | exact hk _ h | exact ⟨h.1,hk _ h.2⟩ | (simp_all; done)
theorem y8 {x:At} {i:Nat} (hk:∀ v,k v->k' v) (h:gY x i k):gY x i k':=by
 unfold gY at h ⊢
 (repeat' split at h) <;> first | exact h.elim | exact hk _ h | exact ⟨h.1,hk _ h.2⟩ | (simp_all; done)
theorem GP {x i:At} (hk:∀ v,k v->k' v) (h:om x i k):om x i k':=by
 unfold om at h ⊢
 (repeat' split at h) <;> first | exact h.elim | exact hk _ h | exact ⟨h.1,hk _ h.2⟩ | (simp_all; done)
theorem fi {y:Option At} {d:Nat} {k1 k2:Nat->Prop} (hk:∀ n,k1 n->k2 n) (hb:dY y d k1):dY y d k2:=by
 unfold dY at hb ⊢;split at hb
 ·exact hk _ hb
 ·exact ⟨hb.1,hk _ hb.2⟩
 ·exact hb.elim
theorem GN {P:Program} {t:TypeId} {x:At} {lo hi:Option At} (hk:∀ v,k v->k' v) (h:og P t x lo hi k):og P t x lo hi k':=by
 unfold og at h ⊢;split at h
 ·split at h
  ·exact fi (fun a ha=>fi (fun b hb=>⟨hb.1,hk _ hb.2⟩) ha) h
  ·exact h.elim
 ·split at h
  ·skip
   split at h
   ·exact fi (fun a ha=>fi (fun b hb=>⟨hb.1,hk _ hb.2⟩) ha) h
   ·exact h.elim
  ·exact h.elim
 ·split at h
  ·skip
   split at h
   ·exact fi (fun a ha=>fi (fun b hb=>⟨hb.1,hb.2.1,hk _ hb.2.2⟩) ha) h
   ·exact h.elim
  ·exact h.elim
 ·exact h.elim
theorem vh {P:Program} {m:List (Nm×Nat×Rt)} {t:TypeId} {x:At} {i:Nat} (hk:∀ v,k v->k' v) (h:dE P m t x i k):dE P m t x i k':=by
 unfold dE at h ⊢;split at h
 ·skip
  split at h
  ·skip
   split at h
   ·split at h
    ·exact hk _ h
    ·exact h.elim
   ·exact hk _ h
   ·exact h.elim
  ·exact h.elim
 ·exact h.elim
theorem mT {P:Program} {m:List (Nm×Nat×Rt)} {t:TypeId} {x i:At} (hk:∀ v,k v->k' v) (h:dg P m t x i k):dg P m t x i k':=by
 unfold dg at h ⊢;split at h
 ·split at h
  ·skip
   split at h
   ·split at h
    ·exact ⟨h.1,hk _ h.2⟩
    ·exact h.elim
   ·split at h
    ·skip
     split at h
     ·skip
      split at h
      ·exact ⟨h.1,hk _ h.2⟩
      ·exact h.elim
     ·exact h.elim
    ·exact h.elim
   ·exact h.elim
  ·skip
   split at h
   ·split at h
    ·exact ⟨h.1,hk _ h.2⟩
    ·exact h.elim
   ·split at h
    ·exact ⟨h.1,hk _ h.2⟩
    ·exact h.elim
   ·exact h.elim
  ·exact h.elim
 ·exact h.elim
theorem JT {P:Program} {m:List (Nm×Nat×Rt)} {t:TypeId} {x:At} (hk:∀ v,k v->k' v) (h:jL P m t x k):jL P m t x k':=by
 unfold jL at h ⊢;split at h
 ·skip
  split at h
  ·split at h
   ·skip
    split at h
    ·exact hk _ h
    ·exact h.elim
   ·skip
    split at h
    ·exact hk _ h
    ·exact h.elim
  ·split at h
   ·exact ⟨h.1,hk _ h.2⟩
   ·exact h.elim
  ·split at h
   ·skip
    split at h
    ·exact hk _ h
    ·exact h.elim
   ·skip
    split at h
    ·exact hk _ h
    ·exact h.elim
  ·exact h.elim
 ·exact h.elim
theorem EY {P:Program} {t:TypeId} {x:At} {i:Nat} (hk:∀ v,k v->k' v) (h:nM P t x i k):nM P t x i k':=by
 unfold nM at h ⊢;split at h
 ·skip
  split at h
  ·skip
   split at h
   ·exact hk _ h
   ·exact h.elim
  ·skip
   split at h
   ·exact hk _ h
   ·exact h.elim
  ·exact h.elim
 ·exact h.elim
theorem xX {x:At} (hk:∀ v,k v->k' v) (h:fo x k):fo x k':=by
 unfold fo at h ⊢;split at h
 ·exact hk _ h
 ·exact hk _ h
 ·exact hk _ h
 ·exact h.elim
theorem ED {P:Program} {t:TypeId} {ps:List (Nat×At)} (hk:∀ v,k v->k' v) (h:nH P t ps k):nH P t ps k':=by
 unfold nH at h ⊢;split at h
 ·skip
  split at h
  ·exact hk _ h
  ·exact h.elim
 ·exact h.elim
theorem Jn {P:Program} {su du:TypeId} {x:At} (hk:∀ v,k v->k' v) (h:uE P su du x k):uE P su du x k':=by
 unfold uE at h ⊢;split at h
 ·skip
  split at h
  ·split at h
   ·exact hk _ h
   ·exact h.elim
  ·exact h.elim
 ·skip
  split at h
  ·skip
   split at h
   ·exact hk _ h
   ·exact hk _ h
   ·exact h.elim
  ·exact h.elim
 ·exact h.elim
theorem CZ {e:En} {o:Oper} {s:St} (hk:∀ v,k v->k' v) (h:qT e o s k):qT e o s k':=by
 unfold qT at h ⊢;cases ho:o.op with
 | move x=>rw [ho] at h; exact hk _ h
 | assign x=>rw [ho] at h; exact hk _ h
 | pick c x y=>rw [ho] at h; exact Ko hk h
 | binOp op t x y z=>rw [ho] at h; exact Ns hk h
 | unOp op t x=>rw [ho] at h; exact SW hk h
 | load t x=>rw [ho] at h; exact JT hk h
 | field t x i=>rw [ho] at h; exact EY hk h
 | fieldAddr t x i=>rw [ho] at h; exact vh hk h
 | indexAddr t x i=>rw [ho] at h; exact mT hk h
 | index t x i=>
  rw [ho] at h;dsimp only at h ⊢;split at h
  ·exact GP hk h
  ·exact h.elim
 | extract x i=>rw [ho] at h; exact y8 hk h
 | convert su du x=>rw [ho] at h; exact Jn hk h
 | slice t x lo hi mx=>
  rw [ho] at h;cases mx with
  | some _=>exact h.elim
  | none=>exact GN hk h
 | nilCheck x=>rw [ho] at h; exact xX hk h
 | build t ps=>rw [ho] at h; exact ED hk h
 | call c=>
  rw [ho] at h;dsimp only at h ⊢;split at h
  ·skip
   split at h
   ·exact A6 (fun n hn=>hk _ hn) h
   ·exact h.elim
  ·exact h.elim
 | _=>rw [ho] at h; exact h.elim
end
section
variable {k k':St->Prop} {s:St}
theorem I1 {P:Program} {t:TypeId} {d:Tmp} (hk:∀ s',Ext s s'->k s'->k' s') (h:nC P s t d k):nC P s t d k':=by
 unfold nC at h ⊢;split at h
 ·skip
  split at h
  ·exact hk _ (((bt _ _).trans (ce _ _ _)).trans (ax _ _ _)) h
  ·exact h.elim
 ·exact h.elim
theorem QF {x:Operand} {d:Tmp} (hk:∀ s',Ext s s'->k s'->k' s') (h:EC s x d k):EC s x d k':=by
 unfold EC at h ⊢;split at h
 ·skip
  split at h
  ·exact hk _ (((bt _ _).trans (ce _ _ _)).trans (ax _ _ _)) h
  ·exact h.elim
 ·exact h.elim
theorem vf {P:Program} {E:Ut} {t:TypeId} {n:Nat} {ps:Array (Nat×Operand)} {d:Tmp} (hk:∀ s',Ext s s'->k s'->k' s') (h:cX P E s t n ps d k):cX P E s t n ps d k':=by
 unfold cX at h ⊢;split at h
 ·skip
  split at h
  ·skip
   split at h
   ·skip
    dsimp only at h ⊢;split at h
    ·skip
     split at h
     ·skip
      exact hk _ ((((bz _ _).trans (bt _ _)).trans (ce _ _ _)).trans (ax _ _ _)) h
     ·exact h.elim
    ·exact h.elim
   ·exact h.elim
  ·exact h.elim
 ·exact h.elim
theorem yi {p:Pl} {t:Tt} (hk:∀ s',Ext s s'->k s'->k' s') (h:zy s p t k):zy s p t k':=by
 unfold zy at h ⊢;split at h
 ·exact h.elim
 ·skip
  split at h
  ·skip
   split at h
   ·exact hk _ ⟨ZC _,fun _ _ _ h _=>h,ct _ _ (YY _) _⟩ h
   ·exact h.elim
  ·skip
   split at h
   ·exact o4 (hk _ ⟨ZC _,fun _ _ _ h _=>h,ct _ _ (YY _) _⟩) h
   ·exact h.elim
  ·skip
   split at h
   ·skip
    split at h
    ·exact o4 (uG (hk _ ⟨ZC _,fun _ _ _ h _=>h,ct _ _ (YY _) _⟩)) h
    ·exact h.elim
   ·exact h.elim
  ·exact h.elim
theorem kN:∀ {ts:List Tt} {s:St} {p:Pl},(∀ s',Ext s s'->k s'->k' s')->fP s p ts k->fP s p ts k'
 | [],s,p,hk,h=>hk _ (Ext.refl s) h
 | t::ts,s,p,hk,h=>by
  cases t with
  | rf q=>
   simp only [fP] at h ⊢;split at h
   ·skip
    split at h
    ·skip
     exact yi (fun s' he hs'=>kN (fun s'' he'=>hk s'' (((qR _ _).trans he).trans he')) hs') h
    ·exact h.elim
   ·exact h.elim
  | any=>exact h.elim
  | d c=>cases c with
   | any=>exact h.elim
   | _=>exact yi (fun s' he hs'=>kN (fun s'' he'=>hk s'' (he.trans he')) hs') h
  | _=>exact yi (fun s' he hs'=>kN (fun s'' he'=>hk s'' (he.trans he')) hs') h
theorem Gs {p:Pl} {ts:List Tt} (hk:∀ s',Ext s s'->k s'->k' s') (h:kJ s p ts k):kJ s p ts k':=by
 unfold kJ at h ⊢;split at h
 ·exact h.elim
 ·skip
  split at h
  ·skip
   split at h
   ·exact o4 (hk _ ⟨ZC _,fun _ _ _ h _=>h,ct _ _ (YY _) _⟩) h
   ·exact h.elim
  ·exact h.elim
theorem KM {P:Program} {t:TypeId} {x v:At} (hk:∀ s',Ext s s'->k s'->k' s') (h:oh P s t x v k):oh P s t x v k':=by
 unfold oh at h ⊢;split at h
 ·skip
  split at h
  ·skip
   split at h
   ·exact Gs hk h
   ·exact kN hk h
  ·exact h.elim
 ·exact h.elim
theorem gc {u:U} {v:At} {s':St} {sub:List Sh} {l:List (El u)} (h:jy s u v=some (s',sub,l)):Ext s s':=by
 unfold jy at h;split at h
 ·simp only [YT,Prod.mk.injEq] at h;obtain ⟨rfl,_⟩:=h; exact Ext.refl _
 ·split at h
  ·split at h
   ·rename_i htake;simp only [YT,Prod.mk.injEq] at h;obtain ⟨rfl,_⟩:=h;unfold SQ at htake;split at htake
    ·cases htake
    ·split at htake
     ·simp only [YT] at htake;rw [<- htake];exact ⟨ZC _,ff (YY _),(ct _ _ (YY _) s.m).trans (cN (YY _))⟩
     ·simp only [YT] at htake;rw [<- htake];exact ⟨ZC _,ff (YY _),(ct _ _ (YY _) s.m).trans (cN (YY _))⟩
     ·cases htake
   ·cases h
  ·cases h
 ·cases h
theorem Ew {P:Program} {E:Ut} {t u:TypeId} {x y:Operand} {d:Tmp} (hk:∀ s',Ext s s'->k s'->k' s') (h:ke P E s t u x y d k):ke P E s t u x y d k':=by
 unfold ke at h ⊢;dsimp only at h ⊢;split at h
 ·skip
  split at h
  ·skip
   split at h
   ·skip
    split at h
    ·rename_i h3 h4;split at h
     ·skip
      exact ⟨h.1,hk _ (((((fg _ _).trans (gc h4)).trans (bt _ _)).trans (ce _ _ _)).trans (ax _ _ _)) h.2⟩
     ·exact h.elim
    ·exact h.elim
   ·exact h.elim
  ·exact h.elim
 ·exact h.elim
theorem tw {P:Program} {E:Ut} {sub:List Sh} {t:TypeId} {n:Nat} {ps:Array (Nat×Operand)} {d:Tmp} (hk:∀ s',Ext s s'->k s'->k' s') (h:cw P E sub s t n ps d k):cw P E sub s t n ps d k':=by
 unfold cw at h ⊢;split at h
 ·skip
  split at h
  ·skip
   split at h
   ·skip
    dsimp only at h ⊢;split at h
    ·skip
     split at h
     ·skip
      exact hk _ ((((bz _ _).trans (bt _ _)).trans (ce _ _ _)).trans (ax _ _ _)) h
     ·exact h.elim
    ·exact h.elim
   ·exact h.elim
  ·exact h.elim
 ·exact h.elim
theorem tz {P:Program} {E:Ut} {sub:List Sh} {t:TypeId} {n:Nat} {ps:Array (Nat×Operand)} {d:Tmp} (hk:∀ s',Ext s s'->k s'->k' s') (h:cx P E sub s t n ps d k):cx P E sub s t n ps d k':=by
 unfold cx at h ⊢
 (repeat' split at h) <;> first | exact h.elim | skip
 exact hk _ ((((gc (by assumption)).trans (bt _ _)).trans (ce _ _ _)).trans (ax _ _ _)) h
theorem BW {P:Program} {E:Ut} {t u:TypeId} {x y:Operand} {d:Tmp} (hk:∀ s',Ext s s'->k s'->k' s') (h:gM P E s t u x y d k):gM P E s t u x y d k':=by
 unfold gM at h ⊢;split at h
 ·skip
  split at h
  ·skip
   split at h
   ·skip
    split at h
    ·rename_i h3;split at h
     ·rename_i h4;split at h
      ·skip
       exact ⟨h.1,hk _ (((((gc h3).trans (gc h4)).trans (bt _ _)).trans (ce _ _ _)).trans (ax _ _ _)) h.2⟩
      ·exact h.elim
     ·exact h.elim
    ·exact h.elim
   ·exact h.elim
  ·exact h.elim
 ·exact h.elim
theorem jr (tm:Nat):∀ (sh:List Sh) (j:Nat) (s:St),Ext s (xV tm sh j s)
 | [],_,s=>Ext.refl s
 | .fr::r,j,s=>jr tm r (j+1) s
 | .ow _::r,j,s=>by
  simp only [xV];split
  ·split
   ·split
    ·split
     ·rename_i h _;split
      ·exact ((((gc (by assumption)).trans (bt _ _)).trans (ce _ _ _)).trans (ax _ _ _)).trans (jr tm r (j+1) _)
      ·exact (((gc (by assumption)).trans (bt _ _)).trans (ce _ _ _)).trans (jr tm r (j+1) _)
     ·exact jr tm r (j+1) s
    ·exact jr tm r (j+1) s
   ·exact jr tm r (j+1) s
  ·exact Ext.refl s
theorem PM (sh:List (TypeId×List Sh)) (s:St) (t:TypeId) (v:Operand):Ext s (Gh sh s t v):=by
 unfold Gh;split
 ·exact jr _ _ _ _
 ·exact Ext.refl s
theorem C5 {e:En} {t:TypeId} {x hi:Operand} {d:Tmp} (hk:∀ s',Ext s s'->k s'->k' s') (h:lU e s t x hi d k):lU e s t x hi d k':=by
 unfold lU at h ⊢;split at h
 ·split at h
  ·split at h
   ·split at h
    ·rename_i hb;exact ⟨h.1,hk _ ((((gc hb).trans (bt _ _)).trans (ce _ _ _)).trans (ax _ _ _)) h.2⟩
    ·exact h.elim
   ·exact h.elim
  ·exact h.elim
 ·exact h.elim
theorem OW {e:En} {o:Oper} (hk:∀ s',Ext s s'->k s'->k' s') (h:GO e o s k):GO e o s k':=by
 unfold GO at h ⊢;split at h
 ·exact C5 hk h
 ·exact Gb hk h
 ·split at h
  ·exact Gc hk h
  ·exact h.elim
 ·dsimp only at h ⊢;split at h
  ·split at h
   ·exact mT (fun v hv=>hk _ ((oB _ _).trans (ax _ _ _)) hv) h
   ·exact h.elim
  ·exact h.elim
 ·exact h.elim
theorem Bn:∀ {row:List C} {l:List (List UInt8)},yD row=some l->row=l.map C.s
 | [],_,h=>by cases h; rfl
 | c::r,l,h=>by
  cases c with
  | s x=>
   simp only [yD] at h;split at h
   ·rename_i l' hr; cases h; rw [Bn hr]; rfl
   ·cases h
  | _=>simp [yD] at h
theorem WT {e:En} (he:e.ok) {o:Oper} (hk:∀ s',Ext s s'->k s'->k' s') (h:lT e o s k):lT e o s k':=by
 unfold lT at h ⊢;cases ho:o.op with
 | store t x v=>rw [ho] at h; exact KM (fun s' he hs'=>hk _ ((((PM _ _ _ _).trans (MV _ _ _)).trans he).trans (ax _ _ _)) hs') h
 | alloc t=>
  rw [ho] at h;cases hd:o.dst with
  | none=>rw [hd] at h; exact h.elim
  | some d=>rw [hd] at h; exact I1 hk h
 | box t x=>
  rw [ho] at h;cases hd:o.dst with
  | none=>rw [hd] at h; exact h.elim
  | some d=>rw [hd] at h; exact QF hk h
 | buildSlice t n ps=>
  rw [ho] at h;cases hd:o.dst with
  | none=>rw [hd] at h; exact h.elim
  | some d=>
   rw [hd] at h;dsimp only at h ⊢;split at h
   ·exact vf hk h
   ·split at h
    ·exact tz hk h
    ·exact tw hk h
 | call c=>
  rw [ho] at h;dsimp only at h ⊢;split at h
  ·skip
   cases hd:o.dst with
   | none=>rw [hd] at h; exact h.elim
   | some d=>
    rw [hd] at h;dsimp only at h ⊢;split at h
    ·exact Ew hk h
    ·exact BW hk h
  ·exact Ga (fun s' hE hs'=>hk _ (hE.trans (ax _ _ _)) hs') h
  ·skip
   split at h
   ·rename_i C hg hf;exact (En.ok_get he hg hf).ext _ _ _ _ _ (fun s' v hE hs'=>hk _ (hE.trans (ax _ _ _)) hs') h
   ·exact h.elim
  ·skip
   split at h
   ·skip
    split at h
    ·rename_i C hg hf;exact (En.ok_get he hg hf).ext _ _ _ _ _ (fun s' v hE hs'=>hk _ (hE.trans (ax _ _ _)) hs') h
    ·exact h.elim
   ·split at h
    ·split at h
     ·rename_i hkey _ C hg;exact ((En.ok_get' he hg).2 (NV hkey)).ext _ _ _ _ _ (fun s' v hE hs'=>hk _ (hE.trans (ax _ _ _)) hs') h
     ·exact h.elim
    ·exact h.elim
   ·exact h.elim
  ·exact h.elim
 | makeMap t r=>
  rw [ho] at h;dsimp only at h ⊢;split at h
  ·exact rV hk h
  ·split at h
   ·exact rV hk h
   ·exact h.elim
  ·exact h.elim
 | lookup t x i ok=>
  rw [ho] at h;dsimp only at h ⊢;split at h
  ·exact CA hk h
  ·exact Cy (fun v hv=>hk _ (ax _ _ _) hv) h
 | mapUpdate t m i v=>
  rw [ho] at h;dsimp only at h ⊢;split at h
  ·exact Ge (fun s' hE hs'=>hk _ (hE.trans (ax _ _ _)) hs') h
  ·exact Gf (fun s' hE hs'=>hk _ (((fg _ _).trans hE).trans (ax _ _ _)) hs') h
 | makeSlice t n c=>
  rw [ho] at h;cases hd:o.dst with
  | none=>rw [hd] at h; exact h.elim
  | some d=>rw [hd] at h; exact xS hk h
 | makeFunc fn first caps=>
  rw [ho] at h;dsimp only at h ⊢;split at h
  ·exact zq hk h
  ·exact h.elim
 | range t x=>
  rw [ho] at h;cases hd:o.dst with
  | none=>rw [hd] at h; exact h.elim
  | some d=>rw [hd] at h; exact KB hk h
 | next x b=>
  rw [ho] at h;cases b with
  | true=>exact h.elim
  | false=>exact OA hk h
 | entry x=>rw [ho] at h; exact Jq hk h
 | _=>rw [ho] at h; exact h.elim
theorem Gp {e:En} (he:e.ok) {o:Oper} (hk:∀ s',Ext s s'->k s'->k' s') (h:x8 e o s k):x8 e o s k':=by
 unfold x8 at h ⊢;split at h
 ·rename_i hq;exact CZ (fun v hv=>hk _ ((DT _ _).trans (ax _ _ _)) hv) h
 ·exact WT he hk h
theorem UW {e:En} (he:e.ok) {o:Oper} (hk:∀ s',Ext s s'->k s'->k' s') (h:opT e o s k):opT e o s k':=by
 unfold opT at h ⊢;split at h
 ·exact OW hk h
 ·exact Gp he hk h
end
section
variable {P:Program} {g:G} {Q:Exit->S->Prop} {s:St}
def AOt (P:Program) (g:G) (o:Oper) (k:St->Prop) (Q:Exit->S->Prop) (s:St):Prop:=
 ∀ a w,R g s.toS a w->o.wp P a w (fun a' w'=>∃ s':St,k s'/\R g s'.toS a' w') (lift g Q)
def PQ (pk:PKt):Exit->S->Prop:=fun x s=>∃ v,∃ t:St,x=.panic (chn v)/\s=t.toS/\pk v t
section
variable {g:G} {a:Act} {w:World} {H:FH}
theorem gn {s:St} {i:Nat} {v:At} (h:gtA s.t i=v):aG s.toS.t i=v.toV:=by rw [<- h]; exact bZ i s.t
theorem Qm {γ:Gam} {F:Nm->Fp} {s:St} (hX:RX g s.toS a w H γ F) {tm j:Nat} {ts:List Tt} {t:Tt} (hg:gtA s.t tm=.one (.agg ts)) (hj:ts[j]? = some t) :
  ∃ vs v,g.tv a tm=.agg vs/\vs.toList[j]? = some v/\TR w H γ s.toS.m t.toT (fun _=>0) v:=by
 have h:=hX.t tm
 rw [gn hg] at h;obtain ⟨vs,h1,_,h3⟩:=h;obtain ⟨_,v,g',_,h4,h5,h6⟩:=pR h3 (k:=j) (x:=t.toT) (by rw [YW,hj]; rfl);refine ⟨vs,v,h1,h4,?_⟩;have:g'=fun _=>0:=funext fun b=>by have:=h6 b; omega
 rw [<- this]; exact h5
theorem jv (tm:Nat):∀ (sh:List Sh) (j:Nat) (s:St) (γ:Gam) (F:Nm->Fp),RX g s.toS a w H γ F->∃ γ' F',RX g (xV tm sh j s).toS a w H γ' F'
 | [],_,s,γ,F,hX=>⟨γ,F,hX⟩
 | .fr::r,j,s,γ,F,hX=>jv tm r (j+1) s γ F hX
 | .ow _::r,j,s,γ,F,hX=>by
  simp only [xV];split
  ·rename_i ts hg;split
   ·rename_i q hj;split
    ·rename_i u l0 _ _ _;split
     ·rename_i s1 sub l hb;obtain ⟨vs,v,e1,e2,e3⟩:=Qm hX hg hj;have hy:AR w H γ s.toS.m (.one (.c (.rf q))) v:=e3
      obtain ⟨b1,b2,_⟩:=lE (size:=nc u) rfl (dT hX) (fun q' hq'=>by
       cases hq';exact nV e3.2.1) hb
      obtain ⟨kb,f,F1,k1,k2,k3,k4,k5⟩:=lF hX hy b1;have hn2:=bS k2 (.gh (700000+j))
      have hts:∀ b,tot F1 (s1.toS.fresh (.gh (700000+j))).m b<=tot F1 s1.toS.m b:=by
       intro b;unfold S.fresh;split
       ·exact YY _
       ·show tot F1 (aw _ _) b<=_
        rw [aQ]; exact eD
      obtain ⟨γ',F',hX4,hγ⟩:=cO hn2 (n:=.gh (700000+j)) rfl (bB k2 (.gh (700000+j))) (v:=v) (t:=.ow sub (l.map (ak u))) (f:=f) ⟨kb,k1⟩
       (fun b=>by have h1:=hts b; have h2:=k4 b; have h3:=hX.mem.le1 b; omega) (fun b hb=>⟨(k5 b hb).1,(k5 b hb).2.1⟩) (fun b hb=>(k5 b hb).2.2)
      have e4:((s1.fresh (.gh (700000+j))).root (.gh (700000+j)) ⟨false,[.ow sub u l],none⟩).toS=⟨(s1.toS.fresh (.gh (700000+j))).t,(.gh (700000+j),⟨false,[.ow sub (l.map (ak u))]⟩)::(s1.toS.fresh (.gh (700000+j))).m⟩:=by
       rw [<- bk b2]; rfl
      rw [<- e4] at hX4;generalize hs2:(s1.fresh (.gh (700000+j))).root (.gh (700000+j)) ⟨false,[.ow sub u l],none⟩=s2 at hX4 e4;split
      ·rename_i ts2 hg2;refine jv tm r (j+1) _ γ' F' ⟨hX4.mem,hX4.fr,hX4.nt,hX4.df,fun i=>?_⟩;show AR w H γ' s2.toS.m (aG ((tm,At.toV (.one (.agg (ts2.set j (.rf ⟨.gh (700000+j),0,[]⟩)))))::s2.toS.t) i) _
       simp only [aG];split
       ·rename_i hi;subst hi;have h:=hX4.t tm
        rw [gn hg2,e1] at h;obtain ⟨cs,h1,h2,h3⟩:=h;obtain rfl:=Value.agg.inj h1;rw [e1];refine ⟨vs,rfl,by simpa using h2,?_⟩;by_cases hjl:j<ts2.length
        ·obtain ⟨_,_,_,fk,fr,_,_,_,a4,_,a6,_⟩:=bR _ _ _ _ j h3 (by simpa using hjl);have hr:TR w H γ' s2.toS.m (.rf ⟨.gh (700000+j),0,[]⟩) (fun _=>0) v:=(fA (H:=H) (w:=w) (sub:=sub) (l:=l.map (ak u)) (by rw [e4]; simp [aa]) hγ:AR w H γ' s2.toS.m (.one (.c (.rf ⟨.gh (700000+j),0,[]⟩))) v)
         have:=a6 (fun _=>TR w H γ' s2.toS.m) (.rf ⟨.gh (700000+j),0,[]⟩) v (fun _=>0) (fun _ _ _ _ _ h=>h) hr
         rw [lZ e2] at this;unfold Ts;rw [YX] at this ⊢;rw [List.length_set,Zz];exact ln (fun b=>by have:=a4 b; omega) this
        ·rw [List.set_eq_of_length_le (by omega)];exact h3
       ·exact hX4.t i
      ·exact jv tm r (j+1) _ γ' F' hX4
     ·exact jv tm r (j+1) s γ F hX
    ·exact jv tm r (j+1) s γ F hX
   ·exact jv tm r (j+1) s γ F hX
  ·exact ⟨γ,F,hX⟩
theorem Qc (sh:List (TypeId×List Sh)) {s:St} {γ:Gam} {F:Nm->Fp} (t:TypeId) (v:Operand) (hX:RX g s.toS a w H γ F):∃ γ' F',RX g (Gh sh s t v).toS a w H γ' F':=by
 unfold Gh;split
 ·exact jv _ _ _ _ _ _ hX
 ·exact ⟨γ,F,hX⟩
end
theorem Un {w:World} {H:FH} {γ:Gam} {m:Mm} {v:At} {y:Value} (h:AR w H γ m v.toV y) {f:Nat} (hf:Um v=some f):y=.func (.func f) #[] #[]:=by
 unfold Um at hf;split at hf
 ·rename_i f' x z;split at hf
  ·rename_i hx0 hy0;simp only [YT] at hf;subst hf;obtain ⟨_,m,h3⟩:=h;have e1:y=.func (.func f') x z:=by cases m <;> exact h3.1
   rw [e1];have ex:x=#[]:=Array.eq_empty_of_size_eq_zero hx0
   have ey:z=#[]:=Array.eq_empty_of_size_eq_zero hy0
   rw [ex,ey]
  ·cases hf
 ·rename_i c;split at hf
  ·rename_i hc;simp only [YT] at hf;subst hf;obtain ⟨_,m,h3⟩:=h;cases m with
   | zero=>exact h3.elim
   | succ m=>
    obtain ⟨ps,h4,h5,_⟩:=h3;rw [hc] at h5;obtain rfl:ps=[]:=Zy h5;exact h4
  ·cases hf
 ·cases hf
theorem Q5 {w:World} {H:FH} {γ:Gam} {m:Mm} {v:At} {y:Value} (h:AR w H γ m v.toV y) {key:Nat} (hf:AK v=some key):∃ f ps,key=f+1000000/\y=.func (.func f) #[] ps:=by
 unfold AK at hf;split at hf
 ·rename_i c;simp only [YT] at hf;subst hf;obtain ⟨_,m,h3⟩:=h;cases m with
  | zero=>exact h3.elim
  | succ m=>
   obtain ⟨ps,h4,_⟩:=h3;exact ⟨c.fn,_,rfl,h4⟩
 ·cases hf
theorem Se {e:En} {o:Oper} {c:Call} {d:Tmp} (ho:o.op=.call c) (hd:o.dst=some d) (h:Kn e o=true):∃ t kt et,c.callee=.builtin .len/\c.argTypes.toList=[t]/\(ty e.P t).k=.mp kt et:=by
 unfold Kn at h;rw [ho,hd] at h;dsimp only at h;split at h
 ·rename_i t h1 h2;split at h
  ·rename_i kt et h3; exact ⟨t,kt,et,h1,h2,h3⟩
  ·cases h
 ·cases h
theorem V7 {e:En} (he:e.ok) (hpk:∀ x s,PQ e.pk x s->Q x s) {o:Oper} {k:St->Prop} (hc:opC g.nt o=true) (hq:isQ o=false) (h:lT e o s k):AOt e.P g o k Q s:=by
 intro a w hR;obtain ⟨H,γ,F,hX⟩:=hR;have hn:=dT hX
 have base:∀ {s1:St},(∃ H' F',RX g s1.toS a w H' γ F')->opK e.P [] o s1.toS (upS k)->o.wp e.P a w (fun a' w'=>∃ s':St,k s'/\R g s'.toS a' w') (lift g Q):=by
  intro s1 ⟨H',F',hX1⟩ hop;exact bA (fun a' w' ⟨s',⟨t,e,hk⟩,hR'⟩=>⟨t,hk,Aj e hR'⟩) (fun _ _ _ h=>h) (Il (Q:=Q) CT.ok0 hc hop a w ⟨H',γ,F',hX1⟩)
 have hcc:=hc
 unfold opC at hcc;rw [YV] at hcc;obtain ⟨hd,hcc⟩:=hcc;unfold lT at h;cases ho:o.op with
 | store t x v=>
  rw [ho] at h hcc;simp only [YV] at hcc;obtain ⟨γ0,F0,h0⟩:=Qc e.sh t v hX;obtain ⟨H1,F1,h1⟩:=M8 h0 (evA (Gh e.sh s t v) x) (evA (Gh e.sh s t v) v);refine bA (fun a' w' ⟨s',⟨t,e,hk⟩,hR'⟩=>⟨t,hk,Aj e hR'⟩) (fun _ _ _ h=>h) (Il (Q:=Q) CT.ok0 hc (?_:opK e.P [] o _ (upS k)) a w ⟨H1,γ0,F1,h1⟩);unfold opK;rw [ho];dsimp only;rw [ac hcc.1,ac hcc.2];exact OZ (fun t' hk=>⟨_,aD t' o.dst .any,hk⟩) (dT h1) h
 | alloc t=>
  rw [ho] at h;cases hdd:o.dst with
  | none=>rw [hdd] at h; exact h.elim
  | some d=>
   rw [hdd] at h;refine base (s1:=s) ⟨H,F,hX⟩ ?_;unfold opK;rw [ho,hdd];exact Nk hn h
 | box t x=>
  rw [ho] at h hcc;cases hdd:o.dst with
  | none=>rw [hdd] at h; exact h.elim
  | some d=>
   rw [hdd] at h;refine base (s1:=s) ⟨H,F,hX⟩ ?_;unfold opK;rw [ho,hdd];exact TQ hn hcc h
 | buildSlice t n ps=>
  rw [ho] at h hcc;cases hdd:o.dst with
  | none=>rw [hdd] at h; exact h.elim
  | some d=>
   rw [hdd] at h hd;have hX1:=cg (ps.toList.map fun x=>evA s x.2) s H F hX
   dsimp only at h;split at h
   ·refine base hX1 ?_;unfold opK;rw [ho,hdd];obtain ⟨H1,F1,h1⟩:=hX1;exact xd hcc (dT h1) h
   ·split at h
    ·obtain ⟨t',y,w',γ',F',e1,hk,e3⟩:=ve hX hd hcc h;unfold Oper.wp;have:(execOp a.eval o).run e.P w=.ok (.value y) w':=by simp only [execOp,ho]; rw [Sem.run_bind,e1]; rfl
     rw [this];exact ⟨t',hk,_,γ',F',by rw [hdd]; exact e3⟩
    obtain ⟨H1,F1,h1⟩:=hX1;obtain ⟨s',y,w',H',γ',F',e1,⟨t',et,hk⟩,e3⟩:=vb (P:=e.P) h1 hd hcc (vd hcc (dT h1) h);unfold Oper.wp;have:(execOp a.eval o).run e.P w=.ok (.value y) w':=by simp only [execOp,ho]; rw [Sem.run_bind,e1]; rfl
    rw [this];exact ⟨t',hk,H',γ',F',aR et (by rw [hdd]; exact e3)⟩
 | call c=>
  rw [ho] at h hcc;obtain ⟨callee,args,argTypes⟩:=c;obtain ⟨args⟩:=args;obtain ⟨argTypes⟩:=argTypes;dsimp only at h hcc;cases callee with
  | builtin b=>
   cases b with
   | append=>
    match args,argTypes,h with
    | [x,y],[t,u],h=>
     have h1:au x=true/\au y=true:=by simpa using hcc
     cases hdd:o.dst with
     | none=>rw [hdd] at h; exact h.elim
     | some d=>
      rw [hdd] at h hd;dsimp only at h;split at h
      rotate_left
      ·obtain ⟨s',y',w',H',γ',F',e1,⟨t',et,hk⟩,e3⟩:=Eu (P:=e.P) (tt:=o.type) hX hd h1.1 h1.2 (Ev h1.1 h1.2 hn (fun q hq=>by
         have h3:=az hX h1.2
         rw [ac h1.2,hq] at h3;obtain ⟨_,h4,_⟩:=h3;exact nV h4) (fun size s1 sub l q hn1 hb hq=>by
         have hy:=az hX h1.2
         rw [ac h1.2] at hy;obtain ⟨_,_,F1,_,hX1,_⟩:=lF hX hy hb;have h3:=az hX1 h1.1
         rw [ac h1.1,hq] at h3;obtain ⟨_,h4,_⟩:=h3;exact nV h4) h)
       unfold Oper.wp;have:(execOp a.eval o).run e.P w=.ok (.value y') w':=by
        simp only [execOp,ho,resolve,invoke,builtin,Sem.run_bind,Sem.run_pure,Result.andThen_ok,List.map_toArray,List.map_cons,List.map_nil];rw [e1]; rfl
       rw [this];exact ⟨t',hk,H',γ',F',aR et (by rw [hdd]; exact e3)⟩
      have hX1:=fh hX (evA s y)
      refine base hX1 ?_;unfold opK;rw [ho,hdd];obtain ⟨H1,F1,h2⟩:=hX1;exact I5 h1.1 h1.2 (dT h2) (fun q hq=>by
       have h3:=az h2 h1.1
       rw [ac h1.1,hq] at h3;obtain ⟨_,h4,_⟩:=h3;exact nV h4) h
   | delete=>
    match args,argTypes,h with
    | [x,i],t::ts,h=>
     have h1:au x=true/\au i=true:=by simpa using hcc
     have h2:=az hX h1.1
     have h3:=az hX h1.2
     rw [ac h1.1] at h2;rw [ac h1.2] at h3;obtain ⟨t',w',F',e1,e2,e3⟩:=JW (tt:=o.type) hX h2 h3 h;unfold Oper.wp;have:(execOp a.eval o).run e.P w=.ok (.value (.tuple #[])) w':=by
      simp only [execOp,ho,resolve,invoke,builtin,Sem.run_bind,Sem.run_pure,Result.andThen_ok,List.map_toArray,List.map_cons,List.map_nil];rw [e1]; rfl
     rw [this];exact ⟨_,e2,H,γ,F',aR (aD t' o.dst (.tup [])) (e3.put hd ⟨#[],rfl,trivial⟩)⟩
   | _=>exact h.elim
  | value v=>
   cases v with
   | func f=>
    dsimp only at h;split at h
    ·rename_i C hg hf;have hC:=En.ok_get he hg hf
     have hr:(execOp a.eval o).run e.P w=.ok (.enter f (args.map a.eval).toArray) w:=by
      simp only [execOp,ho,resolve,Act.eval,Deferred.ofValue,Sem.run_bind,Sem.run_pure,Result.andThen_ok,invoke];rw [hC.run];simp
     unfold Oper.wp;rw [hr];refine Calls.mono (hC.call g e.pk s a w H γ F args _ hX hcc h) (fun e' w' hp=>?_);rcases hp with ⟨r,s',av,H',γ',F',k1,k2,k3,k4⟩ | ⟨v,s',k1,k2,k4⟩
     ·subst k1;exact ⟨_,k2,H',γ',F',aR (aD s' o.dst av) (k4.put hd k3)⟩
     ·subst k1;exact ⟨_,hpk _ _ ⟨v,s',rfl,rfl,k2⟩,k4⟩
    ·exact h.elim
   | tmp t=>
    dsimp only at h;have hval:Nat.blt t 100000=true->AR w H γ s.toS.m (gtA s.t t).toV (a.tmps.getD t undef):=fun ht=>by
     have h3:=hX.t t
     rw [G.tv_lo (show t<TB from YZ ht),show aG s.toS.t t=(gtA s.t t).toV from bZ t s.t] at h3;exact h3
    split at h
    ·rename_i f ht hf;split at h
     ·rename_i C hg hfl;have hC:=En.ok_get he hg hfl
      have hv:a.eval (.tmp t)=.func (.func f) #[] #[]:=Un (hval ht) hf
      have hr:(execOp a.eval o).run e.P w=.ok (.enter f (args.map a.eval).toArray) w:=by
       simp only [execOp,ho,resolve,hv,Deferred.ofValue,Sem.run_bind,Sem.run_pure,Result.andThen_ok,invoke];rw [hC.run];simp
      unfold Oper.wp;rw [hr];refine Calls.mono (hC.call g e.pk s a w H γ F args _ hX hcc h) (fun e' w' hp=>?_);rcases hp with ⟨r,s',av,H',γ',F',k1,k2,k3,k4⟩ | ⟨v,s',k1,k2,k4⟩
      ·subst k1;exact ⟨_,k2,H',γ',F',aR (aD s' o.dst av) (k4.put hd k3)⟩
      ·subst k1;exact ⟨_,hpk _ _ ⟨v,s',rfl,rfl,k2⟩,k4⟩
     ·exact h.elim
    ·rename_i ht hf;split at h
     ·rename_i key hk2;split at h
      ·rename_i C hg;obtain ⟨f,ps,rfl,hv⟩:=Q5 (hval ht) hk2;have hv2:a.eval (.tmp t)=.func (.func f) #[] ps:=hv
       have hC:=(En.ok_get' he hg).2 (by omega)
       ·have hr:(execOp a.eval o).run e.P w=.ok (.enter f ((args.map a.eval).toArray++ps)) w:=by
         have h5:=hC.run
         rw [aaA] at h5;simp only [execOp,ho,resolve,hv2,Deferred.ofValue,Sem.run_bind,Sem.run_pure,Result.andThen_ok,invoke];rw [h5];simp
        unfold Oper.wp;rw [hr];have h6:=hC.call g e.pk s a w H γ F t args _ ps hX hcc (YZ ht) (by rw [aaA]; exact hv) h
        rw [aaA] at h6;refine Calls.mono h6 (fun e' w' hp=>?_);rcases hp with ⟨r,s',av,H',γ',F',k1,k2,k3,k4⟩ | ⟨v,s',k1,k2,k4⟩
        ·subst k1;exact ⟨_,k2,H',γ',F',aR (aD s' o.dst av) (k4.put hd k3)⟩
        ·subst k1;exact ⟨_,hpk _ _ ⟨v,s',rfl,rfl,k2⟩,k4⟩
      ·exact h.elim
     ·exact h.elim
    ·exact h.elim
   | _=>exact h.elim
  | invoke r n=>exact h.elim
 | makeMap t r=>
  rw [ho] at h hcc;have key:∀ d,o.dst=some d->en e.P e.E (dJ e.sh (4000000+t)).isSome s t d k->(∀ v,r.map a.eval=some v->∃ κ n,v=.int κ n)->o.wp e.P a w (fun a' w'=>∃ s':St,k s'/\R g s'.toS a' w') (lift g Q):=by
   intro d hdd h hr;rw [hdd] at hd;obtain ⟨t',y,w',γ',F',e1,e2,e3⟩:=F9 hX hd h hr;unfold Oper.wp;have:(execOp a.eval o).run e.P w=.ok (.value y) w':=by simp only [execOp,ho]; rw [Sem.run_bind,e1]; rfl
   rw [this];exact ⟨t',e2,H,γ',F',by rw [hdd]; exact e3⟩
  dsimp only at h;split at h
  ·rename_i d hdd;exact key d hdd h (fun v hv=>by cases hv)
  ·rename_i d x hdd;split at h
   ·rename_i κ n hx;refine key d hdd h (fun v hv=>?_);have h3:=az hX (show au x=true from hcc)
    rw [ac hcc,hx] at h3;exact ⟨κ,n,by rw [<- Option.some.inj hv]; exact (l8 h3).1⟩
   ·exact h.elim
  ·exact h.elim
 | lookup t x i ok=>
  rw [ho] at h hcc;have h1:au x=true/\au i=true:=by simpa using hcc
  have h2:=az hX h1.1
  have h3:=az hX h1.2
  rw [ac h1.1] at h2;rw [ac h1.2] at h3;dsimp only at h;split at h
  ·rename_i d _ hdd;rw [hdd] at hd;obtain ⟨t',y,γ',F',e1,e2,e3⟩:=Gg hX hd h1.1 h1.2 h;unfold Oper.wp;have:(execOp a.eval o).run e.P w=.ok (.value y) w:=by simp only [execOp,ho]; rw [Sem.run_bind,e1]; rfl
   rw [this];exact ⟨_,e2,H,γ',F',by rw [hdd]; exact e3⟩
  ·obtain ⟨z,v,e1,e2,e3⟩:=JZ hX h2 h3 h;unfold Oper.wp;have:(execOp a.eval o).run e.P w=.ok (.value z) w:=by simp only [execOp,ho]; rw [Sem.run_bind,e1]; rfl
   rw [this];exact ⟨_,e3,H,γ,F,aR (aD s o.dst v) (hX.put hd e2)⟩
 | mapUpdate t m i v=>
  rw [ho] at h hcc;have h1:(au m=true/\au i=true)/\au v=true:=by simpa using hcc
  dsimp only at h;split at h
  ·have h2:=az hX h1.1.1
   have h3:=az hX h1.1.2
   have h4:=az hX h1.2
   rw [ac h1.1.1] at h2;rw [ac h1.1.2] at h3;rw [ac h1.2] at h4;obtain ⟨t',w',F',e1,e2,e3⟩:=J8 hX h2 h3 h4 h;unfold Oper.wp;have:(execOp a.eval o).run e.P w=.ok .skip w':=by simp only [execOp,ho]; rw [Sem.run_bind,e1]; rfl
   rw [this];exact ⟨_,e2,H,γ,F',aR (aD t' o.dst .any) (e3.put hd trivial)⟩
  obtain ⟨H1,F1,hX1⟩:=fh hX (evA s v);generalize dV s (evA s v)=s1 at h hX1;have h2:=az hX1 h1.1.1
  have h3:=az hX1 h1.1.2
  have h4:=az hX1 h1.2
  rw [ac h1.1.1] at h2;rw [ac h1.1.2] at h3;rw [ac h1.2] at h4;obtain ⟨t',w',F',e1,e2,e3⟩:=Kc hX1 h2 h3 h4 h;unfold Oper.wp;have:(execOp a.eval o).run e.P w=.ok .skip w':=by simp only [execOp,ho]; rw [Sem.run_bind,e1]; rfl
  rw [this];exact ⟨_,e2,H1,γ,F',aR (aD t' o.dst .any) (e3.put hd trivial)⟩
 | makeSlice t n c=>
  rw [ho] at h hcc;have h1:au n=true/\au c=true:=by simpa using hcc
  cases hdd:o.dst with
  | none=>rw [hdd] at h; exact h.elim
  | some d=>
   rw [hdd] at h hd;obtain ⟨t',y,w',γ',F',e1,e2,e3⟩:=zu hX hd h1.1 h;unfold Oper.wp;have:(execOp a.eval o).run e.P w=.ok (.value y) w':=by simp only [execOp,ho]; rw [Sem.run_bind,e1]; rfl
   rw [this];exact ⟨t',e2,H,γ',F',by rw [hdd]; exact e3⟩
 | makeFunc fn first caps=>
  rw [ho] at h hcc;dsimp only at h;split at h
  ·rename_i f hfi;obtain ⟨t',H',e1,e2⟩:=Cv hX hd hcc h;unfold Oper.wp;have hf0:first=#[]:=by cases first with | mk l=>cases hfi; rfl
   have:(execOp a.eval o).run e.P w=.ok (.value (.func (.func f) #[] (caps.toList.map a.eval).toArray)) w:=by
    simp only [execOp,ho,hf0,Instr.makeFunc,Sem.run_bind,Sem.run_pure,Result.andThen_ok,Array.map_empty];simp [<- Array.toList_map]
   rw [this];exact ⟨t',e1,H',γ,F,e2⟩
  ·exact h.elim
 | range t x=>
  rw [ho] at h hcc;cases hdd:o.dst with
  | none=>rw [hdd] at h; exact h.elim
  | some d=>
   rw [hdd] at h hd;obtain ⟨t',y,w',H',γ',F',e1,e2,e3⟩:=ON hX hd hcc h;unfold Oper.wp;have:(execOp a.eval o).run e.P w=.ok (.value y) w':=by simp only [execOp,ho]; rw [Sem.run_bind,e1]; rfl
   rw [this];exact ⟨t',e2,H',γ',F',by rw [hdd]; exact e3⟩
 | next x b=>
  rw [ho] at h hcc;cases b with
  | true=>exact h.elim
  | false=>
   have h1:=az hX (show au x=true from hcc)
   rw [ac hcc] at h1;obtain ⟨t',z,w',F',e1,e2,e3⟩:=RY hX hd h1 o.type h;unfold Oper.wp;have:(execOp a.eval o).run e.P w=.ok (.value z) w':=by simp only [execOp,ho]; rw [Sem.run_bind,e1]; rfl
   rw [this];exact ⟨t',e2,H,γ,F',e3⟩
 | entry x=>
  rw [ho] at h hcc;have h1:=az hX (show au x=true from hcc)
  rw [ac hcc] at h1;obtain ⟨t',z,e1,e2,e3⟩:=NZ hX hd h1 h;unfold Oper.wp;have:(execOp a.eval o).run e.P w=.ok (.value z) w:=by simp only [execOp,ho]; rw [Sem.run_bind,e1]; rfl
  rw [this];exact ⟨t',e2,H,γ,F,e3⟩
 | _=>rw [ho] at h; exact h.elim
theorem Dy {e:En} (he:e.ok) (hpk:∀ x s,PQ e.pk x s->Q x s) {o:Oper} {k:St->Prop} (hc:opC g.nt o=true) (h:x8 e o s k):AOt e.P g o k Q s:=by
 unfold x8 at h;split at h
 ·rename_i hq;intro a w ⟨H,γ,F,hX⟩;obtain ⟨H1,F1,hX1⟩:=wE hX o;obtain ⟨z,d,B,_,e1,e2,e3⟩:=yk hX1 hc (SE hX1 hc h);obtain ⟨v',rfl,hk⟩:=e3;unfold Oper.wp;rw [e1 w (fun _ _=>rfl)];exact ⟨_,hk,H1,γ,F1,aR (aD _ _ _) (hX1.put (dt hc) e2)⟩
 ·rename_i hq;exact V7 he hpk hc hq h
theorem Td {e:En} (he:e.ok) (hpk:∀ x s,PQ e.pk x s->Q x s) {o:Oper} {k:St->Prop} (hc:opC g.nt o=true) (h:opT e o s k):AOt e.P g o k Q s:=by
 unfold opT at h;split at h
 ·rename_i hown;intro a w ⟨H,γ,F,hX⟩;unfold GO at h;have hcc:=hc
  unfold opC at hcc;rw [YV] at hcc;obtain ⟨hd,hcc⟩:=hcc;split at h
  ·rename_i t x hi d ho hdd;rw [ho] at hcc;rw [hdd] at hd;simp only [YV,Option.all_none,Option.all_some,and_true] at hcc;obtain ⟨t',y,γ',F',e1,e2,e3⟩:=GA hX hd hcc.1 hcc.2 h;unfold Oper.wp;have:(execOp a.eval o).run e.P w=.ok (.value y) w:=by simp only [execOp,ho,Z5,Option.map_some]; rw [Sem.run_bind,e1]; rfl
   rw [this];exact ⟨t',e2,H,γ',F',by rw [hdd]; exact e3⟩
  ·rename_i x d ho hdd;rw [ho] at hcc;rw [hdd] at hd;obtain ⟨t',H',F',e2,e3⟩:=JX hX hd hcc h;unfold Oper.wp;have:(execOp a.eval o).run e.P w=.ok (.value (a.eval x)) w:=by simp only [execOp,ho]; rfl
   rw [this];exact ⟨t',e2,H',γ,F',by rw [hdd]; exact e3⟩
  ·rename_i c d ho hdd;rw [ho] at hcc;rw [hdd] at hd;split at h
   ·rename_i x hx;obtain ⟨t,kt,et,hcl,hty,htt⟩:=Se ho hdd hown;have hox:au x=true:=by
     have hcc:c.args.toList.all au=true:=hcc
     rw [hx] at hcc; simpa using hcc
    have h1:=az hX hox
    rw [ac hox] at h1;obtain ⟨t',z,e1,e2,e3⟩:=J0 (tt:=o.type) hX hd h1 htt h;unfold Oper.wp;have:(execOp a.eval o).run e.P w=.ok (.value z) w:=by
     obtain ⟨callee,⟨args⟩,⟨argTypes⟩⟩:=c;have hx:args=[x]:=hx
     have hty:argTypes=[t]:=hty
     have hcl:callee=.builtin .len:=hcl
     subst hx hty hcl;simp only [execOp,ho,resolve,invoke,builtin,Sem.run_bind,Sem.run_pure,Result.andThen_ok,List.map_toArray,List.map_cons,List.map_nil];rw [e1]; rfl
    rw [this];exact ⟨t',e2,H,γ,F,by rw [hdd]; exact e3⟩
   ·exact h.elim
  ·rename_i t x i d ho hdd;rw [ho] at hcc;simp only [YV] at hcc;obtain ⟨H1,hX1⟩:=oG [evA s x] s H hX;dsimp only at h;generalize pz s [evA s x]=s1 at h hX1;split at h
   ·rename_i row hrow;split at h
    ·rename_i l hl;have e1:=Bn hl
     have hk:=pB (m:=s1.m) (P:=e.P) (t:=t) (x:=.one (.c (.ga .s l 0))) (i:=evA s1 i) (fun q hq=>by simp at hq) h
     have e2:(At.one (.c (.ga .s l 0))).toV=ev s1.toS x:=by
      rw [ac hcc.1,hrow,e1];show AV.one (.c (.el _ 0))=AV.one (.c (.el _ 0))
      rw [Y9]; rfl
     rw [e2,<- ac hcc.2] at hk;have hq:qK e.P o s1.toS (up fun v=>k (s1.put (some d) v)):=by unfold qK; rw [ho]; exact hk
     obtain ⟨z,d',B,_,e3,e4,v',rfl,e5⟩:=yk hX1 hc hq;unfold Oper.wp;rw [e3 w (fun _ _=>rfl)];exact ⟨_,e5,H1,γ,F,by rw [hdd]; exact aR (aD _ _ _) (hX1.put (by rw [<- hdd]; exact dt hc) e4)⟩
    ·exact h.elim
   ·exact h.elim
  ·exact h.elim
 exact Dy he hpk hc h
theorem Pi {o:Oper} {K:S->Prop} {s s':S} (e:SEq s s') (h:AO P g o K Q s'):AO P g o K Q s:=fun a w hR=>h a w (Aj e hR)
theorem Ij {ops rest:List Oper} {s s':S} (e:SEq s s') (h:AL P g ops rest Q s'):AL P g ops rest Q s:=fun a w hR=>h a w (Aj e hR)
theorem Le {o:Oper} {K:S->Prop} (h:AOt P g o (fun t=>K t.toS) Q s):AO P g o K Q s.toS:=fun a w hR=>
 bA (fun a' w' ⟨s',hk,hR'⟩=>⟨s'.toS,hk,hR'⟩) (fun _ _ _ h=>h) (h a w hR)
theorem n8 (s:St) (d:Nat) (b:Bool):SEq (s.toS.put (some d) (.one (.c (.d (.bool b))))) (s.put (some d) (sct (.bo b))).toS:=aD s (some d) (sct (.bo b))
theorem sa (s:St) (d:Nat) (b:Bool) (o:Option Tmp):SEq ((s.toS.put (some d) (.one (.c (.d (.bool b))))).put o (.tup [])) ((s.put (some d) (sct (.bo b))).put o (.tup [])).toS:=by
 have h1:=n8 s d b
 have h2:=aD (s.put (some d) (sct (.bo b))) o (.tup [])
 refine ⟨fun i=>?_,?_⟩
 ·rw [<- h2.1 i];cases o with
  | none=>exact h1.1 i
  | some o=>show aG (m5 _ o _) i=aG (m5 _ o _) i; rw [gm,gm,h1.1 i]; rfl
 ·rw [<- h2.2]; cases o <;> exact h1.2
theorem l7 {e:En} (he:e.ok) (hpk:∀ x s,PQ e.pk x s->Q x s) {k:St->Prop} {all:List Oper}:∀ {rest:List Oper} {s:St},UX g.nt all rest=true->j5 e all rest s k->(∀ t:St,k t->Q .normal t.toS)->AL e.P g all rest Q s.toS
 | [],s,_,h,hQ=>Ph (hQ s h)
 | o::r,s,hc,h,hQ=>by
  simp only [UX,YV] at hc;obtain ⟨⟨hc1,hc2⟩,hc3⟩:=hc;simp only [j5] at h;have run:∀ {s:St},opT e o s (fun s'=>j5 e all r s' k)->AO e.P g o (AL e.P g all r Q) Q s.toS:=fun {s} h=>
   Le (fun a w hR=>bA (fun a' w' ⟨s',hk,hR'⟩=>⟨s',l7 he hpk hc3 hk hQ,hR'⟩) (fun _ _ _ h=>h) (Td he hpk hc1 h a w hR))
  cases hg:o.guard with
  | none=>
   rw [hg] at h;exact Ld hg (run h)
  | some q=>
   obtain ⟨j,want⟩:=q;rw [hg] at h hc2;dsimp only at h hc2;cases hj:(all[j]?).bind (·.dst) with
   | none=>rw [hj] at h; exact h.elim
   | some d=>
    rw [hj] at h hc2;dsimp only at h hc2;split at h
    ·rename_i c hcc;have hgt:aG s.toS.t d=.one (.c (.d (.bool c))):=gn hcc
     cases want with
     | true=>
      dsimp only at h;refine Dx hg hj hgt hc2 (dt hc1) (fun hc=>?_) (fun hc=>?_)
      ·subst hc; rw [if_pos rfl] at h; exact Pi (n8 s d true) (run h)
      ·subst hc; rw [if_neg (by simp)] at h; exact Ij (sa s d _ _) (l7 he hpk hc3 h hQ)
     | false=>
      dsimp only at h;refine Dx hg hj hgt hc2 (dt hc1) (fun hc=>?_) (fun hc=>?_)
      ·subst hc; rw [if_neg (by simp)] at h; exact Pi (n8 s d false) (run h)
      ·subst hc; rw [if_pos (by rfl)] at h; exact Ij (sa s d _ _) (l7 he hpk hc3 h hQ)
    ·rename_i hcc;exact Ik hg hj (gn hcc) (dt hc1) (Ij (aD s o.dst (.tup [])) (l7 he hpk hc3 h hQ))
    ·exact h.elim
theorem ya {e:En} (he:e.ok) {all:List Oper} {k k':St->Prop}:∀ {rest:List Oper} {s:St},(∀ s',Ext s s'->k s'->k' s')->j5 e all rest s k->j5 e all rest s k'
 | [],s,hk,h=>hk s (Ext.refl s) h
 | o::r,s,hk,h=>by
  have run:∀ {s1:St},Ext s s1->opT e o s1 (fun s'=>j5 e all r s' k)->opT e o s1 (fun s'=>j5 e all r s' k'):=fun {s1} h1 h=>
   UW he (fun s' h2 hs'=>ya he (fun s'' h3=>hk s'' ((h1.trans h2).trans h3)) hs') h
  have rest:∀ {s1:St},Ext s s1->j5 e all r s1 k->j5 e all r s1 k':=fun {s1} h1 h=>ya he (fun s'' h3=>hk s'' (h1.trans h3)) h
  simp only [j5] at h ⊢;split at h
  ·exact run (Ext.refl s) h
  ·rename_i j want hg;split at h
   ·rename_i d hj;split at h
    ·rename_i c hcc;cases want <;> cases c <;> simp only [Y4,if_true,if_false] at h ⊢
     ·exact run (ax _ _ _) h
     ·exact rest ((ax _ _ _).trans (ax _ _ _)) h
     ·exact rest ((ax _ _ _).trans (ax _ _ _)) h
     ·exact run (ax _ _ _) h
    ·exact rest (ax _ _ _) h
    ·exact h.elim
   ·exact h.elim
end
section
variable {e:En} {g:G} {k:St->Prop} {Q:Exit->S->Prop}
theorem N9 {x:At} (h:Rq x=true):Fq x.toV=true:=by
 unfold Rq at h;split at h
 ·rfl
 ·rfl
 ·cases h
theorem Ju {s:St} {o:Oper} (hc:opC g.nt o=true) (h:kp s o=true):e9 s.toS o:=by
 unfold kp at h;unfold e9;unfold opC at hc;rw [YV] at hc;cases ho:o.op with
 | load t x=>
  rw [ho] at h hc;dsimp only at hc ⊢;rw [ac hc.2];exact N9 h
 | _=>trivial
theorem VY {ops:List Oper} {o:Oper} {s:St} {f no:St->Prop} (h:gT ops o s f no):gK ops o s.toS (upS f) (upS no):=by
 unfold gT at h;unfold gK;cases hg:o.guard with
 | none=>rw [hg] at h; exact ⟨s,⟨fun _=>rfl,rfl⟩,h⟩
 | some q=>
  obtain ⟨j,want⟩:=q;rw [hg] at h;dsimp only at h ⊢;cases hj:(ops[j]?).bind (·.dst) with
  | none=>rw [hj] at h; exact h.elim
  | some d=>
   rw [hj] at h;dsimp only at h ⊢;split at h
   ·rename_i c hcc;rw [gn hcc];simp only [At.toV,A1.toV,Tt.toT,C.toD];cases want <;> cases c <;> simp only [Y4,if_true,if_false] at h <;> simp only [gsel]
    ·exact ⟨_,n8 s d false,h⟩
    ·exact ⟨_,sa s d _ _,h⟩
    ·exact ⟨_,sa s d _ _,h⟩
    ·exact ⟨_,n8 s d true,h⟩
   ·rename_i hcc;rw [gn hcc];exact ⟨_,aD s o.dst (.tup []),h⟩
   ·exact h.elim
theorem Jv {ops:List Oper} {o:Oper} {s:St} {f f' no no':St->Prop} (hf:∀ s',Ext s s'->f s'->f' s') (hn:∀ s',Ext s s'->no s'->no' s') (h:gT ops o s f no):gT ops o s f' no':=by
 unfold gT at h ⊢;cases hg:o.guard with
 | none=>rw [hg] at h; exact hf _ (Ext.refl s) h
 | some q=>
  obtain ⟨j,want⟩:=q;rw [hg] at h;dsimp only at h ⊢;cases hj:(ops[j]?).bind (·.dst) with
  | none=>rw [hj] at h; exact h.elim
  | some d=>
   rw [hj] at h;dsimp only at h ⊢;split at h
   ·rename_i c _;cases want <;> cases c <;> simp only [Y4,if_true,if_false] at h ⊢
    ·exact hf _ (ax _ _ _) h
    ·exact hn _ ((ax _ _ _).trans (ax _ _ _)) h
    ·exact hn _ ((ax _ _ _).trans (ax _ _ _)) h
    ·exact hf _ (ax _ _ _) h
   ·exact hn _ (ax _ _ _) h
   ·exact h.elim
theorem Dw {ops:Array Oper} {K:S->Prop} {fuel:Nat} {listed:Array Bool} {i:Nat} {A:List Nat} {fz:Bool} {o:Oper} (hC:kq g.nt ops=true) (hs:Region.noSelect ops=true) (hi:ops[i]? = some o)
  (ht:yF ops listed i A fz=true) {s:St} {D:St->Prop} (hD:∀ s:St,D s->AD e.P g ops Q K fuel (listed.setIfInBounds i true) s.toS)
  (h:gT ops.toList o s (fun s=>(fz=true->kp s o=true)/\qT e o s fun v=>D (s.put o.dst v)) D):AD e.P g ops Q K (fuel+1) listed s.toS:=by
 intro a w H γ F Pr hX hPr;simp only [yF,YV] at ht;obtain ⟨⟨⟨⟨t1,t2⟩,t3⟩,t4⟩,t5⟩:=ht;obtain ⟨c1,c2⟩:=ia hC hi;have hready:=Region.ready_mem_of_contains t2
 have hbeh:behind .any ops i (fun j=>A.contains j) listed:=by
  intro j hj hun;have:=Y6.1 t4 j (by simpa using hj)
  rw [dS.2 hun] at this;cases ho:ops[j]? with
  | none=>rw [ho] at this; simp at this
  | some oj=>
   rw [ho] at this;simp only [Bool.not_true,ZN] at this;obtain ⟨e,he,h1⟩:=Array.any_eq_true'.1 this;simp only [YV,Z6,beq_iff_eq] at h1;exact ⟨oj,rfl,e,he,h1.1.1,dS.1 h1.1.2,h1.2⟩
 have hset:∀ j,(listed.setIfInBounds i true).getD j true=false->listed.getD j true=false:=fun j h=>(gl h).1
 rcases rL hX (VY h) (dt c1) c2 with ⟨hw,s0,⟨s',e0,hf,hq⟩,hX0⟩ | ⟨hw,s0,⟨s',e0,hno⟩,hX0⟩
 ·have hX':=aR e0 hX0
  obtain ⟨z,d,B,e0,e1,e2,v',e3,hk⟩:=yk hX' c1 (SE hX' c1 hq);subst e3;refine iY (q0 g Q) (A:=fun j=>A.contains j) (B:=B) (v:=z) hi (Region.noSelect_spec hs) fuel listed Pr (fun j b=>Pr j b\/(A.contains j=false/\B b)) a w (fun j b h=>.inl h) (fun j b h1 h2=>.inr ⟨h1,h2⟩)
   (Region.free_spec hi t1) hbeh hready (.inl ⟨hw,fun w2 hs2=>e1 w2 hs2⟩) (hD _ hk (a.put o.dst z) w H γ F _ (aR (aD _ _ _) (hX'.put (dt c1) e2)) ?_)
  intro j oj hj hun;obtain ⟨hun1,hji⟩:=gl hun;rcases hPr j oj hj hun1 with hp | hp
  ·exact .inl hp
  cases hfz:fz with
  | true=>
   refine .inr fun b hb=>?_
   rcases hb with hb | ⟨_,hb⟩
   ·exact hp b hb
   ·exact e0 (Ju c1 (hf hfz)) b hb
  | false=>
   rw [hfz,ZN] at t5;have:=Y6.1 t5 j (List.mem_range.2 (Z1.1 hj).1)
   rw [dS.2 hun1,hj] at this;simp only [Bool.not_true,ZN,Z6,beq_iff_eq] at this;rcases this with (this | this) | this
   ·exact absurd this hji
   ·refine .inr fun b hb=>?_
    rcases hb with hb | ⟨hb,_⟩
    ·exact hp b hb
    ·rw [this] at hb; cases hb
   ·exact .inl this
 ·have hX':=aR e0 hX0
  refine iY (q0 g Q) (A:=fun _=>false) (B:=fun _=>False) (v:=undef) hi (Region.noSelect_spec hs) fuel listed Pr Pr a w (fun j b h=>h) (fun j b _ h2=>h2.elim)
   (Region.free_spec hi t1) (fun j h=>by cases h) hready (.inr ⟨hw,rfl⟩) (hD _ hno (a.put o.dst undef) w H γ F _ hX' (hPr.mono hset (fun _ _ _ h=>h)))
theorem Pg {ops:Array Oper} {K:S->Prop} {fuel:Nat} {listed:Array Bool} {i:Nat} {o:Oper} (he:e.ok) (hpk:∀ x s,PQ e.pk x s->Q x s) (hC:kq g.nt ops=true) (hun:listed.getD i true=false) (hi:ops[i]? = some o) {s:St}
  {D:St->Prop} (hD:∀ s:St,D s->AD e.P g ops Q K fuel (listed.setIfInBounds i true) s.toS) (h:gT ops.toList o s (fun s=>x8 e.cl o s D) D) {a:Act} {w:World} {H:FH} {γ:Gam} {F:Nm->Fp} {Pr:Nat->Bs} (hX:RX g s.toS a w H γ F) (hPr:M0 ops listed H Pr) :
  lOp e.P ops (Zx g Q) Pr i (fun a' w'=>∃ Pr':Nat->Bs,(∀ j b,Pr j b->Pr' j b)/\qD e.P .any ops (Zx g Q) (fun a w=>∃ s',K s'/\R g s' a w) fuel (listed.setIfInBounds i true) Pr' a' w') a w:=by
 have hset:∀ j,(listed.setIfInBounds i true).getD j true=false->listed.getD j true=false:=fun j h=>(gl h).1
 unfold lOp;rw [hi];obtain ⟨c1,c2⟩:=ia hC hi;dsimp only;rcases rL hX (VY h) (dt c1) c2 with ⟨hw,s0,⟨s',e0,hop⟩,hX0⟩ | ⟨hw,s0,⟨s',e0,hno⟩,hX0⟩
 ·have hX':=aR e0 hX0
  rw [if_pos hw];by_cases hq:isQ o=true
  ·unfold x8 at hop;rw [hq] at hop;dsimp only at hop;obtain ⟨H1,F1,hX1,hH1⟩:=D6 hX' (fun g' H F hx=>wE hx o);obtain ⟨z,d,B,_,e1,e2,e3⟩:=yk hX1 c1 (SE hX1 c1 hop);obtain ⟨v',rfl,hk⟩:=e3;unfold Oper.wp;rw [e1 w (fun _ _=>rfl)];exact ⟨fun _ _=>rfl,Pr,fun _ _ h=>h,hD _ hk (a.put o.dst z) w H1 γ F1 Pr (aR (aD _ _ _) (hX1.put (dt c1) e2)) (hPr.mono hset hH1)⟩
  ·have hp:∀ b,Pr i b->∃ x y,H b x=some y:=by
    rcases hPr i o hi hun with h | h
    ·exact absurd h hq
    ·exact h
   let g':G:=⟨g.nt,w,H,tot F s'.toS.m,g.out,g.ex,g.dfs⟩
   have hX2:RX g' s'.toS a w H γ F:=⟨hX'.mem,Fr.refl' rfl rfl rfl rfl (fun _ h=>h),hX'.nt,⟨hX'.df.1,hX'.df.2.1,dz hX'⟩,hX'.t⟩
   refine bA ?_ (fun x a' w' h=>?_) (Dy (g:=g') (e:=e.cl) (Q:=PQ e.cl.pk) he (fun _ _ h=>h) c1 hop a w ⟨H,γ,F,hX2⟩)
   ·intro a' w' ⟨s2,hs2,H2,γ2,F2,hX3⟩;have hfr:=hX3.fr
    refine ⟨fun b hb=>?_,Pr,fun _ _ h=>h,?_⟩
    ·obtain ⟨x,y,hxy⟩:=hp b hb;have hc:=hX'.mem.agree b x y hxy
     refine hfr.block b ?_ ?_
     ·exact hc.lt
     ·show tot F s'.toS.m b=0
      rcases Zj (tot F s'.toS.m b) with h | h
      ·exact h
      ·have:=hX'.mem.nofz b (by omega) x
       rw [hxy] at this; cases this
    ·exact hD _ hs2 a' w' H2 γ2 F2 Pr ⟨hX3.mem,hX'.fr.trans hfr,hX3.nt,⟨hX3.df.1,hX3.df.2.1,hX'.df.2.2⟩,hX3.t⟩ (hPr.mono hset hfr.hold)
   ·obtain ⟨s2,⟨v,t,rfl,rfl,hv⟩,H2,γ2,F2,hX3⟩:=h;exact ⟨t.clr.toS,rfl,hpk _ _ ⟨v,t.clr,rfl,rfl,hv⟩,H2,γ2,F2,P8 ⟨hX3.mem,hX'.fr.trans hX3.fr,hX3.nt,⟨hX3.df.1,hX3.df.2.1,hX'.df.2.2⟩,hX3.t⟩ rfl rfl⟩
 ·have hX':=aR e0 hX0
  rw [if_neg (by rw [hw]; simp)];exact ⟨Pr,fun _ _ h=>h,hD _ hno (a.put o.dst undef) w H γ F Pr hX' (hPr.mono hset (fun _ _ _ h=>h))⟩
theorem jP {ops:Array Oper} {listed:Array Bool} {s:St} {i:Nat} {A:List Nat} {fz:Bool}:∀ {rd:List Nat},uM ops listed s rd=some (i,A,fz) ->
  ∃ o,ops[i]? = some o/\yF ops listed i A fz=true/\(fz=true->kp s o=true)/\isQ o=true
 | [],h=>by cases h
 | j::r,h=>by
  simp only [uM] at h;split at h
  ·exact jP h
  ·rename_i o ho;split at h
   ·exact jP h
   ·rename_i hq;split at h
    ·rename_i hf;split at h
     ·rename_i ht;simp only [YT,Prod.mk.injEq] at h;obtain ⟨rfl,rfl,rfl⟩:=h;exact ⟨o,ho,ht,fun _=>hf,hq⟩
     ·exact jP h
    ·split at h
     ·rename_i ht;simp only [YT,Prod.mk.injEq] at h;obtain ⟨rfl,rfl,rfl⟩:=h;exact ⟨o,ho,ht,fun h=>(by cases h),hq⟩
     ·exact jP h
theorem Ed {f:Nat->Prop}:∀ {l:List Nat},Nh f l->∀ i∈l,f i
 | [i],h,j,hj=>by simp only [Y3] at hj; subst hj; exact h
 | i::i'::r,h,j,hj=>by
  simp only [Y2] at hj;rcases hj with rfl | hj
  ·exact h.1
  ·exact Ed h.2 j (by simpa using hj)
theorem OJ {s:St} {o:Oper} {t:TypeId} {x:Operand} (h:o.op=.load t x):zx s o=s:=by unfold zx; rw [h]
theorem qE (he:e.ok) (hpk:∀ x s,PQ e.pk x s->Q x s) {ops:Array Oper} {K:S->Prop} (hC:kq g.nt ops=true) (hs:Region.noSelect ops=true) (hK:∀ t:St,k t->K t.toS) :
  ∀ (fuel:Nat) (listed:Array Bool) (s:St),fl e ops fuel listed s k->AD e.P g ops Q K fuel listed s.toS
 | 0,listed,s,h=>by
  simp only [fl] at h;split at h
  ·rename_i hr; exact Pf hr (hK s h) 0
  ·exact h.elim
 | fuel+1,listed,s,h=>by
  simp only [fl] at h;split at h
  ·rename_i hr; exact Pf hr (hK s h) _
  ·rename_i i0 rd hr;split at h
   ·rename_i i A fz hp;obtain ⟨o,hi,ht,hf,hq⟩:=jP hp;rw [hi] at h;dsimp only at h;obtain ⟨c1,c2⟩:=ia hC hi;split at h
    ·rename_i hg;intro a w H γ F Pr hX hPr;obtain ⟨H1,F1,hX1,hH1⟩:=D6 hX (fun g' H F hx=>wE hx o);refine Dw (D:=fun s'=>fl e ops fuel (listed.setIfInBounds i true) s' k) hC hs hi ht (fun s' hs'=>qE he hpk hC hs hK fuel _ _ hs') ?_ a w H1 γ F1 Pr hX1 (hPr.mono (fun _ h=>h) hH1);unfold gT;rw [hg];refine ⟨fun hfz=>?_,h⟩;have:=hf hfz
     cases hop:o.op with
     | load t x=>rw [OJ hop]; exact this
     | _=>unfold kp; rw [hop]
    ·rename_i q hg;refine Dw (D:=fun s'=>fl e ops fuel (listed.setIfInBounds i true) s' k) hC hs hi ht (fun s' hs'=>qE he hpk hC hs hK fuel _ _ hs') ?_;refine Jv (fun s' _ hs'=>?_) (fun _ _ h=>h) h;split at hs'
     ·rename_i hb;refine ⟨fun hfz=>?_,hs'⟩;rw [hfz] at hb;simpa using hb
     ·exact hs'.elim
   ·intro a w H γ F Pr hX hPr;refine ⟨fun h0=>absurd (hr ▸ h0) (by simp),fun i hi=>?_⟩;have hun:listed.getD i true=false:=(mem_ready.1 hi).1
    have hfi:=Ed h i (hr ▸ hi)
    cases ho:ops[i]? with
    | none=>rw [ho] at hfi; exact hfi.elim
    | some o=>
     rw [ho] at hfi;exact Pg he hpk hC hun ho (fun s hs'=>qE he hpk hC hs hK fuel _ s hs') hfi hX hPr
theorem Pv {id:Nat} {l:List Oper} (he:e.ok) (hpk:∀ x s,PQ e.pk x s->Q x s) (hm:e.P.follows .mixedOrders=true) (hC:kq g.nt l.toArray=true) (hs:Region.noSelect l.toArray=true) {s:St}
  (hQ:∀ t:St,k t->Q .normal t.toS) (h:fl e l.toArray l.toArray.size (Array.replicate l.toArray.size false) s k):AW e.P g (.region id l.toArray true) Q s.toS:=by
 intro a w hR;refine wp_region_any hm (mR (Z:=Zx g Q) (Q:=fun a w=>∃ s',Q .normal s'/\R g s' a w) (fun a w h=>h) (fun e a w h=>Tw h) _ _ (fun _ _=>False) _ _ ?_);obtain ⟨H,γ,F,hX⟩:=hR;exact qE (Q:=Q) he hpk hC hs hQ _ _ s h a _ H γ F _ (P3 hX _ rfl rfl rfl rfl) (fun j o _ _=>.inr fun b hb=>hb.elim)
theorem Ec {f f':Nat->Prop} (h:∀ i,f i->f' i):∀ {l:List Nat},Nh f l->Nh f' l
 | [],_=>trivial
 | [i],hh=>h i hh
 | i::i'::r,hh=>⟨h i hh.1,Ec h (l:=i'::r) hh.2⟩
theorem jb (he:e.ok) {ops:Array Oper} {k':St->Prop}:∀ {fuel:Nat} {listed:Array Bool} {s:St},(∀ s',Ext s s'->k s'->k' s')->fl e ops fuel listed s k->fl e ops fuel listed s k'
 | 0,listed,s,hk,h=>by
  simp only [fl] at h ⊢;split at h
  ·exact hk _ (Ext.refl s) h
  ·exact h.elim
 | fuel+1,listed,s,hk,h=>by
  simp only [fl] at h ⊢;split at h
  ·exact hk _ (Ext.refl s) h
  ·split at h
   ·split at h
    ·split at h
     ·exact CZ (fun v hv=>jb he (fun s' hE=>hk s' (((DT _ _).trans (ax _ _ _)).trans hE)) hv) h
     ·refine Jv (fun s1 h1 hs1=>?_) (fun s1 h1 hs1=>jb he (fun s' hE=>hk s' (h1.trans hE)) hs1) h;split at hs1
      ·exact CZ (fun v hv=>jb he (fun s' hE=>hk s' ((h1.trans (ax _ _ _)).trans hE)) hv) hs1
      ·exact hs1.elim
    ·exact h.elim
   ·refine Ec (fun i hi=>?_) h;split at hi
    ·exact Jv (fun s1 h1 hs1=>Gp (e:=e.cl) he (fun s2 h2 hs2=>jb he (fun s' hE=>hk s' ((h1.trans h2).trans hE)) hs2) hs1) (fun s1 h1 hs1=>jb he (fun s' hE=>hk s' (h1.trans hE)) hs1) hi
    ·exact hi.elim
end
def pf (N:List Nm):T->Prop
 | .pl p=>p.root∈N
 | .rf p=>p.root∈N
 | _=>True
def vN (N:List Nm):AV1->Prop
 | .c t=>pf N t
 | .agg ts=>∀ t∈ts,pf N t
def Im (N:List Nm):AV->Prop
 | .one x=>vN N x
 | .tup xs=>∀ x∈xs,vN N x
 | .any=>True
def fJ (r:Root):Root:=⟨r.blk,r.cells.map T.canon⟩
def mg (r r':Root):Prop:=r'.blk=r.blk/\r'.cells.length=r.cells.length/\∀ (i:Nat) t t',r.cells[i]? = some t->r'.cells[i]? = some t'->t'=t\/t'=t.canon
theorem mg.refl (r:Root):mg r r:=⟨rfl,rfl,fun i t t' h1 h2=>.inl (by rw [h1] at h2; exact (Option.some.inj h2).symm)⟩
theorem mg.canon (r:Root):mg r (fJ r):=⟨rfl,by simp [fJ],fun i t t' h1 h2=>.inr (by simp only [fJ,YW,h1,Option.map_some,YT] at h2; exact h2.symm)⟩
theorem mg.of {r r':Root} (h:r'=r\/r'=fJ r):mg r r':=by
 rcases h with rfl | rfl
 ·exact mg.refl _
 ·exact mg.canon _
theorem qf:∀ {m:Mm} {n:Nm} {r:Root},(m.map (·.1)).Nodup->(n,r)∈m->aa m n=some r
 | [],_,_,_,h=>by cases h
 | (k,x)::m,n,r,hn,h=>by
  simp only [List.map_cons,ZL] at hn;simp only [aa];rcases Y2.1 h with h | h
  ·cases h; rw [if_pos rfl]
  ·rw [if_neg (fun e=>hn.1 (by subst e; exact Zl (f:=(·.1)) h)),qf hn.2 h]
theorem GW {F:Nm->Fp} {b:Nat}:∀ {m' m:Mm},(m'.map (·.1)).Nodup->(m.map (·.1)).Nodup->(∀ x∈m',∃ r,aa m x.1=some r)->tot F m' b<=tot F m b
 | [],_,_,_,_=>ZE _
 | x::m',m,h1,h2,h=>by
  simp only [List.map_cons,ZL] at h1;obtain ⟨r,hr⟩:=h x (by simp);have e:=ik (F:=F) hr b
  have ih:=GW (F:=F) (b:=b) (m':=m') (m:=be m x.1) h1.2 (xY h2) (fun y hy=>by
   obtain ⟨r',hr'⟩:=h y (Y8 _ hy);refine ⟨r',?_⟩;rw [jd (fun e=>h1.1 (by rw [<- e]; exact Zl (f:=(·.1)) hy))];exact hr')
  show F x.1 b+tot F m' b<=tot F m b
  omega
section
variable {g:G} {a:Act} {w:World} {H:FH} {γ:Gam} {F:Nm->Fp}
theorem Iw {R R':T->Fp->Value->Prop}:∀ {ts:List T} {ts':List T} {f:Fp} {vs:List Value},ts'.length=ts.length->(∀ (i:Nat) t t' f v,ts[i]? = some t->ts'[i]? = some t'->R t f v->R' t' f v)->Ts R ts f vs->Ts R' ts' f vs
 | [],[],_,_,_,_,h=>h
 | t::ts,t'::ts',f,vs,hl,hi,h=>by
  obtain ⟨v,r,f1,f2,e1,e2,h1,h2⟩:=h;exact ⟨v,r,f1,f2,e1,e2,hi 0 t t' _ _ rfl rfl h1,Iw (by simpa using hl) (fun i=>hi (i+1)) h2⟩
theorem Qa {s s':S} (hX:RX g s a w H γ F) (hnd:(s'.m.map (·.1)).Nodup)
  (hm:∀ x∈s'.m,∃ r,aa s.m x.1=some r/\mg r x.2/\∀ t∈r.cells,pf (s'.m.map (·.1)) t)
  (ht:∀ i,aG s'.t i=.any\/((aG s'.t i=aG s.t i\/aG s'.t i=(aG s.t i).map T.canon)/\Im (s'.m.map (·.1)) (aG s.t i))):RX g s' a w H γ F:=by
 have hget:∀ n,n∈s'.m.map (·.1)->∃ r r',aa s.m n=some r/\aa s'.m n=some r'/\mg r r':=by
  intro n hn;obtain ⟨x,hx,rfl⟩:=Zo.1 hn;obtain ⟨r,h1,h2,_⟩:=hm x hx;exact ⟨r,x.2,h1,qf hnd hx,h2⟩
 have cell:∀ {r r':Root},mg r r'->r'.cells.length=r.cells.length/\∀ (i:Nat) sub l,r.cells[i]? = some (.ow sub l)->r'.cells[i]? = some (.ow sub l):=by
  rintro r r' ⟨_,h2,h3⟩
  refine ⟨h2,fun i sub l h=>?_⟩;have hlt:i<r'.cells.length:=by rw [h2]; exact ae h
  rw [YU hlt];rcases h3 i _ _ h (YU hlt) with e | e
  ·rw [e]
  ·rw [e]; rfl
 have pl:∀ p,p.root∈s'.m.map (·.1)->bu s.m p->bu s'.m p:=by
  intro p hp h;obtain ⟨r,r',e1,e2,e3⟩:=hget _ hp;obtain ⟨c1,c2⟩:=cell e3;unfold bu at h ⊢;rw [e1] at h;rw [e2];dsimp only at h ⊢;cases hpath:p.path with
  | nil=>rw [hpath] at h; dsimp only at h ⊢; omega
  | cons st q=>
   rw [hpath] at h;dsimp only at h ⊢;split at h
   ·rename_i sub l hc; rw [c2 _ _ _ hc]; exact h
   ·exact h.elim
 have rf:∀ p,p.root∈s'.m.map (·.1)->fy s.m p->fy s'.m p:=by
  intro p hp h;obtain ⟨r,r',e1,e2,e3⟩:=hget _ hp;obtain ⟨c1,c2⟩:=cell e3;unfold fy at h ⊢;rw [e1] at h;rw [e2];dsimp only at h ⊢;split at h
  ·rename_i sub l hc hpath; rw [c2 _ _ _ hc,hpath]; trivial
  ·rename_i l hc hpath;have hlt:p.off<r'.cells.length:=by rw [c1]; exact ae hc
   have hc':r'.cells[p.off]? = some (.mp l):=by
    rw [YU hlt];rcases e3.2.2 p.off _ _ hc (YU hlt) with e | e
    ·rw [e]
    ·rw [e]; rfl
   rw [hc',hpath]; trivial
  ·rename_i cur l hc hpath;have hlt:p.off<r'.cells.length:=by rw [c1]; exact ae hc
   have hc':∃ cur',r'.cells[p.off]? = some (.it cur' l):=by
    rw [YU hlt];rcases e3.2.2 p.off _ _ hc (YU hlt) with e | e
    ·exact ⟨cur,by rw [e]⟩
    ·exact ⟨none,by rw [e]; rfl⟩
   obtain ⟨cur',hc'⟩:=hc';rw [hc',hpath]; trivial
  ·rename_i sub l st q hc hpath; rw [c2 _ _ _ hc,hpath]; exact h
  ·exact h.elim
 have tr:∀ {t:T} {f:Fp} {v:Value},pf (s'.m.map (·.1)) t->TR w H γ s.m t f v->TR w H γ s'.m t f v:=by
  intro t f v hin h;cases t with
  | pl p=>exact ⟨h.1,pl p hin h.2.1,h.2.2⟩
  | rf p=>exact ⟨h.1,rf p hin h.2.1,h.2.2⟩
  | _=>exact h
 have trc:∀ {t:T} {f:Fp} {v:Value},pf (s'.m.map (·.1)) t->TR w H γ s.m t f v->TR w H γ s'.m t.canon f v:=by
  intro t f v hin h;have h':=tr hin h
  cases t with
  | nil=>exact ⟨h'.1,(bT (w:=w) (H:=H) (γ:=γ) (m:=s'.m) .nil v ⟨fun _=>rfl,h'.2⟩).2⟩
  | it cur rest=>exact VK h'
  | _=>exact h'
 have hsub:∀ b,tot F s'.m b<=tot F s.m b:=fun b=>GW hnd hX.mem.keys (fun x hx=>by obtain ⟨r,h,_⟩:=hm x hx; exact ⟨r,h⟩)
 refine ⟨⟨hX.mem.agree,fun x hx=>?_,hnd,fun b=>ZK (hsub b) (hX.mem.le1 b),fun b hb=>hX.mem.lt b (by have:=hsub b; omega),fun b hb=>hX.mem.nofz b (by have:=hsub b; omega)⟩,
  ⟨hX.fr.size,hX.fr.os,hX.fr.tape,hX.fr.output,hX.fr.block,hX.fr.hold,hX.fr.hnew,fun b hb=>hX.fr.tt b (by have:=hsub b; omega),hX.fr.nz⟩,hX.nt,hX.df,fun i=>?_⟩
 ·obtain ⟨r,h1,h2,h3⟩:=hm x hx;have hR:=hX.mem.roots _ (ab h1)
  have hlen:=(cell h2).1
  have key:∀ (i:Nat) t t' f v,r.cells[i]? = some t->x.2.cells[i]? = some t'->TR w H γ s.m t f v->TR w H γ s'.m t' f v:=by
   intro i t t' f v e1 e2 h;have hin:=h3 t (Zi e1)
   rcases h2.2.2 i t t' e1 e2 with e | e
   ·rw [e]; exact tr hin h
   ·rw [e]; exact trc hin h
  have hblk:x.2.blk=r.blk:=h2.1
  unfold aW at hR ⊢;rw [hblk];split at hR
  ·rename_i hb;rw [if_pos hb];obtain ⟨b,cs,ty,fz,g',k1,k2,k3,k4,k5,k6⟩:=hR;exact ⟨b,cs,ty,fz,g',k1,k2,k3,by rw [hlen]; exact k4,Iw hlen key k5,k6⟩
  ·rename_i hb;rw [if_neg hb];obtain ⟨v,t,k1,k2,k3⟩:=hR;dsimp only at k2;rw [k2] at hlen key
   match hc:x.2.cells,hlen with
   | [t'],_=>exact ⟨v,t',k1,rfl,key 0 t t' _ _ rfl (by rw [hc]; rfl) k3⟩
 ·rcases ht i with h | ⟨h,hin⟩
  ·rw [h]; trivial
  ·have hv:=hX.t i
   have one:∀ {x:AV1} {y:Value},vN (s'.m.map (·.1)) x->AR1 w H γ s.m x y->AR1 w H γ s'.m x y:=by
    intro x y hin h;cases x with
    | c t=>exact tr hin h
    | agg ts=>
     obtain ⟨cs,e1,e2,e3⟩:=h;refine ⟨cs,e1,e2,Iw rfl (fun i t t' f v h1 h2 h=>?_) e3⟩;rw [h1] at h2; obtain rfl:=Option.some.inj h2;exact tr (hin t (Zi h1)) h
   have all:AR w H γ s'.m (aG s.t i) (g.tv a i):=by
    revert hv hin
    cases aG s.t i with
    | one x=>exact fun hin hv=>one hin hv
    | tup xs=>
     rintro hin ⟨l,e,hl⟩
     refine ⟨l,e,?_⟩;have:∀ (xs:List AV1) (ys:List Value),(∀ x∈xs,vN (s'.m.map (·.1)) x)->ARs w H γ s.m xs ys->ARs w H γ s'.m xs ys:=by
      intro xs;induction xs with
      | nil=>intro ys _ h; cases ys <;> exact h
      | cons x xs ih=>
       intro ys hin h;cases ys with
       | nil=>exact h.elim
       | cons y ys=>exact ⟨one (hin x (by simp)) h.1,ih ys (fun z hz=>hin z (Y8 _ hz)) h.2⟩
     exact this xs _ hin hl
    | any=>exact fun _ _=>trivial
   rcases h with h | h
   ·rw [h]; exact all
   ·rw [h]; exact dl bT all
end
section
variable {g:G} {a:Act} {w:World}
theorem Na {s:S} {H:FH} {γ:Gam} {F:Nm->Fp} (h:RX g s a w H γ F):R g s a w:=⟨H,γ,F,h⟩
theorem xE (n:Nm):∀ m:List (Nm×Nat×Rt),aY (dh m n) n=none
 | []=>rfl
 | (k,j,v)::m=>by
  simp only [dh];by_cases h:k=n
  ·rw [if_pos h]; exact xE n m
  ·rw [if_neg h]; simp only [aY]; rw [if_neg h]; exact xE n m
theorem Jw (s:St) (n:Nm):aY (s.fresh n).m n=none:=by
 unfold St.fresh;split
 ·assumption
 ·show aY (bC _ _ (dh s.m n)) n=none
  rw [AZ,xE]; rfl
theorem Ag (s:St) (k:Nat) (sh:List Sh) (u:U):Ext s (Bf s k sh u):=by
 unfold Bf;split
 ·refine (bt s (iU k)).trans ⟨ZC _,sJ _ _ _ (YY _),iZ _ _ _ (YY _)⟩
 ·split
  ·refine ((qR s _).trans (bt _ (iU k))).trans ⟨ZC _,sJ _ _ _ (YY _),iZ _ _ _ (YY _)⟩
  ·exact Ext.refl s
 ·exact Ext.refl s
theorem LO {s:St} (h:R g s.toS a w) (k:Nat) (sh:List Sh) (u:U):R g (Bf s k sh u).toS a w:=by
 obtain ⟨H,γ,F,hX⟩:=h;have hn:=dT hX
 unfold Bf;split
 ·rename_i hv;obtain ⟨γ',F',h'⟩:=LJ hX k (iU k) sh;refine Aj ?_ (Na h');unfold OH;rw [gn hv];simp only [At.toV,A1.toV,Tt.toT];have e:aa (s.toS.fresh (iU k)).m (iU k)=none:=by
   rw [<- bk hn,show (s.fresh (iU k)).toS.m=toM (s.fresh (iU k)).m from rfl,rK,Jw]; rfl
  rw [e];show SEq ⟨m5 (s.toS.fresh (iU k)).t k _,_⟩ _
  rw [<- bk hn];refine ⟨fun i=>?_,rfl⟩;show aG (m5 _ k _) i=aG ((k,_)::_) i
  rw [gm]; rfl
 ·rename_i n hv;split
  ·rename_i sh' u' l' hne hr;obtain ⟨γ',F',h'⟩:=LJ hX k (iU k) sh;refine Aj ?_ (Na h');unfold OH;rw [gn hv];simp only [At.toV,A1.toV,Tt.toT];rw [show aa s.toS.m n=some (⟨false,[.ow sh' u' l'],none⟩:Rt).toR from aM hr];show SEq ⟨m5 ((s.toS.drop n).fresh (iU k)).t k _,_⟩ _
   rw [<- aU hn,<- bk (LF hn)];refine ⟨fun i=>?_,rfl⟩;show aG (m5 _ k _) i=aG ((k,_)::_) i
   rw [gm]; rfl
  ·exact ⟨H,γ,F,hX⟩
 ·exact ⟨H,γ,F,hX⟩
theorem cF (n:Nm) (us:List U):∀ (sh:List Sh) (off:Nat) (s:St),Ext s (aV s n us sh off)
 | [],_,s=>Ext.refl s
 | .ow sub::r,off,s=>by
  simp only [aV];split
  ·split
   ·rename_i cells hr _ _ u hc hu;have h1:Ext s ⟨s.nx+1,s.t,cq s.m n s.nx ⟨true,cells.set off (.ow sub u []),none⟩⟩:=⟨ZC _,fun _ _ _ h _=>h,ct _ _ (YY _) _⟩
    exact h1.trans (cF n us r (off+1) _)
   ·exact cF n us r (off+1) s
  ·exact Ext.refl s
 | .fr::r,off,s=>by
  simp only [aV];split
  ·split
   ·exact (sK s _).trans (cF n us r (off+1) _)
   ·exact cF n us r (off+1) s
  ·exact Ext.refl s
theorem LN {s:St} (h:R g s.toS a w) (q:Pl):R g (rJ s q).toS a w:=by
 obtain ⟨H,γ,F,hX⟩:=h;obtain ⟨H',F',h'⟩:=s6 hX q;exact ⟨H',γ,F',h'⟩
theorem LM {s:St} (h:R g s.toS a w) (v:At):R g (dV s v).toS a w:=by
 obtain ⟨H,γ,F,hX⟩:=h;obtain ⟨H',F',h'⟩:=fh hX v;exact ⟨H',γ,F',h'⟩
theorem b9 (n:Nm) (us:List U):∀ (sh:List Sh) (off:Nat) {s:St},R g s.toS a w->R g (aV s n us sh off).toS a w
 | [],_,_,h=>h
 | .ow sub::r,off,s,h=>by
  simp only [aV];split
  ·rename_i cells hr;split
   ·rename_i u hc hu;refine b9 n us r (off+1) ?_;obtain ⟨H,γ,F,hX⟩:=h;have h':=Tr hX n off sub
    have e:s.toS.ownR n off sub=(⟨s.nx+1,s.t,cq s.m n s.nx ⟨true,cells.set off (.ow sub u []),none⟩⟩:St).toS:=by
     unfold S.ownR;rw [show aa s.toS.m n=some (⟨true,cells,none⟩:Rt).toR from aM hr];have ec:(⟨true,cells,none⟩:Rt).toR.cells[off]? = some .nil:=by
      show (cells.map Tt.toT)[off]? = _
      rw [YW,hc]; rfl
     show (match (⟨true,cells,none⟩:Rt).toR.cells[off]? with | some .nil=>_ | _=>_)=_
     rw [ec];refine aU.S_ext rfl ?_;show _=toM (cq s.m n s.nx _)
     rw [dI]
     congr 1
     simp only [Rt.toR,holed,Zz,Tt.toT];rfl
    rw [<- e];exact Na h'
   ·exact b9 n us r (off+1) h
  ·exact h
 | .fr::r,off,s,h=>by
  simp only [aV];split
  ·split
   ·exact b9 n us r (off+1) (LN h _)
   ·exact b9 n us r (off+1) h
  ·exact h
theorem fC:∀ (sp:List Sp) (s:St),Ext s (prep sp s)
 | [],s=>Ext.refl s
 | .sl k u::r,s=>(fg s _).trans (fC r _)
 | .ow k sh u::r,s=>(Ag s k sh u).trans (fC r _)
 | .rt n sh u::r,s=>(cF n _ (unmark sh) 0 s).trans (fC r _)
 | .mp _ _ _::r,s=>fC r s
 | .mo _ _ _::r,s=>fC r s
 | .it _ _ _::r,s=>fC r s
 | .gw _ _ _::r,s=>fC r s
theorem ml:∀ (sp:List Sp) {s:St},R g s.toS a w->R g (prep sp s).toS a w
 | [],_,h=>h
 | .sl k u::r,_,h=>ml r (LM h _)
 | .ow k sh u::r,_,h=>ml r (LO h k sh u)
 | .rt n sh u::r,_,h=>ml r (b9 n _ (unmark sh) 0 h)
 | .mp _ _ _::r,_,h=>ml r h
 | .mo _ _ _::r,_,h=>ml r h
 | .it _ _ _::r,_,h=>ml r h
 | .gw _ _ _::r,_,h=>ml r h
mutual
theorem Vf:∀ {a b:Sh},X1 a b=true->a=b
 | .fr,.fr,_=>rfl
 | .ow a,.ow b,h=>by rw [ij (show l4 a b=true from h)]
theorem ij:∀ {a b:List Sh},l4 a b=true->a=b
 | [],[],_=>rfl
 | a::r,b::q,h=>by
  simp only [l4,YV] at h;rw [Vf h.1,ij h.2]
end
def CL:List Tt->List C->Prop
 | [],[]=>True
 | t::ts,c::cs=>((t=.d c\/t=.d .nm/\∃ k v,c=.mp k v none)\/(t=.nil/\∃ u',c=.li u' []))/\CL ts cs
 | _,_=>False
theorem L6 {u:U} {t:Tt} {x:El u} (h:yZ u t=some x):(t=.d (ah u x)\/t=.d .nm/\∃ k v,ah u x=.mp k v none)\/(t=.nil/\∃ u',ah u x=.li u' []):=by
 unfold yZ at h;split at h
 ·split at h
  ·simp only [YT] at h; subst h; exact .inl (.inr ⟨rfl,_,_,rfl⟩)
  ·cases h
 ·rw [cr h]; exact .inl (.inl (by rw [<- cr h]))
 ·split at h
  ·simp only [YT] at h; subst h; exact .inr ⟨rfl,_,rfl⟩
  ·cases h
 ·cases h
theorem EM:∀ {us:List U} {ts:List Tt} {x:Fl us},kh us ts=some x->CL ts (dB us x)
 | [],[],_,_=>trivial
 | u::r,c::cs,x,h=>by
  simp only [kh] at h;cases h1:yZ u c with
  | none=>rw [h1] at h; cases h
  | some y=>
   cases h2:kh r cs with
   | none=>rw [h1,h2] at h; cases h
   | some z=>
    rw [h1,h2] at h;simp only [YT] at h;subst h;rw [dB,rM,sr];exact ⟨L6 h1,EM h2⟩
 | [],_::_,_,h=>by simp [kh] at h
 | _::_,[],_,h=>by simp [kh] at h
theorem iR {u:U} {ts:List Tt} {x:El u} (h:gf u ts=some x):CL ts (flat u x):=by
 cases u with
 | st n=>
  simp only [gf] at h;cases h1:kh (sd n).fs ts with
  | none=>rw [h1] at h; cases h
  | some y=>
   rw [h1] at h;have:=Option.some.inj h
   subst this;show CL ts (dB (sd n).fs ((sd n).un ((sd n).mkF y)))
   rw [(sd n).l2]; exact EM h1
 | _=>
  cases ts with
  | nil=>cases h
  | cons t r=>cases r with
   | nil=>rw [jc rfl]; exact ⟨L6 h,trivial⟩
   | cons _ _=>cases h
theorem vR:∀ {ts:List Tt} {cs:List C},CL ts cs->(cs.map Tt.d).map Tt.toT=(ts.map Tt.toT).map T.canon/\∀ N,∀ t∈ts.map Tt.toT,pf N t
 | [],[],_=>⟨rfl,fun _ _ h=>by simp at h⟩
 | t::ts,c::cs,h=>by
  obtain ⟨h1,h2⟩:=h;obtain ⟨k1,k2⟩:=vR h2;simp only [List.map_cons,k1];rcases h1 with (rfl | ⟨rfl,k,v,rfl⟩) | ⟨rfl,u',rfl⟩
  ·exact ⟨rfl,fun N t ht=>by
    rcases Y2.1 ht with rfl | ht
    ·trivial
    ·exact k2 N t ht⟩
  ·exact ⟨rfl,fun N t ht=>by
    rcases Y2.1 ht with rfl | ht
    ·trivial
    ·exact k2 N t ht⟩
  ·exact ⟨rfl,fun N t ht=>by
    rcases Y2.1 ht with rfl | ht
    ·trivial
    ·exact k2 N t ht⟩
 | [],_::_,h=>h.elim
 | _::_,[],h=>h.elim
theorem xl {u:U} {v:At} {x:El u} (h:nJ u v=some x):(yG u x).toV=v.toV.map T.canon/\∀ N,Im N v.toV:=by
 unfold nJ at h;split at h
 ·rename_i y;unfold QY at h;split at h
  ·rename_i t;split at h
   ·rename_i hl;have hc:=iR h
    rw [jc hl] at hc;obtain ⟨k1,k2⟩:=vR hc;have e:(yG u x)=sct (ah u x):=by cases u <;> first | rfl | cases hl
    rw [e];refine ⟨?_,fun N=>k2 N t.toT (by simp)⟩;have:=congrArg (·[0]?) k1
    simp only [List.map_cons,List.map_nil,Zu,YT] at this;simp only [At.toV,A1.toV,AV.map,AV1.map,this]
   ·cases h
  ·rename_i ts;split at h
   ·cases h
   ·rename_i hl;obtain ⟨k1,k2⟩:=vR (iR h);have e:(yG u x)=.one (.agg ((flat u x).map Tt.d)):=by cases u <;> first | rfl | cases hl
    rw [e];exact ⟨by simp only [At.toV,A1.toV,AV.map,AV1.map,k1],fun N=>k2 N⟩
 ·cases h
theorem pc:∀ {sh:List Sh} {cells ts:List Tt} {cs:List C},dp sh cells=some ts->CL ts cs->(aB sh cs).map Tt.toT=(cells.map Tt.toT).map T.canon/\∀ N,∀ t∈cells.map Tt.toT,pf N t
 | [],[],ts,cs,h,hc=>by
  simp only [dp,YT] at h;subst h;cases cs with
  | nil=>exact ⟨rfl,fun _ _ h=>by simp at h⟩
  | cons _ _=>exact hc.elim
 | .ow s::r,c::cells,ts,cs,h,hc=>by
  cases c with
  | ow s' u l=>
   simp only [dp] at h;split at h
   ·rename_i ts' hs hr;simp only [YT] at h;subst h;cases cs with
    | nil=>exact hc.elim
    | cons c cs=>
     obtain ⟨h1,h2⟩:=hc;obtain ⟨k1,k2⟩:=pc hr h2;rcases h1 with (h1 | ⟨h1,_⟩) | ⟨h1,_⟩
     ·simp only [Tt.d.injEq] at h1;subst h1;rw [ij hs];simp only [aB,List.map_cons,k1];exact ⟨rfl,fun N t ht=>by
       rcases Y2.1 ht with rfl | ht
       ·trivial
       ·exact k2 N t ht⟩
     ·cases h1
     ·cases h1
   ·cases h
  | _=>simp [dp] at h
 | .fr::r,c::cells,ts,cs,h,hc=>by
  have go:∀ {t:Tt} {ts':List Tt},c=t->dp r cells=some ts'->ts=t::ts'->(∃ x,t=.d x)\/t=.nil->(aB (.fr::r) cs).map Tt.toT=((c::cells).map Tt.toT).map T.canon/\∀ N,∀ t∈(c::cells).map Tt.toT,pf N t:=by
   rintro t ts' rfl hr rfl hk
   cases cs with
   | nil=>exact hc.elim
   | cons c' cs=>
    obtain ⟨h1,h2⟩:=hc;obtain ⟨k1,k2⟩:=pc hr h2;have e:aB (.fr::r) (c'::cs)=.d c'::aB r cs:=by cases c' <;> rfl
    rw [e];simp only [List.map_cons,k1];rcases h1 with (rfl | ⟨rfl,k,v,rfl⟩) | ⟨rfl,u',rfl⟩
    ·exact ⟨rfl,fun N t ht=>by
      rcases Y2.1 ht with rfl | ht
      ·trivial
      ·exact k2 N t ht⟩
    ·exact ⟨rfl,fun N t ht=>by
      rcases Y2.1 ht with rfl | ht
      ·trivial
      ·exact k2 N t ht⟩
    ·exact ⟨rfl,fun N t ht=>by
      rcases Y2.1 ht with rfl | ht
      ·trivial
      ·exact k2 N t ht⟩
  cases c with
  | d x=>
   simp only [dp] at h;split at h
   ·rename_i ts' hr; exact go rfl hr (Option.some.inj h).symm (.inl ⟨x,rfl⟩)
   ·cases h
  | nil=>
   simp only [dp] at h;split at h
   ·rename_i ts' hr; exact go rfl hr (Option.some.inj h).symm (.inr rfl)
   ·cases h
  | _=>simp [dp] at h
 | [],_::_,_,_,h,_=>by simp [dp] at h
 | .ow _::_,[],_,_,h,_=>by simp [dp] at h
 | .fr::_,[],_,_,h,_=>by simp [dp] at h
theorem SV:∀ {sh:List Sh} {cells ts:List Tt} {cs:List C},fR sh cells=some ts->CL ts cs ->
  (((cz sh cs).map Tt.toT).length=(cells.map Tt.toT).length/\∀ (i:Nat) t t',(cells.map Tt.toT)[i]? = some t->((cz sh cs).map Tt.toT)[i]? = some t'->t'=t\/t'=t.canon)/\∀ N,∀ t∈cells.map Tt.toT,pf N t:=by
 intro sh;induction sh with
 | nil=>
  intro cells ts cs h hc;cases cells with
  | nil=>
   simp only [fR,YT] at h;subst h;cases cs with
   | nil=>exact ⟨⟨rfl,fun i t t' h=>by simp at h⟩,fun _ _ h=>by simp at h⟩
   | cons _ _=>exact hc.elim
  | cons _ _=>simp [fR] at h
 | cons s r ih=>
  intro cells ts cs h hc;cases cells with
  | nil=>cases s with
   | fr=>simp [fR] at h
   | ow a=>cases a <;> simp [fR] at h
  | cons c cells=>
   have go:∀ {t0:Tt} {c':C} {cs':List C} {ts':List Tt},fR r cells=some ts'->CL ts' cs'->cz (s::r) (c'::cs')=t0::cz r cs'->(t0.toT=c.toT\/t0.toT=c.toT.canon)->(∀ N,pf N c.toT) ->
     (((cz (s::r) (c'::cs')).map Tt.toT).length=((c::cells).map Tt.toT).length/\∀ (i:Nat) t t',((c::cells).map Tt.toT)[i]? = some t->((cz (s::r) (c'::cs')).map Tt.toT)[i]? = some t'->t'=t\/t'=t.canon)/\∀ N,∀ t∈(c::cells).map Tt.toT,pf N t:=by
    intro t0 c' cs' ts' h1 h2 h3 h4 h5;obtain ⟨⟨k1,k2⟩,k3⟩:=ih h1 h2;rw [h3];refine ⟨⟨by simp only [List.map_cons,Y5,k1],fun i t t' e1 e2=>?_⟩,fun N t ht=>?_⟩
    ·cases i with
     | zero=>
      simp only [List.map_cons,Zu,YT] at e1 e2;rw [<- e1,<- e2]; exact h4
     | succ i=>
      simp only [List.map_cons,ZG] at e1 e2;exact k2 i t t' e1 e2
    ·rcases Y2.1 ht with rfl | ht
     ·exact h5 N
     ·exact k3 N t ht
   cases s with
   | fr=>
    have gofr:∀ {t:Tt} {ts':List Tt},c=t->fR r cells=some ts'->ts=t::ts'->(∃ x,t=.d x)\/t=.nil->(((cz (.fr::r) cs).map Tt.toT).length=((c::cells).map Tt.toT).length/\∀ (i:Nat) t t',((c::cells).map Tt.toT)[i]? = some t->((cz (.fr::r) cs).map Tt.toT)[i]? = some t'->t'=t\/t'=t.canon)/\∀ N,∀ t∈(c::cells).map Tt.toT,pf N t:=by
     rintro t ts' rfl hr rfl hk
     cases cs with
     | nil=>exact hc.elim
     | cons c' cs=>
      have e:cz (.fr::r) (c'::cs)=.d c'::cz r cs:=by cases c' <;> rfl
      obtain ⟨h1,h2⟩:=hc;refine go hr h2 e ?_ ?_
      ·rcases h1 with (h1 | ⟨h1,k,v,h1'⟩) | ⟨h1,u',h1'⟩
       ·rw [h1]; exact .inl rfl
       ·rw [h1,h1']; exact .inl rfl
       ·rw [h1,h1']; exact .inr rfl
      ·intro N;rcases hk with ⟨x,hx⟩ | hx
       ·rw [hx]; trivial
       ·rw [hx]; trivial
    cases c with
    | d x=>
     simp only [fR] at h;split at h
     ·rename_i ts' hr; exact gofr rfl hr (Option.some.inj h).symm (.inl ⟨x,rfl⟩)
     ·cases h
    | nil=>
     simp only [fR] at h;split at h
     ·rename_i ts' hr; exact gofr rfl hr (Option.some.inj h).symm (.inr rfl)
     ·cases h
    | _=>simp [fR] at h
   | ow a=>
    cases a with
    | nil=>
     cases c with
     | nil=>
      simp only [fR] at h;split at h
      ·rename_i ts' hr;simp only [YT] at h;subst h;cases cs with
       | nil=>exact hc.elim
       | cons c' cs=>exact go hr hc.2 rfl (.inl rfl) (fun N=>trivial)
      ·cases h
     | _=>simp [fR] at h
    | cons a b=>
     cases c with
     | ow s' u l=>
      simp only [fR] at h;split at h
      ·rename_i ts' hs hr;simp only [YT] at h;subst h;cases cs with
       | nil=>exact hc.elim
       | cons c' cs=>
        obtain ⟨h1,h2⟩:=hc;rcases h1 with (h1 | ⟨h1,_⟩) | ⟨h1,_⟩
        ·simp only [Tt.d.injEq] at h1;subst h1;refine go hr h2 rfl (.inl ?_) (fun N=>trivial);simp only [Tt.toT];rw [ij hs]
        ·cases h1
        ·cases h1
      ·cases h
     | _=>simp [fR] at h
theorem je (k:Nat):∀ t:List (Nat×Nat×At),gtA t k=match bD t k with | some (_,v)=>v | none=>.any
 | []=>rfl
 | (i,j,v)::t=>by
  simp only [gtA,bD];cases Nat.beq i k with
  | true=>rfl
  | false=>exact je k t
theorem Ci {rs:List Nm} {t:Tt} (h:t.inR rs=true):pf rs t.toT:=by
 cases t with
 | pl p=>show p.root∈rs; simpa [Tt.inR] using h
 | rf p=>show p.root∈rs; simpa [Tt.inR] using h
 | _=>trivial
theorem Rp {rs:List Nm} {x:A1} (h:x.inR rs=true):vN rs x.toV:=by
 cases x with
 | c t=>exact Ci h
 | agg ts=>
  intro t ht;obtain ⟨t',h1,rfl⟩:=Zo.1 ht;exact Ci (Y6.1 h t' h1)
theorem WQ {rs:List Nm} {x:At} (h:x.inR rs=true):Im rs x.toV:=by
 cases x with
 | one x=>exact Rp h
 | tup xs=>
  intro t ht;obtain ⟨t',h1,rfl⟩:=Zo.1 ht;exact Rp (Y6.1 h t' h1)
 | any=>trivial
theorem Mi {p:Nat->At->Prop}:∀ {t:List (Nat×Nat×At)},(∀ x∈t,p x.1 x.2.2)->∀ i,gtA t i=.any\/p i (gtA t i)
 | [],_,_=>.inl rfl
 | (k,j,v)::t,h,i=>by
  simp only [gtA];cases hb:Nat.beq k i with
  | true=>have:=Y1 hb; subst this; exact .inr (h (k,j,v) (by simp))
  | false=>exact Mi (fun x hx=>h x (Y8 _ hx)) i
theorem oZ {t:List (Nat×Nat×At)}:∀ {ks:List Nat} {x:Nat×Nat×At},x∈A4 t ks->x.1∈ks/\bD t x.1=some x.2
 | [],x,h=>by simp [A4] at h
 | k::r,x,h=>by
  simp only [A4] at h;split at h
  ·rename_i j v hl;rcases Y2.1 h with rfl | h
   ·exact ⟨by simp,hl⟩
   ·have:=oZ h; exact ⟨Y8 _ this.1,this.2⟩
  ·have:=oZ h; exact ⟨Y8 _ this.1,this.2⟩
theorem oY {t:List (Nm×Nat×Rt)}:∀ {ks:List Nm} {x:Nm×Nat×Rt},x∈nR t ks->x.1∈ks/\bW t x.1=some x.2
 | [],x,h=>by simp [nR] at h
 | k::r,x,h=>by
  simp only [nR] at h;split at h
  ·rename_i j v hl;rcases Y2.1 h with rfl | h
   ·exact ⟨by simp,hl⟩
   ·have:=oY h; exact ⟨Y8 _ this.1,this.2⟩
  ·have:=oY h; exact ⟨Y8 _ this.1,this.2⟩
theorem E3 {s0 s:St} {rs:List Nm}:∀ {ks:List Nat},Uk s0 s rs ks=true->∀ k∈ks,∃ j v0 v,bD s0.t k=some (j,v0)/\bD s.t k=some (j,v)/\j<s0.nx/\v.inR rs=true
 | [],_,k,hk=>by simp at hk
 | i::r,h,k,hk=>by
  simp only [Uk,YV] at h;rcases Y2.1 hk with rfl | hk
  ·have h1:=h.1
   split at h1
   ·rename_i j v0 j' v e1 e2;simp only [YV] at h1;have:=Y1 h1.1.1
    subst this;exact ⟨_,_,_,e1,e2,YZ h1.1.2,h1.2⟩
   ·cases h1
  ·exact E3 h.2 k hk
theorem xy {s0 s:St} {rs:List Nm}:∀ {ks:List Nm},N6 s0 s rs ks=true->∀ k∈ks,∃ j v0 v,bW s0.m k=some (j,v0)/\bW s.m k=some (j,v)/\j<s0.nx/\v.cells.all (·.inR rs)=true
 | [],_,k,hk=>by simp at hk
 | i::r,h,k,hk=>by
  simp only [N6,YV] at h;rcases Y2.1 hk with rfl | hk
  ·have h1:=h.1
   split at h1
   ·rename_i j v0 j' v e1 e2;simp only [YV] at h1;have:=Y1 h1.1.1
    subst this;exact ⟨_,_,_,e1,e2,YZ h1.1.2,h1.2⟩
   ·cases h1
  ·exact xy h.2 k hk
theorem E2 {s:St} {rs:List Nm}:∀ {ps:List (Nat×Nm×Nat)},Uj s rs ps=true->∀ p∈ps,gtA s.t p.1=.one (.c (.pl ⟨p.2.1,p.2.2,[]⟩))/\p.2.1∈rs
 | [],_,p,hp=>by simp at hp
 | (k,n,o)::r,h,p,hp=>by
  simp only [Uj,YV] at h;rcases Y2.1 hp with rfl | hp
  ·have h1:=h.1
   split at h1
   ·rename_i n' o' hg;simp only [YV,decide_eq_true_eq] at h1;obtain ⟨⟨rfl,h2⟩,h3⟩:=h1;have:=Y1 h2
    subst this;exact ⟨hg,by simpa using h3⟩
   ·cases h1
  ·exact E2 h.2 p hp
theorem xJ {s0 s:St} {rs:List Nm}:∀ {ks:List Nm},N6 s0 s rs ks=true->(nR s0.m ks).map (·.1)=ks
 | [],_=>rfl
 | k::r,h=>by
  have hh:=h
  simp only [N6,YV] at h;obtain ⟨j,v0,v,e1,_⟩:=xy hh k (by simp);simp only [nR,e1,List.map_cons,xJ h.2]
theorem fm (nx:Nat):∀ (sp:List Sp) (x:FSp sp),(dw nx sp x).map (·.1)=sp.flatMap Sp.rn
 | [],_=>rfl
 | .sl k u::r,x=>by simp only [dw,Zt,Sp.rn,aaF]; exact fm nx r _
 | .ow k sh u::r,x=>by simp only [dw,Zt,Sp.rn,List.map_cons,ZX]; rw [fm nx r]
 | .rt n sh u::r,x=>by simp only [dw,Zt,Sp.rn,List.map_cons,ZX]; rw [fm nx r]
 | .mp n ku vu::r,x=>by simp only [dw,Zt,Sp.rn,List.map_cons,ZX]; rw [fm nx r]
 | .mo n ku vu::r,x=>by simp only [dw,Zt,Sp.rn,List.map_cons,ZX]; rw [fm nx r]
 | .it n ku vu::r,x=>by simp only [dw,Zt,Sp.rn,List.map_cons,ZX]; rw [fm nx r]
 | .gw n sh u::r,x=>by simp only [dw,Zt,Sp.rn,List.map_cons,ZX]; rw [fm nx r]
theorem Bc:∀ {l:List Nm},CH l=true->l.Nodup
 | [],_=>List.nodup_nil
 | n::r,h=>by
  simp only [CH,YV,Z2,List.contains_eq_mem,decide_eq_false_iff_not] at h;exact ZL.2 ⟨h.1,Bc h.2⟩
theorem xn {ku vu ku' vu':U} {l:List (El ku×El vu)} {x:List (El ku'×El vu')} (h:EO ku vu ku' vu' l=some x):∃ (e1:ku=ku') (e2:vu=vu'),x=e1 ▸ e2 ▸ l:=by
 unfold EO at h;split at h
 ·rename_i e;obtain ⟨rfl,rfl⟩:=e;exact ⟨rfl,rfl,(Option.some.inj h).symm⟩
 ·cases h
theorem RE {s:St} {nx:Nat}:∀ {sp:List Sp} {x:FSp sp},unS s sp=some x ->
  (∀ y∈lb nx sp x,(y.2.2.toV=(gtA s.t y.1).toV\/y.2.2.toV=(gtA s.t y.1).toV.map T.canon)/\∀ N,(∀ n∈sp.flatMap Sp.rn,n∈N)->Im N (gtA s.t y.1).toV) /\
  (∀ y∈dw nx sp x,∃ r,aY s.m y.1=some r/\mg r.toR y.2.2.toR/\∀ N,∀ t∈r.toR.cells,pf N t)
 | [],_,_=>⟨fun y h=>by simp [lb] at h,fun y h=>by simp [dw] at h⟩
 | p::r,x,h=>by
  simp only [unS] at h;cases h1:GY s p with
  | none=>rw [h1] at h; cases h
  | some a=>
   cases h2:unS s r with
   | none=>rw [h1,h2] at h; cases h
   | some b=>
    rw [h1,h2] at h;simp only [YT] at h;obtain ⟨i1,i2⟩:=RE (nx:=nx) h2;cases p with
    | sl k u=>
     have ha:FSp.hd (.sl k u) r x=a:=by rw [<- h]; exact pS _ _ _ _
     have hb:FSp.tl (.sl k u) r x=b:=by rw [<- h]; exact pT _ _ _ _
     refine ⟨fun y hy=>?_,fun y hy=>?_⟩
     ·simp only [lb,ha,hb,Y2] at hy;rcases hy with rfl | hy
      ·obtain ⟨k1,k2⟩:=xl (v:=gtA s.t k) h1;exact ⟨.inr k1,fun N _=>k2 N⟩
      ·obtain ⟨k1,k2⟩:=i1 y hy;exact ⟨k1,fun N hN=>k2 N (fun n hn=>hN n (by simp only [Zt,Za]; exact .inr hn))⟩
     ·simp only [dw,hb] at hy; exact i2 y hy
    | ow k sh u=>
     have ha:FSp.hd (.ow k sh u) r x=a:=by rw [<- h]; exact pS _ _ _ _
     have hb:FSp.tl (.ow k sh u) r x=b:=by rw [<- h]; exact pT _ _ _ _
     simp only [GY] at h1;split at h1
     ·rename_i n sh' u' l hv hr;cases hn:decide (n=iU k) <;> cases hsh:l4 sh sh' <;> rw [hn,hsh] at h1
      ·cases h1
      ·cases h1
      ·cases h1
      ·have hn':n=iU k:=by simpa using hn
       subst hn';obtain ⟨e,rfl⟩:=gR h1;subst e;obtain rfl:=ij hsh;refine ⟨fun y hy=>?_,fun y hy=>?_⟩
       ·simp only [lb,hb,Y2] at hy;rcases hy with rfl | hy
        ·refine ⟨.inl (by rw [hv]),fun N hN=>?_⟩;rw [hv];exact hN _ (by simp [Zt,Sp.rn])
        ·obtain ⟨k1,k2⟩:=i1 y hy;exact ⟨k1,fun N hN=>k2 N (fun n hn=>hN n (by simp only [Zt,Za]; exact .inr hn))⟩
       ·simp only [dw,ha,hb,Y2] at hy;rcases hy with rfl | hy
        ·exact ⟨_,hr,mg.refl _,fun N t ht=>by simp only [Rt.toR,holed,List.map_cons,List.map_nil,Y3] at ht; subst ht; trivial⟩
        ·exact i2 y hy
     ·cases h1
    | mp n ku vu=>
     have ha:FSp.hd (.mp n ku vu) r x=a:=by rw [<- h]; exact pS _ _ _ _
     have hb:FSp.tl (.mp n ku vu) r x=b:=by rw [<- h]; exact pT _ _ _ _
     simp only [GY] at h1;split at h1
     ·rename_i ku' vu' l hr;obtain ⟨e1,e2,rfl⟩:=xn h1;subst e1; subst e2;refine ⟨fun y hy=>?_,fun y hy=>?_⟩
      ·simp only [lb,hb] at hy;obtain ⟨k1,k2⟩:=i1 y hy;exact ⟨k1,fun N hN=>k2 N (fun n hn=>hN n (by simp only [Zt,Za]; exact .inr hn))⟩
      ·simp only [dw,ha,hb,Y2] at hy;rcases hy with rfl | hy
       ·exact ⟨_,hr,mg.refl _,fun N t ht=>by simp only [Rt.toR,holed,List.map_cons,List.map_nil,Y3] at ht; subst ht; trivial⟩
       ·exact i2 y hy
     ·cases h1
    | it n ku vu=>
     have ha:FSp.hd (.it n ku vu) r x=a:=by rw [<- h]; exact pS _ _ _ _
     have hb:FSp.tl (.it n ku vu) r x=b:=by rw [<- h]; exact pT _ _ _ _
     simp only [GY] at h1;split at h1
     ·rename_i ku' vu' cur l hr;obtain ⟨e1,e2,rfl⟩:=xn h1;subst e1; subst e2;refine ⟨fun y hy=>?_,fun y hy=>?_⟩
      ·simp only [lb,hb] at hy;obtain ⟨k1,k2⟩:=i1 y hy;exact ⟨k1,fun N hN=>k2 N (fun n hn=>hN n (by simp only [Zt,Za]; exact .inr hn))⟩
      ·simp only [dw,ha,hb,Y2] at hy;rcases hy with rfl | hy
       ·exact ⟨_,hr,⟨rfl,rfl,fun i t t' h1 h2=>by
         cases i with
         | zero=>
          have e1:T.it (cur.map (pm _ _)) (l.map (pm _ _))=t:=Option.some.inj h1
          have e2:T.it none (l.map (pm _ _))=t':=Option.some.inj h2
          subst e1 e2; exact .inr rfl
         | succ i=>simp [Rt.toR,holed] at h1⟩,fun N t ht=>by simp only [Rt.toR,holed,List.map_cons,List.map_nil,Y3] at ht; subst ht; trivial⟩
       ·exact i2 y hy
     ·cases h1
    | gw n sh u=>
     have ha:FSp.hd (.gw n sh u) r x=a:=by rw [<- h]; exact pS _ _ _ _
     have hb:FSp.tl (.gw n sh u) r x=b:=by rw [<- h]; exact pT _ _ _ _
     simp only [GY] at h1;split at h1
     ·rename_i sh' u' l hr;cases hsh:l4 sh sh' with
      | false=>rw [hsh] at h1; cases h1
      | true=>
      rw [hsh] at h1;obtain ⟨e,rfl⟩:=gR h1;subst e;obtain rfl:=ij hsh;refine ⟨fun y hy=>?_,fun y hy=>?_⟩
      ·simp only [lb,hb] at hy;obtain ⟨k1,k2⟩:=i1 y hy;exact ⟨k1,fun N hN=>k2 N (fun n hn=>hN n (by simp only [Zt,Za]; exact .inr hn))⟩
      ·simp only [dw,ha,hb,Y2] at hy;rcases hy with rfl | hy
       ·exact ⟨_,hr,mg.refl _,fun N t ht=>by simp only [Rt.toR,holed,List.map_cons,List.map_nil,Y3] at ht; subst ht; trivial⟩
       ·exact i2 y hy
     ·cases h1
    | mo n ku vu=>
     have ha:FSp.hd (.mo n ku vu) r x=a:=by rw [<- h]; exact pS _ _ _ _
     have hb:FSp.tl (.mo n ku vu) r x=b:=by rw [<- h]; exact pT _ _ _ _
     simp only [GY] at h1;split at h1
     ·rename_i ku' vu' l hr;obtain ⟨e1,e2,rfl⟩:=xn h1;subst e1; cases e2;refine ⟨fun y hy=>?_,fun y hy=>?_⟩
      ·simp only [lb,hb] at hy;obtain ⟨k1,k2⟩:=i1 y hy;exact ⟨k1,fun N hN=>k2 N (fun n hn=>hN n (by simp only [Zt,Za]; exact .inr hn))⟩
      ·simp only [dw,ha,hb,Y2] at hy;rcases hy with rfl | hy
       ·exact ⟨_,hr,mg.refl _,fun N t ht=>by simp only [Rt.toR,holed,List.map_cons,List.map_nil,Y3] at ht; subst ht; trivial⟩
       ·exact i2 y hy
     ·cases h1
    | rt n sh u=>
     have ha:FSp.hd (.rt n sh u) r x=a:=by rw [<- h]; exact pS _ _ _ _
     have hb:FSp.tl (.rt n sh u) r x=b:=by rw [<- h]; exact pT _ _ _ _
     simp only [GY] at h1;split at h1
     ·rename_i cells hr;split at h1
      ·rename_i ts hts;obtain ⟨k1,k2⟩:=SV hts (iR h1);refine ⟨fun y hy=>?_,fun y hy=>?_⟩
       ·simp only [lb,hb] at hy;obtain ⟨k1,k2⟩:=i1 y hy;exact ⟨k1,fun N hN=>k2 N (fun n hn=>hN n (by simp only [Zt,Za]; exact .inr hn))⟩
       ·simp only [dw,ha,hb,Y2] at hy;rcases hy with rfl | hy
        ·exact ⟨_,hr,⟨rfl,k1.1,k1.2⟩,fun N t ht=>k2 N t ht⟩
        ·exact i2 y hy
      ·cases h1
     ·cases h1
def jn1 (σ:Sg) (s0:St) (J:FSp σ.sp->Prop) (s:St):Prop:=σ.fit s0 s=true/\∃ x,unS s σ.sp=some x/\J x
theorem Rr {σ:Sg} {s0 s1:St} {J:FSp σ.sp->Prop} (hE1:Ext s0 s1) (h:jn1 σ s0 J s1) (hR1:R g s1.toS a w):∃ v,J v/\R g (σ.st s0 v).toS a w:=by
   obtain ⟨hf,v,hv,h⟩:=h;refine ⟨v,h,?_⟩;obtain ⟨H,γ,F,hX⟩:=hR1;simp only [Sg.fit,YV] at hf;obtain ⟨⟨⟨f1,f2⟩,f3⟩,f4⟩:=hf;obtain ⟨l1,l2⟩:=RE (nx:=s0.nx) hv;have hkeys:(σ.st s0 v).toS.m.map (·.1)=σ.rn:=by
    show (toM (nR s0.m σ.kr++dw s0.nx σ.sp v)).map (·.1)=_
    simp only [toM,Y9];show (nR s0.m σ.kr++dw s0.nx σ.sp v).map (·.1)=_
    rw [ZU,xJ f4,fm]; rfl
   refine ⟨H,γ,F,Qa hX (by rw [hkeys]; exact Bc f1) (fun x hx=>?_) (fun i=>?_)⟩
   ·rw [hkeys];obtain ⟨y,hy,rfl⟩:=Zo.1 (show x∈toM (nR s0.m σ.kr++dw s0.nx σ.sp v) from hx);rcases Za.1 hy with hy | hy
    ·obtain ⟨hk,hl⟩:=oY hy;obtain ⟨j,v0,v1,e1,e2,e3,e4⟩:=xy f4 y.1 hk;have e5:=hE1.m _ _ _ e2 e3
     rw [hl] at e5;have e6:=Option.some.inj e5
     have eg:aY s1.m y.1=some y.2.2:=by rw [mF,e2]; simp [e6]
     refine ⟨y.2.2.toR,aM eg,mg.refl _,fun t ht=>?_⟩;have hv1:y.2.2=v1:=by rw [e6]
     rw [hv1] at ht;have hH:=wx v1.cells v1.hole
     obtain ⟨i,hi,hit⟩:=List.getElem_of_mem ht;have hlen:=hH.len
     have hi':i<v1.cells.length:=by
      have:(v1.toR.cells).length=v1.cells.length:=hlen
      omega
     rcases hH.nth i _ t (YU hi') (by rw [<- hit]; exact YU hi) with e | ⟨_,_,_,_,_,e,_⟩
     ·rw [e]; exact Ci (Y6.1 e4 _ (Zw hi'))
     ·rw [e]; trivial
    ·obtain ⟨r,k1,k2,k3⟩:=l2 y hy;exact ⟨r.toR,aM k1,k2,k3 _⟩
   ·rw [hkeys];have key:∀ y∈(σ.st s0 v).t,(y.2.2.toV=(gtA s1.t y.1).toV\/y.2.2.toV=(gtA s1.t y.1).toV.map T.canon)/\Im σ.rn (gtA s1.t y.1).toV:=by
     intro y hy;rcases Za.1 hy with hy | hy
     ·obtain ⟨hk,hl⟩:=oZ hy;obtain ⟨j,v0,v1,e1,e2,e3,e4⟩:=E3 f3 y.1 hk;have e5:=hE1.t _ _ _ e2 e3
      rw [hl] at e5;have e6:=Option.some.inj e5
      have eg:gtA s1.t y.1=v1:=by rw [je,e2]
      rw [eg,e6];exact ⟨.inl rfl,WQ e4⟩
     ·rcases Za.1 hy with hy | hy
      ·obtain ⟨p,hp,rfl⟩:=Zo.1 hy;obtain ⟨e1,e2⟩:=E2 f2 p hp;dsimp only;rw [e1];exact ⟨.inl rfl,e2⟩
      ·obtain ⟨k1,k2⟩:=l1 y hy;exact ⟨k1,k2 _ (fun n hn=>by unfold Sg.rn; exact ZD _ hn)⟩
    have hs1:aG s1.toS.t i=(gtA s1.t i).toV:=bZ i s1.t
    have hst:aG (σ.st s0 v).toS.t i=(gtA (σ.st s0 v).t i).toV:=bZ i (σ.st s0 v).t
    rw [hs1,hst];rcases Mi (p:=fun i v=>(v.toV=(gtA s1.t i).toV\/v.toV=(gtA s1.t i).toV.map T.canon)/\Im σ.rn (gtA s1.t i).toV) key i with e | e
    ·rw [e]; exact .inl rfl
    ·exact .inr e
theorem V2 {σ:Sg} {s0 s:St} {J:FSp σ.sp->Prop} (hE:Ext s0 s) (h:jn σ s0 J s) (hR:R g s.toS a w):∃ v,J v/\R g (σ.st s0 v).toS a w:=by
 unfold jn at h;dsimp only at h;have hR1:=ml (g:=g) (a:=a) (w:=w) σ.sp hR
 have hE1:=hE.trans (fC σ.sp s)
 split at h
 ·rename_i hf;split at h
  ·rename_i v hv; exact Rr hE1 ⟨hf,v,hv,h⟩ hR1
  ·exact h.elim
 ·exact h.elim
theorem Ba {k:Nat} {y:Nat×At}:∀ {t:List (Nat×Nat×At)},bD t k=some y->(k,y)∈t
 | [],h=>by cases h
 | (i,j,v)::t,h=>by
  simp only [bD] at h;split at h
  ·rename_i hb;have:=Y1 hb
   subst this;rw [<- Option.some.inj h]; simp
  ·exact Y8 _ (Ba h)
theorem A8 {k:Nm} {y:Nat×Rt}:∀ {t:List (Nm×Nat×Rt)},bW t k=some y->(k,y)∈t
 | [],h=>by cases h
 | (i,j,v)::t,h=>by
  simp only [bW] at h;split at h
  ·rename_i hb;subst hb;rw [<- Option.some.inj h]; simp
  ·exact Y8 _ (A8 h)
theorem nS (nx:Nat):∀ (sp:List Sp) (x:FSp sp),(∀ y∈lb nx sp x,y.2.1=nx)/\∀ y∈dw nx sp x,y.2.1=nx
 | [],_=>⟨fun y h=>by simp [lb] at h,fun y h=>by simp [dw] at h⟩
 | .sl k u::r,x=>by
  obtain ⟨h1,h2⟩:=nS nx r (FSp.tl (.sl k u) r x);refine ⟨fun y h=>?_,fun y h=>h2 y h⟩;simp only [lb,Y2] at h;rcases h with rfl | h
  ·rfl
  ·exact h1 y h
 | .ow k sh u::r,x=>by
  obtain ⟨h1,h2⟩:=nS nx r (FSp.tl (.ow k sh u) r x);refine ⟨fun y h=>?_,fun y h=>?_⟩
  ·simp only [lb,Y2] at h;rcases h with rfl | h
   ·rfl
   ·exact h1 y h
  ·simp only [dw,Y2] at h;rcases h with rfl | h
   ·rfl
   ·exact h2 y h
 | .rt n sh u::r,x=>by
  obtain ⟨h1,h2⟩:=nS nx r (FSp.tl (.rt n sh u) r x);refine ⟨fun y h=>h1 y h,fun y h=>?_⟩;simp only [dw,Y2] at h;rcases h with rfl | h
  ·rfl
  ·exact h2 y h
 | .mp n ku vu::r,x=>by
  obtain ⟨h1,h2⟩:=nS nx r (FSp.tl (.mp n ku vu) r x);refine ⟨fun y h=>h1 y h,fun y h=>?_⟩;simp only [dw,Y2] at h;rcases h with rfl | h
  ·rfl
  ·exact h2 y h
 | .mo n ku vu::r,x=>by
  obtain ⟨h1,h2⟩:=nS nx r (FSp.tl (.mo n ku vu) r x);refine ⟨fun y h=>h1 y h,fun y h=>?_⟩;simp only [dw,Y2] at h;rcases h with rfl | h
  ·rfl
  ·exact h2 y h
 | .it n ku vu::r,x=>by
  obtain ⟨h1,h2⟩:=nS nx r (FSp.tl (.it n ku vu) r x);refine ⟨fun y h=>h1 y h,fun y h=>?_⟩;simp only [dw,Y2] at h;rcases h with rfl | h
  ·rfl
  ·exact h2 y h
 | .gw n sh u::r,x=>by
  obtain ⟨h1,h2⟩:=nS nx r (FSp.tl (.gw n sh u) r x);refine ⟨fun y h=>h1 y h,fun y h=>?_⟩;simp only [dw,Y2] at h;rcases h with rfl | h
  ·rfl
  ·exact h2 y h
theorem wg (σ:Sg) (s:St) (x:FSp σ.sp):Ext s (σ.st s x):=by
 obtain ⟨l1,l2⟩:=nS s.nx σ.sp x;refine ⟨ZC _,fun k j v h hj=>?_,fun n j r h hj=>?_⟩
 ·have hm:=Ba h
  rcases Za.1 hm with hm | hm
  ·exact (oZ hm).2
  ·rcases Za.1 hm with hm | hm
   ·obtain ⟨p,_,e⟩:=Zo.1 hm;simp only [Prod.mk.injEq] at e;omega
   ·have:=l1 _ hm; dsimp only at this; omega
 ·have hm:=A8 h
  rcases Za.1 hm with hm | hm
  ·exact (oY hm).2
  ·have:=l2 _ hm; dsimp only at this; omega
end
def eX (nt:Nat):Code->Bool
 | .region _ ops false=>UX nt ops.toList ops.toList
 | .region _ ops true=>kq nt ops&&Region.noSelect ops
 | .seq a b=>eX nt a&&eX nt b
 | .cond (.tmp t) a b=>Nat.blt t 100000&&(eX nt a&&eX nt b)
 | .block _ a=>eX nt a
 | .loop a=>eX nt a
 | _=>true
def LQ (pk:PKt) (K:Kt):Exit->S->Prop
 | .normal,s=>∃ t:St,s=t.toS/\K.n t
 | .exit i,s=>∃ t:St,s=t.toS/\K.x i t
 | .ret,s=>∃ t:St,s=t.toS/\K.r t
 | .panic c,s=>∃ v,∃ t:St,c=chn v/\s=t.toS/\pk v t
 | _,_=>False
theorem VI {pk:PKt} {K:Kt}:∀ x s,PQ pk x s->LQ pk K x s:=by
 rintro x s ⟨v,t,rfl,rfl,h2⟩
 exact ⟨v,t,rfl,rfl,h2⟩
theorem UA {σ:Sg} {s0 s:St} {J J':FSp σ.sp->Prop} (hj:∀ v,J v->J' v) (h:jn σ s0 J s):jn σ s0 J' s:=by
 unfold jn at h ⊢;dsimp only at h ⊢;split at h
 ·split at h
  ·exact hj _ h
  ·exact h.elim
 ·exact h.elim
theorem xR {α:Type} {b b':(α->Prop)->α->Prop} (hb:∀ R R':α->Prop,(∀ v,R v->R' v)->∀ v,b R v->b' R' v):∀ n v,nT b n v->nT b' n v
 | 0,_,h=>h.elim
 | n+1,v,h=>hb _ _ (xR hb n) v h
theorem vJ {e:En} (he:e.ok):∀ (c:Code) (an:An) (s:St) (K K':Kt),(∀ s',Ext s s'->K.n s'->K'.n s')->(∀ i s',Ext s s'->K.x i s'->K'.x i s')->(∀ s',Ext s s'->K.r s'->K'.r s')->wpT e an c s K->wpT e an c s K':=by
 intro c;induction c with
 | skip=>intro an s K K' hn hx hr h; simp only [wpT] at h ⊢; exact hn s (Ext.refl s) h
 | exit i=>intro an s K K' hn hx hr h; simp only [wpT] at h ⊢; exact hx i s (Ext.refl s) h
 | ret=>intro an s K K' hn hx hr h; simp only [wpT] at h ⊢; exact hr s (Ext.refl s) h
 | region id ops dr=>
  intro an s K K' hn hx hr h;cases dr with
  | false=>simp only [wpT] at h ⊢; exact ya he hn h
  | true=>simp only [wpT] at h ⊢; exact jb he hn h
 | seq a b iha ihb=>
  intro an s K K' hn hx hr h;cases an with
  | s p q=>
   simp only [wpT] at h ⊢;exact iha p s ⟨fun s'=>wpT e (q.pick s') b s' K,K.x,K.r⟩ ⟨fun s'=>wpT e (q.pick s') b s' K',K'.x,K'.r⟩ (fun s1 h1 hs1=>ihb (q.pick s1) s1 K K' (fun s2 h2=>hn s2 (h1.trans h2)) (fun i s2 h2=>hx i s2 (h1.trans h2)) (fun s2 h2=>hr s2 (h1.trans h2)) hs1) hx hr h
  | j σ p q=>
   simp only [wpT] at h ⊢;intro J hJ;refine iha p s ⟨jn σ s J,K.x,K.r⟩ ⟨jn σ s J,K'.x,K'.r⟩ (fun s1 _ h=>h) hx hr (h J (fun v hv=>hJ v ?_));exact ihb q _ K K' (fun s2 h2=>hn s2 ((wg σ s v).trans h2)) (fun i s2 h2=>hx i s2 ((wg σ s v).trans h2)) (fun s2 h2=>hr s2 ((wg σ s v).trans h2)) hv
  | _=>simp only [wpT] at h
 | cond t a b iha ihb=>
  intro an s K K' hn hx hr h;cases an with
  | c p q=>
   cases t with
   | tmp t=>
    simp only [wpT] at h ⊢;split at h
    ·rename_i c _;cases c
     ·simp only [Y4,if_false] at h ⊢; exact ihb q s K K' hn hx hr h
     ·simp only [if_true] at h ⊢; exact iha p s K K' hn hx hr h
    ·exact h.elim
   | _=>simp only [wpT] at h
  | _=>cases t <;> simp only [wpT] at h
 | block id a iha=>
  intro an s K K' hn hx hr h;cases an with
  | b p=>
   simp only [wpT] at h ⊢;refine iha p s ⟨K.n,fun i s'=>match Nat.beq i id with | true=>K.n s' | false=>K.x i s',K.r⟩ ⟨K'.n,fun i s'=>match Nat.beq i id with | true=>K'.n s' | false=>K'.x i s',K'.r⟩ hn (fun i s' hE hs'=>?_) hr h;dsimp only at hs' ⊢;cases hb:Nat.beq i id with
   | true=>rw [hb] at hs'; exact hn s' hE hs'
   | false=>rw [hb] at hs'; exact hx i s' hE hs'
  | _=>simp only [wpT] at h
 | loop a iha=>
  intro an s K K' hn hx hr h;cases an with
  | lp σ p=>
   simp only [wpT] at h ⊢;have hEp:=fC σ.sp s
   generalize prep σ.sp s=s1 at h hEp;split at h
   ·split at h
    ·obtain ⟨n,hl⟩:=h;refine ⟨n,xR (fun R R' hR v hv=>?_) n _ hl⟩;have hE:=hEp.trans (wg σ s1 v)
     exact iha p _ ⟨jn σ s1 R,K.x,K.r⟩ ⟨jn σ s1 R',K'.x,K'.r⟩ (fun s2 _ h=>UA hR h) (fun i s2 h2=>hx i s2 (hE.trans h2)) (fun s2 h2=>hr s2 (hE.trans h2)) hv
    ·exact h.elim
   ·exact h.elim
  | un n p=>
   simp only [wpT] at h ⊢;have key:∀ n (s1:St),Ext s s1->pD (fun R s'=>wpT e p a s' ⟨R,K.x,K.r⟩) n s1->pD (fun R s'=>wpT e p a s' ⟨R,K'.x,K'.r⟩) n s1:=by
    intro n;induction n with
    | zero=>intro s1 _ h; exact h.elim
    | succ n ih=>
     intro s1 hE h;exact iha p s1 ⟨pD (fun R s'=>wpT e p a s' ⟨R,K.x,K.r⟩) n,K.x,K.r⟩ ⟨pD (fun R s'=>wpT e p a s' ⟨R,K'.x,K'.r⟩) n,K'.x,K'.r⟩ (fun s2 h2 hs2=>ih s2 (hE.trans h2) hs2) (fun i s2 h2=>hx i s2 (hE.trans h2)) (fun s2 h2=>hr s2 (hE.trans h2)) h
   exact key n s (Ext.refl s) h
  | _=>simp only [wpT] at h
 | _=>intro an s K K' hn hx hr h; cases an <;> simp only [wpT] at h
theorem lj {P:Program} {g:G} {c:Code} {Q Q':Exit->S->Prop} {s:S} (h:AW P g c Q s) (hq:∀ e s' a w,Q e s'->R g s' a w->∃ s'',Q' e s''/\R g s'' a w):AW P g c Q' s:=fun a w hR=>
 Code.wp_mono (fun e a' w' ⟨s',h1,h2⟩=>hq e s' a' w' h1 h2) (h a w hR)
theorem jj {e:En} (he:e.ok) (hm:e.P.follows .mixedOrders=true) {g:G}:∀ (c:Code) (an:An) (s:St) (K:Kt),eX g.nt c=true->wpT e an c s K->AW e.P g c (LQ e.pk K) s.toS:=by
 intro c;induction c with
 | skip=>intro an s K hc h; simp only [wpT] at h; exact Lk ⟨s,rfl,h⟩
 | exit i=>intro an s K hc h; simp only [wpT] at h; exact Th ⟨s,rfl,h⟩
 | ret=>intro an s K hc h; simp only [wpT] at h; exact V9 ⟨s,rfl,h⟩
 | region id ops dr=>
  intro an s K hc h;obtain ⟨l⟩:=ops;cases dr with
  | false=>
   simp only [wpT] at h;exact oz (l7 he VI hc h (fun t ht=>⟨t,rfl,ht⟩))
  | true=>
   simp only [wpT] at h;simp only [eX,YV] at hc;exact Pv he VI hm hc.1 hc.2 (fun t ht=>⟨t,rfl,ht⟩) h
 | seq a b iha ihb=>
  intro an s K hc h;simp only [eX,YV] at hc;cases an with
  | s p q=>
   simp only [wpT] at h;refine sD (AW.mono (iha p s _ hc.1 h) (fun e' s' h'=>?_));cases e' with
   | normal=>obtain ⟨t,rfl,ht⟩:=h'; exact ihb (q.pick t) t K hc.2 ht
   | exit i=>exact h'
   | ret=>exact h'
   | panic c=>exact h'
   | _=>exact h'
  | j σ p q=>
   simp only [wpT] at h;have h1:=h _ (fun v hv=>hv)
   have h2:=vJ he a p s ⟨jn σ s (fun v=>wpT e q b (σ.st s v) K),K.x,K.r⟩ ⟨fun s'=>Ext s s'/\jn σ s (fun v=>wpT e q b (σ.st s v) K) s',K.x,K.r⟩ (fun s' hE hs'=>⟨hE,hs'⟩) (fun _ _ _ h=>h) (fun _ _ h=>h) h1
   refine sD (AW.mono (iha p s _ hc.1 h2) (fun e' s' h'=>?_));cases e' with
   | normal=>
    obtain ⟨t,rfl,hE,ht⟩:=h';intro a' w' hR;obtain ⟨v,hv,hR'⟩:=V2 hE ht hR;exact ihb q _ K hc.2 hv a' w' hR'
   | exit i=>exact h'
   | ret=>exact h'
   | panic c=>exact h'
   | _=>exact h'
  | _=>simp only [wpT] at h
 | cond t a b iha ihb=>
  intro an s K hc h;cases an with
  | c p q=>
   cases t with
   | tmp t=>
    simp only [eX,YV] at hc;simp only [wpT] at h;split at h
    ·rename_i c hcc;refine Bq (gn hcc) (fun hb=>?_) (fun hb=>?_) (YZ hc.1)
     ·subst hb; rw [if_pos rfl] at h; exact iha p s K hc.2.1 h
     ·subst hb; rw [if_neg (by simp)] at h; exact ihb q s K hc.2.2 h
    ·exact h.elim
   | _=>simp only [wpT] at h
  | _=>cases t <;> simp only [wpT] at h
 | block id a iha=>
  intro an s K hc h;cases an with
  | b p=>
   simp only [wpT] at h;refine Pu (AW.mono (iha p s _ hc h) (fun e' s' h'=>?_));cases e' with
   | normal=>exact h'
   | exit i=>
    obtain ⟨t,rfl,ht⟩:=h';simp only [Jc];dsimp only at ht;cases hb:Nat.beq i id with
    | true=>
     rw [hb] at ht;rw [if_pos (Y1 hb)];exact ⟨t,rfl,ht⟩
    | false=>
     rw [hb] at ht;rw [if_neg (fun e=>by rw [e,aa1] at hb; cases hb)];exact ⟨t,rfl,ht⟩
   | ret=>exact h'
   | _=>exact h'
  | _=>simp only [wpT] at h
 | loop a iha=>
  intro an s K hc h;cases an with
  | lp σ p=>
   simp only [wpT] at h;have hRp:∀ a' w',R g s.toS a' w'->R g (prep σ.sp s).toS a' w':=fun a' w' hR=>ml σ.sp hR
   generalize prep σ.sp s=s1 at h hRp;split at h
   ·rename_i hf;split at h
    ·rename_i x0 hx0;obtain ⟨n,hl⟩:=h;intro a0 w0 hR0;have hj:jn1 σ s1 (fun v=>v=x0) s1:=⟨hf,x0,hx0,rfl⟩
     obtain ⟨v,rfl,hR1⟩:=Rr (Ext.refl s1) hj (hRp _ _ hR0);refine Lj (fun n S'=>∃ v,nT (fun R v=>wpT e p a (σ.st s1 v) ⟨jn σ s1 R,K.x,K.r⟩) n v/\S'=(σ.st s1 v).toS) n ⟨v,hl,rfl⟩ (fun n S' hS=>?_) a0 w0 hR1
     ·obtain ⟨v,hv,rfl⟩:=hS;cases n with
      | zero=>exact hv.elim
      | succ n=>
       have h2:=vJ he a p (σ.st s1 v) ⟨jn σ s1 (nT (fun R v=>wpT e p a (σ.st s1 v) ⟨jn σ s1 R,K.x,K.r⟩) n),K.x,K.r⟩ ⟨fun s'=>Ext (σ.st s1 v) s'/\jn σ s1 (nT (fun R v=>wpT e p a (σ.st s1 v) ⟨jn σ s1 R,K.x,K.r⟩) n) s',K.x,K.r⟩ (fun s' hE hs'=>⟨hE,hs'⟩) (fun _ _ _ h=>h) (fun _ _ h=>h) hv
       refine lj (iha p _ _ hc h2) (fun e' s' a' w' h' hR'=>?_);cases e' with
       | normal=>
        obtain ⟨t,rfl,hE,ht⟩:=h';obtain ⟨v',hv',hR2⟩:=V2 ((wg σ s1 v).trans hE) ht hR';exact ⟨_,⟨n,Nat.lt_succ_self n,v',hv',rfl⟩,hR2⟩
       | exit i=>exact ⟨s',h',hR'⟩
       | ret=>exact ⟨s',h',hR'⟩
       | panic c=>exact ⟨s',h',hR'⟩
       | _=>exact h'.elim
    ·exact h.elim
   ·exact h.elim
  | un n p=>
   simp only [wpT] at h;refine Lj (fun n S'=>∃ t:St,S'=t.toS/\pD (fun R s'=>wpT e p a s' ⟨R,K.x,K.r⟩) n t) n ⟨s,rfl,h⟩ (fun n S' hS=>?_);obtain ⟨t,rfl,ht⟩:=hS;cases n with
   | zero=>exact ht.elim
   | succ n=>
    refine lj (iha p t ⟨pD (fun R s'=>wpT e p a s' ⟨R,K.x,K.r⟩) n,K.x,K.r⟩ hc ht) (fun e' s' a' w' h' hR'=>?_);cases e' with
    | normal=>
     obtain ⟨t2,rfl,ht2⟩:=h';exact ⟨_,⟨n,Nat.lt_succ_self n,t2,rfl,ht2⟩,hR'⟩
    | exit i=>exact ⟨s',h',hR'⟩
    | ret=>exact ⟨s',h',hR'⟩
    | panic c=>exact ⟨s',h',hR'⟩
    | _=>exact h'.elim
  | _=>simp only [wpT] at h
 | _=>intro an s K hc h; cases an <;> simp only [wpT] at h
def dN:(us:List U)->Fl us->List AV
 | [],_=>[]
 | u::r,x=>(yG u (Fl.hd u r x)).toV::dN r (Fl.tl u r x)
def tf:(us:List U)->Fl us->List AV1
 | [],_=>[]
 | u::r,x=>(zB u (Fl.hd u r x)).toV::tf r (Fl.tl u r x)
theorem sx (u:U) (x:El u):yG u x=.one (zB u x):=by cases u <;> rfl
theorem p9 {u:U} {v:At} {x:El u} (h:nJ u v=some x):v.noRf=true/\v.toV.isFz=true:=by
 have cl:∀ {ts:List Tt} {cs:List C},CL ts cs->ts.all Tt.noRf=true/\(ts.map Tt.toT).all T.isFz=true:=by
  intro ts;induction ts with
  | nil=>exact fun _=>⟨rfl,rfl⟩
  | cons t ts ih=>
   intro cs hc;cases cs with
   | nil=>exact hc.elim
   | cons c cs=>
    obtain ⟨h1,h2⟩:=ih hc.2;rcases hc.1 with (rfl | ⟨rfl,_⟩) | ⟨rfl,_⟩
    ·exact ⟨by simp only [Zb,h1]; rfl,by simp only [List.map_cons,Zb,h2]; rfl⟩
    ·exact ⟨by simp only [Zb,h1]; rfl,by simp only [List.map_cons,Zb,h2]; rfl⟩
    ·exact ⟨by simp only [Zb,h1]; rfl,by simp only [List.map_cons,Zb,h2]; rfl⟩
 unfold nJ at h;split at h
 ·unfold QY at h;split at h
  ·split at h
   ·obtain ⟨h1,h2⟩:=cl (iR h);refine ⟨?_,?_⟩
    ·rename_i t _ _; show t.noRf=true; simpa using h1
    ·rename_i t _ _; show t.toT.isFz=true; simpa using h2
   ·cases h
  ·split at h
   ·cases h
   ·obtain ⟨h1,h2⟩:=cl (iR h);exact ⟨h1,h2⟩
 ·cases h
theorem cR:∀ {us:List U} {vs:List At} {x:Fl us},bq us vs=some x->vs.all At.noRf=true/\(vs.map At.toV).all AV.isFz=true/\(vs.map At.toV).map (AV.map T.canon)=dN us x
 | [],[],_,_=>⟨rfl,rfl,rfl⟩
 | u::r,v::vs,x,h=>by
  simp only [bq] at h;cases h1:nJ u v with
  | none=>rw [h1] at h; cases h
  | some a=>
   cases h2:bq r vs with
   | none=>rw [h1,h2] at h; cases h
   | some b=>
    rw [h1,h2] at h;simp only [YT] at h;subst h;obtain ⟨i1,i2,i3⟩:=cR h2;obtain ⟨k1,k2⟩:=p9 h1;refine ⟨by simp only [Zb,k1,i1,aaQ],by simp only [List.map_cons,Zb,k2,i2,aaQ],?_⟩;simp only [List.map_cons,dN,rM,sr,i3,(xl h1).1]
 | [],_::_,_,h=>by simp [bq] at h
 | _::_,[],_,h=>by simp [bq] at h
section
variable {P:Program}
theorem cK {s:St} {ops:List Operand} (h:ops.all au=true):ops.map (ev s.toS)=(ops.map (evA s)).map At.toV:=by
 rw [Y9];exact Zc fun x hx=>ac (Y6.1 h x hx)
theorem uq {f:Nat} {φ:List AV->(AV->Prop)->Prop} {ps rs:List U} {pre:Fl ps->Prop} {F:Fl ps->Fl rs} (hφ:∀ x K,pre x->K (bw rs (F x)).toV->φ (dN ps x) K) (h:Con P f (n4 φ)):Cont P f (bg ps rs pre F):=by
 refine ⟨h.run,fun pk s ops k k' hk hc=>?_,fun g pk s a w H γ F1 ops k hX hops hc=>?_⟩
 ·unfold bg at hc ⊢;dsimp only at hc ⊢;split at hc
  ·exact ⟨hc.1,hk _ _ (bz _ _) hc.2⟩
  ·exact hc.elim
 ·unfold bg at hc;dsimp only at hc;obtain ⟨H1,F2,h1⟩:=cg (ops.map (evA s)) s H F1 hX;generalize bm s (ops.map (evA s))=s1 at hc h1;split at hc
  ·rename_i x hx;obtain ⟨c1,c2,c3⟩:=cR hx;refine Calls.mono (h.call g s1.toS a w H1 γ F2 ops (fun s' av=>∃ t v',SEq s' t.toS/\av=v'.toV/\k t v') h1 hops ?_) ?_
   ·unfold n4;dsimp only;rw [cK hops,dc c1];have e:(ops.map fun x=>(ev s1.toS x).map T.canon)=(ops.map (ev s1.toS)).map (AV.map T.canon):=by rw [Y9]; rfl
    rw [e,cK hops];refine ⟨c2,?_⟩;rw [c3];exact hφ x _ hc.1 ⟨s1,_,⟨fun _=>rfl,rfl⟩,rfl,hc.2⟩
   ·rintro e w' ⟨r,s',av,H',γ',F',k1,⟨t,v',e1,rfl,k2⟩,k3,k4⟩
    refine .inl ⟨r,t,v',H',γ',F',k1,k2,?_,aR e1 k4⟩;rw [e1.2] at k3;exact k3
  ·exact hc.elim
theorem Bu {f:Nat} {ps rs:List U} {F:Fl ps->Fl rs} (h:Cont P f (bg ps rs (fun _=>True) F)):Cont P f (ay ps rs F):=by
 have e:∀ pk s ops k,ay ps rs F pk s ops k->bg ps rs (fun _=>True) F pk s ops k:=by
  intro pk s ops k hc;unfold ay at hc;unfold bg;dsimp only at hc ⊢;split at hc
  ·exact ⟨trivial,hc⟩
  ·exact hc.elim
 refine ⟨h.run,fun pk s ops k k' hk hc=>?_,fun g pk s a w H γ F1 ops k hX hops hc=>h.call g pk s a w H γ F1 ops k hX hops (e _ _ _ _ hc)⟩;unfold ay at hc ⊢;dsimp only at hc ⊢;split at hc
 ·exact hk _ _ (bz _ _) hc
 ·exact hc.elim
theorem cn {s:St}:∀ {rs:List ResultVar} {k:List At->Prop},(∀ vs,¬ k vs)->¬ cy P s rs k
 | [],k,hk,h=>hk _ h
 | r::rs,k,hk,h=>by
  have key:∀ v,¬ cy P s rs (fun vs=>k (v::vs)):=fun v=>cn fun vs=>hk _
  simp only [cy] at h;unfold kK at h;cases r with
  | tmp t=>exact key _ h
  | cell a t=>
   dsimp only at h;split at h
   ·split at h
    ·split at h
     ·exact loadT_false key h
     ·exact h
    ·exact h
   ·exact h
where
 loadT_false {m:List (Nm×Nat×Rt)} {t:TypeId} {x:At} {k:At->Prop} (hk:∀ v,¬ k v) (h:jL P m t x k):False:=by
  unfold jL at h;split at h
  ·split at h
   ·split at h <;> split at h <;> first | exact hk _ h | exact h
   ·split at h
    ·exact hk _ h.2
    ·exact h
   ·split at h <;> split at h <;> first | exact hk _ h | exact h
   ·exact h
  ·exact h
theorem ii {s:St} (hop:∀ p i,gtA s.t i=.one (.c (.pl p))->okP (toM s.m) p):∀ {rs:List ResultVar} {us:List U} {K:Fl us->Prop} {k:List At->Prop},(∀ vs,k vs->∃ x,bq us vs=some x/\K x)->cy P s rs k ->
  dR P s.toS rs (fun xs=>∃ x:Fl us,xs.map (·.map T.canon)=tf us x/\xs.all AV1.isFz=true/\K x)
 | [],us,K,k,hk,h=>by
  obtain ⟨x,hx,hK⟩:=hk _ h;cases us with
  | nil=>exact ⟨x,rfl,rfl,hK⟩
  | cons u us=>simp [bq] at hx
 | r::rs,us,K,k,hk,h=>by
  simp only [cy] at h;simp only [dR];have step:∀ {v:At},cy P s rs (fun vs=>k (v::vs))->(match v.toV with
    | .one x=>dR P s.toS rs fun xs=>∃ y:Fl us,(x::xs).map (·.map T.canon)=tf us y/\(x::xs).all AV1.isFz=true/\K y
    | _=>False):=by
   intro v hv;cases us with
   | nil=>exact (cn (fun vs hvs=>by obtain ⟨x,hx,_⟩:=hk _ hvs; simp [bq] at hx) hv).elim
   | cons u us=>
    cases hc:nJ u v with
    | none=>exact (cn (fun vs hvs=>by obtain ⟨x,hx,_⟩:=hk _ hvs; simp only [bq,hc] at hx; cases hx) hv).elim
    | some a=>
     obtain ⟨c1,_⟩:=xl hc;obtain ⟨_,c3⟩:=p9 hc;have ih:=ii hop (us:=us) (K:=fun y=>K (Fl.cons u us a y)) (fun vs hvs=>by
      obtain ⟨x,hx,hK⟩:=hk _ hvs;simp only [bq,hc] at hx;cases h2:bq us vs with
      | none=>rw [h2] at hx; cases hx
      | some b=>rw [h2] at hx; simp only [YT] at hx; subst hx; exact ⟨b,rfl,hK⟩) hv
     rw [sx] at c1;cases v with
     | one x=>
      refine resGets_mono ?_ ih;rintro xs ⟨y,e1,e2,hK⟩
      refine ⟨_,?_,?_,hK⟩
      ·simp only [List.map_cons,tf,rM,sr,e1];simp only [At.toV,AV.map,AV.one.injEq] at c1;rw [c1]
      ·simp only [Zb,e2,aaW]; exact c3
     | tup _=>simp [nJ] at hc
     | any=>simp [nJ] at hc
  cases r with
  | tmp t=>
   simp only [kK] at h;simp only [ub];rw [show aG s.toS.t t=(gtA s.t t).toV from bZ t s.t];exact step h
  | cell a t=>
   simp only [kK] at h;simp only [ub];split at h
   ·rename_i p hp;split at h
    ·split at h
     ·have hl:=xQ (m:=s.m) (x:=gtA s.t a) (fun q hq=>hop q a hq) h
      rw [show aG s.toS.t a=(gtA s.t a).toV from bZ a s.t];refine loadK_mono ?_ hl;rintro _ ⟨v,rfl,hv⟩
      exact step hv
     ·exact h.elim
    ·exact h.elim
   ·exact h.elim
where
 loadK_mono {m:Mm} {t:TypeId} {x:AV} {k k':AV->Prop} (hk:∀ v,k v->k' v) (h:rQ P m t x k):rQ P m t x k':=by
  unfold rQ at h ⊢;refine ⟨h.1,?_⟩
  replace h:=h.2
  split at h
  ·split at h
   ·rename_i ha; rw [if_pos ha]; exact ⟨h.1,fun hh=>hk _ (h.2 hh)⟩
   ·rename_i ha;rw [if_neg ha];split at h
    ·exact fun hh=>hk _ (h hh)
    ·exact h.elim
  ·split at h
   ·rename_i ha; rw [if_pos ha]; exact atK_mono (fun ts hts hh=>hk _ (hts hh)) h
   ·rename_i ha;rw [if_neg ha];refine atK_mono (fun ts hts=>?_) h;split at hts
    ·exact fun hh=>hk _ (hts hh)
    ·exact hts.elim
  ·exact h.elim
 atK_mono {m:Mm} {p:Pl} {n:Nat} {k k':List T->Prop} (hk:∀ v,k v->k' v) (h:atK m p n k):atK m p n k':=by
  unfold atK at h ⊢;split at h
  ·exact h.elim
  ·split at h
   ·exact ⟨h.1,hk _ h.2⟩
   ·exact inK_mono hk h
   ·exact h.elim
 inK_mono {k k':List T->Prop} (hk:∀ v,k v->k' v):∀ {path:List Step} {sub:List Sh} {l:List (List D)} {n:Nat},inK sub l n path k->inK sub l n path k'
  | [],_,_,_,h=>h.elim
  | [st],sub,l,n,h=>by
   simp only [inK] at h ⊢;refine ⟨h.1,?_⟩
   replace h:=h.2
   split at h
   ·exact hk _ h
   ·exact h.elim
  | st::st'::r,sub,l,n,h=>by
   simp only [inK] at h ⊢;split at h
   ·split at h
    ·exact inK_mono hk h
    ·exact h.elim
   ·exact h.elim
 resGets_mono {s:S}:∀ {rs:List ResultVar} {k k':List AV1->Prop},(∀ v,k v->k' v)->dR P s rs k->dR P s rs k'
  | [],k,k',hk,h=>hk _ h
  | r::rs,k,k',hk,h=>by
   simp only [dR] at h ⊢;have st:∀ v:AV,(match v with | .one x=>dR P s rs fun xs=>k (x::xs) | _=>False)->(match v with | .one x=>dR P s rs fun xs=>k' (x::xs) | _=>False):=by
    intro v hv;cases v with
    | one x=>exact resGets_mono (fun xs=>hk _) hv
    | _=>exact hv
   cases r with
   | tmp t=>exact st _ h
   | cell a t=>exact loadK_mono st h
theorem C3 {s:S} {rs:List ResultVar} {us:List U} {K:AV->Prop} {Q:Fl us->Prop} (hfrz:eI s rs=s) (hQ:∀ x,Q x->K (bw us x).toV) (h:dR P s rs (fun xs=>∃ x:Fl us,xs.map (·.map T.canon)=tf us x/\xs.all AV1.isFz=true/\Q x)):qx P s rs K:=by
 unfold qx;rw [hfrz];refine ii.resGets_mono ?_ h;rintro xs ⟨x,e1,e2,hq⟩
 have hK:=hQ x hq
 have resL_eq:∀ (us:List U) (x:Fl us),(bw.resL us x).map A1.toV=tf us x:=by
  intro us;induction us with
  | nil=>intro _; rfl
  | cons u r ih=>intro x; simp only [bw.resL,List.map_cons,tf,ih]
 match xs,e2,us,x,e1,hK with
 | [],_,[],x,_,hK=>exact ⟨rfl,hK⟩
 | [y],e2,[u],x,e1,hK=>
  simp only [List.map_cons,List.map_nil,tf,List.cons.injEq,and_true] at e1;refine ⟨by simpa using e2,?_⟩;rw [e1];have:(bw [u] x).toV=.one (zB u (Fl.hd u [] x)).toV:=by show (yG u x).toV=_; rw [sx]; rfl
  rw [<- this]; exact hK
 | y::y'::ys,e2,u::v::r,x,e1,hK=>
  refine ⟨e2,?_⟩;rw [e1,<- resL_eq]; exact hK
 | [],_,_::_,_,e1,_=>simp [tf] at e1
 | [_],_,[],_,e1,_=>simp [tf] at e1
 | [_],_,_::_::_,_,e1,_=>simp [tf] at e1
 | _::_::_,_,[],_,e1,_=>simp [tf] at e1
 | _::_::_,_,[_],_,e1,_=>simp [tf] at e1
end
section
variable {P:Program}
theorem RP {m:List (Nm×Nat×Rt)} {t:TypeId} {x:At} {k:At->Prop} (h:jL P m t x k):∃ v,k v:=by
 rcases Classical.em (∃ v,k v) with hh | hh
 ·exact hh
 ·exact (cn.loadT_false (fun v hv=>hh ⟨v,hv⟩) h).elim
theorem Sf {t:Tt} (h:t.owned=false):∀ sub l,t.toT≠.ow sub l:=by
 cases t with
 | ow _ _ _=>cases h
 | _=>intro _ _ h; cases h
theorem xC {s:St} {n:Nm} {r:Rt} (hr:aY s.m n=some r) (hh:r.hole=none) (hc:r.cells.all (fun t=>!t.owned)=true):∀ i,mD s.toS n i=s.toS
 | 0=>rfl
 | i+1=>by
  simp only [mD];rw [xC hr hh hc i];unfold Fb;have e:aP s.toS.m ⟨n,i,[]⟩=(r.cells.map Tt.toT)[i]? := by
   unfold aP;rw [show aa s.toS.m n=some r.toR from aM hr];show (holed (r.cells.map Tt.toT) r.hole)[i]? = _
   rw [hh]; rfl
  rw [e,YW];cases hi:r.cells[i]? with
  | none=>rfl
  | some t=>
   have:=Y6.1 hc t (Zi hi)
   have ho:t.owned=false:=by simpa using this
   have hne:=Sf ho
   simp only [Option.map_some];cases ht:t.toT with
   | ow sub l=>exact (hne _ _ ht).elim
   | _=>rfl
theorem mC {s:St}:∀ {rs:List ResultVar} {us:List U} {k:List At->Prop},(∀ vs,k vs->∃ x,bq us vs=some x)->cy P s rs k->eI s.toS rs=s.toS
 | [],_,_,_,_=>rfl
 | r::rs,us,k,hk,h=>by
  simp only [cy] at h;have step:∀ {v:At},cy P s rs (fun vs=>k (v::vs))->v.noRf=true/\eI s.toS rs=s.toS:=by
   intro v hv;cases us with
   | nil=>exact (cn (fun vs hvs=>by obtain ⟨x,hx⟩:=hk _ hvs; simp [bq] at hx) hv).elim
   | cons u us=>
    cases hc:nJ u v with
    | none=>exact (cn (fun vs hvs=>by obtain ⟨x,hx⟩:=hk _ hvs; simp only [bq,hc] at hx; cases hx) hv).elim
    | some a=>
     exact ⟨(p9 hc).1,mC (us:=us) (fun vs hvs=>by
      obtain ⟨x,hx⟩:=hk _ hvs;simp only [bq,hc] at hx;cases h2:bq us vs with
      | none=>rw [h2] at hx; cases hx
      | some b=>exact ⟨b,rfl⟩) hv⟩
  simp only [eI];cases r with
  | tmp t=>
   simp only [kK] at h;obtain ⟨h1,h2⟩:=step h;have e:nP s.toS (.tmp t)=s.toS:=by
    simp only [nP];rw [show aG s.toS.t t=(gtA s.t t).toV from bZ t s.t];exact tG h1
   rw [e]; exact h2
  | cell a t=>
   simp only [kK] at h;split at h
   ·rename_i p hp;split at h
    ·rename_i r hr;split at h
     ·rename_i hb;simp only [YV,Option.isNone_iff_eq_none] at hb;obtain ⟨v,hv⟩:=RP h;have e:nP s.toS (.cell a t)=s.toS:=by
       simp only [nP];rw [gn hp];simp only [At.toV,A1.toV,Tt.toT];rw [show aa s.toS.m p.root=some r.toR from aM hr];exact xC hr hb.1 hb.2 _
      rw [e]; exact (step hv).2
     ·exact h.elim
    ·exact h.elim
   ·exact h.elim
variable {g:G} {a:Act} {w:World}
theorem wF {s:St} (h:R g s.toS a w) (n:Nm):∀ i,R g (xB s n i).toS a w
 | 0=>h
 | i+1=>LN (wF h n i) _
theorem M9 {s:St} (h:R g s.toS a w) (r:ResultVar):R g (Ca s r).toS a w:=by
 cases r with
 | tmp t=>exact LM h _
 | cell a' t=>
  simp only [Ca];split
  ·split
   ·exact wF h _ _
   ·exact h
  ·exact h
theorem mj:∀ (rs:List ResultVar) {s:St},R g s.toS a w->R g (g8 s rs).toS a w
 | [],_,h=>h
 | r::rs,_,h=>mj rs (M9 h r)
theorem R6 {s:St} (h:R g s.toS a w):∀ p i,gtA s.t i=.one (.c (.pl p))->okP (toM s.m) p:=by
 intro p i e;obtain ⟨H,γ,F,hX⟩:=h;have:=hX.t i
 rw [gn e] at this;obtain ⟨_,h1,_⟩:=this;exact Kj h1
theorem mM {rs:List ResultVar} {us:List U} {KK:Fl us->Prop} {K:AV->Prop} {t:St} (hK:∀ r,KK r->K (bw us r).toV) (h:qy P rs us KK t) (hR:R g t.toS a w):∃ s'',qx P s'' rs K/\R g s'' a w:=by
 unfold qy at h;have hR1:=mj rs hR
 refine ⟨_,C3 (us:=us) (Q:=KK) (mC (us:=us) ?_ h) hK (ii (R6 hR1) ?_ h),hR1⟩
 ·intro vs hvs;split at hvs
  ·rename_i x hx; exact ⟨x,hx⟩
  ·exact hvs.elim
 ·intro vs hvs;split at hvs
  ·rename_i x hx; exact ⟨x,hx,hvs⟩
  ·exact hvs.elim
theorem gW:∀ (i:Nat) (us:List U) (x:Fl us),(vg i us x).map (fun y=>(y.1,y.2.2.toV))=aS i (dN us x)
 | _,[],_=>rfl
 | i,u::r,x=>by simp only [vg,List.map_cons,dN,aS,gW (i+1) r]
theorem cv:∀ (us:List U) (x:Fl us),(dN us x).length=us.length
 | [],_=>rfl
 | u::r,x=>by simp only [dN,Y5,cv r]
end
theorem Ab {e:En} (he:e.ok) (hm:e.P.follows .mixedOrders=true) {f:Nat} {fn:Func} (hf:e.P.funcs[f]? = some fn) (hname:(fn.name == "runtime.NumGoroutine")=false) (hb:fn.body.isSome=true) {an:An} {ps rs:List U} {pre:Fl ps->Prop} {F:Fl ps->Fl rs}
  (hlen:Nat.ble ps.length fn.ntmps=true) (hc:eX fn.ntmps (fn.body.getD .skip)=true) (law:∀ x,pre x->∀ KK:Fl rs->Prop,KK (F x)->ao e fn an ps rs x KK):Cont e.P f (bg ps rs pre F):=by
 have hb':fn.body=some (fn.body.getD .skip):=by cases h:fn.body with
  | none=>rw [h] at hb; cases hb
  | some c=>rfl
 refine uq (φ:=fun avs K=>∃ x:Fl ps,avs=dN ps x/\pre x/\K (bw rs (F x)).toV) (fun x K hp hk=>⟨x,rfl,hp,hk⟩)
  (wa hf hname hb' _ (fun avs K ⟨x,hx,_,_⟩=>by rw [hx,cv]; exact YZ hlen) (fun g avs K hg ⟨x,hx,hp,hk⟩=>?_))
 subst hx;have h:=law x hp (fun r=>r=F x) rfl
 have h1:=jj (e:=⟨e.P,e.E,e.cs,e.sh,fun _ _=>False⟩) he hm (g:=g) _ an (xt ps x) _ (by rw [hg]; exact hc) h
 have e0:(xt ps x).toS=⟨aS 0 (dN ps x),[]⟩:=aU.S_ext (gW 0 ps x) rfl
 rw [e0] at h1;refine lj h1 (fun ex s' a w h' hR=>?_);cases ex with
 | normal=>
  obtain ⟨t,rfl,ht⟩:=h';exact mM (fun r hr=>by rw [hr]; exact hk) ht hR
 | ret=>
  obtain ⟨t,rfl,ht⟩:=h';exact mM (fun r hr=>by rw [hr]; exact hk) ht hR
 | exit i=>exact h'.elim (fun t ht=>ht.2.elim)
 | panic c=>obtain ⟨_,_,_,_,hf⟩:=h'; exact hf.elim
 | _=>exact h'.elim
theorem wc {e:En} (he:e.ok) (hm:e.P.follows .mixedOrders=true) {f:Nat} {fn:Func} (hf:e.P.funcs[f]? = some fn) (hname:(fn.name == "runtime.NumGoroutine")=false) (hb:fn.body.isSome=true) {an:An} {ps rs:List U} {F:Fl ps->Fl rs}
  (hlen:Nat.ble ps.length fn.ntmps=true) (hc:eX fn.ntmps (fn.body.getD .skip)=true) (law:∀ x,∀ KK:Fl rs->Prop,KK (F x)->ao e fn an ps rs x KK):Cont e.P f (ay ps rs F):=
 Bu (Ab he hm hf hname hb hlen hc (fun x _=>law x))
def KE (s:S) (rs:List ResultVar) (K:List Sh->List (List D)->Prop):Prop:=
 match rs with
 | [.tmp t]=>match aG s.t t with
  | .one (.c (.rf ⟨n,0,[]⟩))=>match aa s.m n with
   | some ⟨false,[.ow sub l]⟩=>K sub l
   | _=>False
  | _=>False
 | _=>False
def XW (rs:List ResultVar) (K:List Sh->List (List D)->Prop):Exit->S->Prop
 | .normal,s=>KE s rs K
 | .ret,s=>KE s rs K
 | _,_=>False
def Sd (φ:List AV->List Sh->List (List D)->(List (List D)->Prop)->Prop):CK1:=fun s ops k=>
 match ops with
 | []=>False
 | o::os=>
  let s1:=iE s (os.map (ev s))
  match ev s1 o with
  | .one (.c (.rf ⟨r,0,[]⟩))=>match aa s1.m r with
   | some ⟨false,[.ow sub l]⟩=>(os.map (ev s1)).all AV.isFz=true /\
     φ (os.map fun x=>(ev s1 x).map T.canon) sub l (fun l'=>k ⟨jK (aJ r) s1.t,(r,⟨false,[.ow sub l']⟩)::aw (aJ r) (be s1.m r)⟩ (.one (.c (.rf ⟨r,0,[]⟩))))
   | _=>False
  | _=>False
section
variable {P:Program}
theorem Tj {f:Nat} {fn:Func} {c:Code} (hf:P.funcs[f]? = some fn) (hname:(fn.name == "runtime.NumGoroutine")=false) (hb:fn.body=some c) (φ:List AV->List Sh->List (List D)->(List (List D)->Prop)->Prop)
  (hlen:∀ avs sub l K,φ avs sub l K->avs.length+1<=fn.ntmps)
  (hbody:∀ (g:G) avs sub l K,g.nt=fn.ntmps->φ avs sub l K->AW P g c (XW fn.results.toList (fun sub' l'=>sub'=sub/\K l')) ⟨aS 0 (.one (.c (.rf ⟨.out 0,0,[]⟩))::avs),[(.out 0,⟨false,[.ow sub l]⟩)]⟩):Con P f (Sd φ):=by
 refine ⟨fun args w=>?_,?_⟩
 ·have h1:fn.name ≠ "runtime.NumGoroutine" := by simpa using hname
  simp [callFunc,hf,h1,hb]
 ·intro g s a w H γ F ops k hX hops hK;cases ops with
  | nil=>exact hK.elim
  | cons o os=>
  unfold Sd at hK;dsimp only at hK;obtain ⟨H1,F1,h1⟩:=ju (os.map (ev s)) s H F hX;generalize iE s (os.map (ev s))=s1 at hK h1;have hops':au o=true/\os.all au=true:=by simpa using hops
  split at hK
  rotate_left
  ·exact hK.elim
  rename_i r heo;split at hK
  rotate_left
  ·exact hK.elim
  rename_i sub l hroot;obtain ⟨hfz,hφ⟩:=hK;have hevo:=az h1 hops'.1
  rw [heo] at hevo;obtain ⟨_,hokr,hval⟩:=hevo;have hR:=h1.mem.roots _ (ab hroot)
  have hR2:=hR
  unfold aW at hR2;rw [if_neg (by simp)] at hR2;obtain ⟨v0,t0,hγr,hcells,hTR⟩:=hR2;simp only [List.cons.injEq,and_true] at hcells;subst hcells;have hv0:a.eval o=v0:=by
   simp only [plV,hγr,ap] at hval
   first | exact (Option.some.inj hval).symm | (simp at hval; exact hval.symm)
  have hle:=hlen _ _ _ _ hφ
  rw [YX] at hle
  let γc:Gam:=fun n=>if n=.out 0 then .gh v0 else γ n
  let mc:Mm:=[(.out 0,⟨false,[.ow sub l]⟩)]
  let g1:G:=⟨fn.ntmps,w,H1,F1 r,fun _=>none,none,[]⟩
  have hγc:γc (.out 0)=.gh v0:=by simp [γc]
  have hRc:aW w H1 γc mc (.out 0) ⟨false,[.ow sub l]⟩ (F1 r):=by
   unfold aW;rw [if_neg (by simp)];exact ⟨v0,_,hγc,rfl,hTR⟩
  have hge:∀ c,F1 r c<=tot F1 s1.m c:=fun c=>aN (F:=F1) (ab hroot) c
  let Fc:Nm->Fp:=fun _=>F1 r
  have htc:∀ c,tot Fc mc c=F1 r c:=fun c=>(aaM (F1 r c))
  have hmc:Mem w H1 γc mc Fc:=by
   refine ⟨h1.mem.agree,fun x hx=>?_,by simp [mc],fun c=>by rw [htc]; exact ZK (hge c) (h1.mem.le1 c),fun c hc=>by rw [htc] at hc; exact h1.mem.lt c (by have:=hge c; omega),fun c hc=>by rw [htc] at hc; exact h1.mem.nofz c (by have:=hge c; omega)⟩;simp only [mc,Y3] at hx;subst hx;exact hRc
  refine calls_of_wp hf hb (Code.wp_mono (fun e a' w' hl=>?_) (hbody g1 _ _ _ _ rfl hφ _ w ⟨H1,γc,Fc,?_⟩))
  ·obtain ⟨s',hq,H',γ',F',hX'⟩:=hl;have fin:KE s' fn.results.toList (fun sub' l'=>sub'=sub/\k ⟨jK (aJ r) s1.t,(r,⟨false,[.ow sub l']⟩)::aw (aJ r) (be s1.m r)⟩ (.one (.c (.rf ⟨r,0,[]⟩)))) ->
     a'.defers=[]/\∃ v,(results fn a'.tmps).run P w'=.ok v w'/\∃ rr s'' av H'' γ'' F'',Ending.returned v=.returned rr/\k s'' av/\AR w' H'' γ'' s''.m av rr/\RX g s'' a w' H'' γ'' F'':=by
    intro hq;unfold KE at hq;split at hq
    rotate_left
    ·exact hq.elim
    rename_i t hrs;split at hq
    rotate_left
    ·exact hq.elim
    rename_i n hgt;split at hq
    rotate_left
    ·exact hq.elim
    rename_i sub' l' hout;obtain ⟨rfl,hk⟩:=hq;have hrun:(results fn a'.tmps).run P w'=.ok (a'.tmps.getD t undef) w':=by
     rw [gy,Array.mapM_eq_mapM_toList,hrs];simp [jV]
    have hres:AR w' _ _ _ _ (a'.tmps.getD t undef):=hX'.t t
    rw [hgt] at hres;obtain ⟨_,_,hpv⟩:=hres;have hRn:=hX'.mem.roots _ (ab hout)
    unfold aW at hRn;rw [if_neg (by simp)] at hRn;obtain ⟨v1,t1,hγn,hc1,hTR1⟩:=hRn;simp only [List.cons.injEq,and_true] at hc1;subst hc1;have hv1:a'.tmps.getD t undef=v1:=by
     simp only [plV,hγn,ap] at hpv
     first | exact (Option.some.inj hpv).symm | (simp at hpv; exact hpv.symm)
    have hfr:=hX'.fr
    dsimp only [g1] at hfr;have hd:=oF h1 r
    have hmdm:(s1.drop r).m=aw (aJ r) (be s1.m r):=rfl
    have hdm:=hd.mem
    rw [hmdm] at hdm;generalize hmd0:aw (aJ r) (be s1.m r)=md at hdm hk;have tdel:∀ c,tot F1 md c+F1 r c=tot F1 s1.m c:=fun c=>by
     rw [<- hmd0,aQ]; exact ik hroot c
    have hsame:∀ c,tot F1 md c≠0->w'.heap[c]? = w.heap[c]? := fun c hc=>
     hfr.block c (h1.mem.lt c (by have:=tdel c; omega)) (by have:=tdel c; have:=h1.mem.le1 c; omega)
    have hnewc:∀ c,c<w.heap.size->F1 r c=0->H1 c=H' c:=by
     intro c hc h0
     funext o
     cases hh:H1 c o with
     | some y=>rw [hfr.hold c o y hh]
     | none=>
      cases hh2:H' c o with
      | none=>rfl
      | some y=>
       rcases hfr.hnew c o (by rw [hh2]; simp) hh with h' | h'
       ·exact absurd h0 h'
       ·omega
    have hKp:=cf (w':=w') hdm hsame
    have hmd:Mem w' H' γ md F1:=by
     refine ⟨hX'.mem.agree,fun x hx=>aI hKp hfr.hold rfl (fun c hc=>hsame c (by have:=aN (F:=F1) hx c; omega)) (hdm.roots x hx),hdm.keys,hdm.le1,fun c hc=>by have:=hdm.lt c hc; have:=hfr.size; omega,fun c hc o=>?_⟩;rw [<- hnewc c (hdm.lt c hc) (by have:=tdel c; have:=h1.mem.le1 c; omega)]; exact hdm.nofz c hc o
    have hnone:aa md r=none:=by rw [<- hmd0]; exact xF h1.mem.keys
    have hRr:aW w' H' (upd γ r (.gh v1)) ((r,⟨false,[.ow sub' l']⟩)::md) r ⟨false,[.ow sub' l']⟩ (F' n):=by
     unfold aW;rw [if_neg (by simp)];exact ⟨v1,_,cp,rfl,hTR1⟩
    have hf1:∀ c,F' n c<=tot F' s'.m c:=fun c=>aN (F:=F') (ab hout) c
    have hf2:∀ c,F' n c≠0->F1 r c≠0\/w.heap.size<=c:=fun c hc=>hfr.tt c (by have:=hf1 c; omega)
    have hmd0':∀ c,F' n c≠0->tot F1 md c=0:=fun c hc=>by
     rcases hf2 c hc with h' | h'
     ·have:=tdel c; have:=h1.mem.le1 c; omega
     ·rcases Zj (tot F1 md c) with h0 | h0
      ·exact h0
      ·have:=hdm.lt c (by omega); omega
    obtain ⟨hM,htot⟩:=qU hmd (n:=r) (rc:=.gh v1) (r:=⟨false,[.ow sub' l']⟩) (f:=F' n) hnone hRr (fun c=>by
      by_cases hc:F' n c=0
      ·have:=hdm.le1 c; omega
      ·have:=hmd0' c hc; have:=hX'.mem.le1 c; have:=hf1 c; omega)
     (fun c hc=>⟨hX'.mem.lt c (by have:=hf1 c; omega),hX'.mem.nofz c (by have:=hf1 c; omega)⟩)
    have hFr:Fr w H1 (tot F1 s1.m) w' H' (tot (upd F1 r (F' n)) ((r,⟨false,[.ow sub' l']⟩)::md)):=by
     refine ⟨hfr.size,hfr.os,hfr.tape,hfr.output,fun c hc h0=>hfr.block c hc (by have:=hge c; omega),hfr.hold,fun c o h2 h3=>?_,fun c hc=>?_,hfr.nz⟩
     ·rcases hfr.hnew c o h2 h3 with h' | h'
      ·exact .inl (by have:=hge c; omega)
      ·exact .inr h'
     ·rw [htot] at hc;by_cases h0:F' n c=0
      ·exact .inl (by have:=tdel c; omega)
      ·rcases hf2 c h0 with h' | h'
       ·exact .inl (by have:=hge c; omega)
       ·exact .inr h'
    have hKB:KeepsB (aJ r) w γ s1.m w' (upd γ r (.gh v1)) ((r,⟨false,[.ow sub' l']⟩)::md):=by
     have hKa:=i7 (w:=w') (γ:=γ) (rc:=.gh v1) (r:=⟨false,[.ow sub' l']⟩) hnone
     have hKd:KeepsB (aJ r) w γ s1.m w γ md:=by rw [<- hmd0]; exact cG
     constructor
     ·intro q hbq hq;obtain ⟨k1,k2⟩:=hKd.pl q hbq hq;obtain ⟨k3,k4⟩:=hKp.pl q k1;obtain ⟨k5,k6⟩:=hKa.pl q k3;exact ⟨k5,k6.trans (k4.trans k2)⟩
     ·intro q hbq hq;obtain ⟨k1,k2⟩:=hKd.rf q hbq hq;obtain ⟨k3,k4⟩:=hKp.rf q k1;obtain ⟨k5,k6⟩:=hKa.rf q k3;exact ⟨k5,k6.trans (k4.trans k2)⟩
    refine ⟨hX'.df.1,_,hrun,_,_,_,H',upd γ r (.gh v1),_,rfl,hk,?_,hM,h1.fr.trans hFr,h1.nt,⟨h1.df.1,fun j b e=>?_,h1.df.2.2⟩,fun i=>?_⟩
    ·refine ⟨fun _=>rfl,?_,?_⟩
     ·simp [fy,aa]
     ·rw [hv1];simp [plV,cp,ap]
    ·have:=h1.df.2.1 j b e
     by_cases hj:Nm.out j=r
     ·rw [hj,hγr] at this; cases this
     ·rw [iC hj]; exact this
    ·rw [jE];exact ox hKB hfr.hold (h1.t i)
   cases e with
   | normal=>exact fin hq
   | ret=>exact fin hq
   | _=>exact hq.elim
  ·refine ⟨hmc,⟨YY _,rfl,rfl,rfl,fun _ _ _=>rfl,fun _ _ _ h=>h,fun b o h2 h3=>absurd h3 h2,fun c hc=>.inl (by rw [htc] at hc; exact hc),iT⟩,?_,⟨rfl,fun i b' e=>by simp [g1] at e,dz h1⟩,fun i=>?_⟩
   ·simp [g1]; omega
   ·have hget:∀ x,(o::os)[i]? = some x->(((o::os).map a.eval).toArray++Array.replicate (fn.ntmps - ((o::os).map a.eval).toArray.size) undef).getD i undef=a.eval x:=by
     intro x hx;rw [Zm,ZF (by simp; have:=ae hx; simp at this; omega)];have e:((o::os).map a.eval)[i]? = some (a.eval x):=by rw [YW,hx]; rfl
     rw [List.getElem?_toArray,e]; rfl
    cases i with
    | zero=>
     rw [G.tv_none rfl,hget o rfl,hv0];simp only [aS,aG,if_true];refine ⟨fun _=>rfl,?_,?_⟩
     ·simp [fy,aa,mc]
     ·simp [plV,hγc,ap]
    | succ i=>
     have hent:aG (aS 0 (.one (.c (.rf ⟨.out 0,0,[]⟩))::os.map fun x=>(ev s1 x).map T.canon)) (i+1)=((os.map fun x=>(ev s1 x).map T.canon)[i]?).getD .any:=by
      simp only [aS,aG];rw [if_neg (by omega)];rw [cZ];simp
     show AR w H1 γc mc (aG (aS 0 (.one (.c (.rf ⟨.out 0,0,[]⟩))::os.map fun x=>(ev s1 x).map T.canon)) (i+1)) _
     rw [hent,YW];cases hi:os[i]? with
     | none=>simp only [Z5,aaH]; trivial
     | some x=>
      have hx:=az h1 (Y6.1 hops'.2 x (Zi hi))
      simp only [Option.map_some,Zs];have hz:(ev s1 x).isFz=true:=by
       have:=Y6.1 hfz (ev s1 x) (Zl (Zi hi))
       exact this
      rw [G.tv_none rfl,hget x (by simpa using hi)];exact dl bT (j6 (fun _ _ _ h=>h) hz hx)
end
section
variable {α β γ' δ:Type} {P:Program} {f:Nat} {fn:Func} {co:Code}
def fo0 (c:Rw α) (n:Nat) (pre:List α->Prop) (f:List α->List α):List AV->List Sh->List (List D)->(List (List D)->Prop)->Prop
 | [],sub,l,K=>match cj c l with
  | some s=>sub=List.replicate n .fr/\pre s/\K ((f s).map c.enc)
  | _=>False
 | _,_,_,_=>False
def fo1 (c:Rw α) (n:Nat) (a:Cd β) (pre:List α->β->Prop) (f:List α->β->List α):List AV->List Sh->List (List D)->(List (List D)->Prop)->Prop
 | [.one x],sub,l,K=>match cj c l,a.dec x with
  | some s,some x=>sub=List.replicate n .fr/\pre s x/\K ((f s x).map c.enc)
  | _,_=>False
 | _,_,_,_=>False
def fo2 (c:Rw α) (n:Nat) (a:Cd β) (b:Cd δ) (pre:List α->β->δ->Prop) (f:List α->β->δ->List α):List AV->List Sh->List (List D)->(List (List D)->Prop)->Prop
 | [.one x,.one y],sub,l,K=>match cj c l,a.dec x,b.dec y with
  | some s,some x,some y=>sub=List.replicate n .fr/\pre s x y/\K ((f s x y).map c.enc)
  | _,_,_=>False
 | _,_,_,_=>False
end
attribute [push_cast] Sd fo0 fo1 fo2 KE XW
section
variable {P:Program} {g:G} {a:Act} {w:World} {H:FH} {γ:Gam} {F:Nm->Fp}
theorem BR {m:Mm} {t:T} {f:Fp} {v:Value} (h:TR w H γ m t f v):pf (m.map (·.1)) t:=by
 have key:∀ {n:Nm} {r:Root},aa m n=some r->n∈m.map (·.1):=fun h=>Zl (f:=(·.1)) (ab h)
 cases t with
 | pl p=>
  obtain ⟨_,h1,_⟩:=h;unfold bu at h1;split at h1
  ·exact h1.elim
  ·rename_i hr; exact key hr
 | rf p=>
  obtain ⟨_,h1,_⟩:=h;unfold fy at h1;split at h1
  ·exact h1.elim
  ·rename_i hr; exact key hr
 | _=>trivial
theorem Lf {m:Mm} {x:AV1} {y:Value} (h:AR1 w H γ m x y):vN (m.map (·.1)) x:=by
 cases x with
 | c t=>exact BR h
 | agg ts=>
  obtain ⟨cs,_,_,h1⟩:=h;intro t ht;obtain ⟨i,hi,e⟩:=List.getElem_of_mem ht;obtain ⟨v,g',_,h2,_⟩:=BS h1 (i:=i) (t:=t) (by rw [YU hi,e]);exact BR h2
theorem V8 {m:Mm} {x:AV} {y:Value} (h:AR w H γ m x y):Im (m.map (·.1)) x:=by
 cases x with
 | one x=>exact Lf h
 | tup xs=>
  obtain ⟨l,_,h1⟩:=h;have:∀ (xs:List AV1) (ys:List Value),ARs w H γ m xs ys->∀ x∈xs,vN (m.map (·.1)) x:=by
   intro xs;induction xs with
   | nil=>intro _ _ x hx; simp at hx
   | cons x xs ih=>
    intro ys h z hz;cases ys with
    | nil=>exact h.elim
    | cons y ys=>
     rcases Y2.1 hz with rfl | hz
     ·exact Lf h.1
     ·exact ih ys h.2 z hz
  exact this xs _ h1
 | any=>trivial
theorem Qg {m:Mm} {n:Nm} {r:Root} {f:Fp} (h:aW w H γ m n r f):∀ t∈r.cells,pf (m.map (·.1)) t:=by
 intro t ht;unfold aW at h;split at h
 ·obtain ⟨b,cs,ty,fz,g',_,_,_,_,h1,_⟩:=h;obtain ⟨i,hi,e⟩:=List.getElem_of_mem ht;obtain ⟨v,g'',_,h2,_⟩:=BS h1 (i:=i) (t:=t) (by rw [YU hi,e]);exact BR h2
 ·obtain ⟨v,t',_,h1,h2⟩:=h;rw [h1] at ht;simp only [Y3] at ht;subst ht;exact BR h2
theorem oE {s:S} (hX:RX g s a w H γ F) (n:Nm):RX g ⟨s.t,s.m.map fun x=>(x.1,if x.1=n then fJ x.2 else x.2)⟩ a w H γ F:=by
 have hk:(s.m.map fun x=>(x.1,if x.1=n then fJ x.2 else x.2)).map (·.1)=s.m.map (·.1):=by rw [Y9]; rfl
 refine Qa hX (by rw [hk]; exact hX.mem.keys) (fun x hx=>?_) (fun i=>.inr ⟨.inl rfl,by rw [hk]; exact V8 (hX.t i)⟩);rw [hk];obtain ⟨y,hy,rfl⟩:=Zo.1 hx;refine ⟨y.2,qf hX.mem.keys hy,?_,Qg (hX.mem.roots y hy)⟩;dsimp only;split
 ·exact mg.canon _
 ·exact mg.refl _
theorem gi {sh:List Sh} {cells ts:List Tt} {j:Nm} (h:dp sh cells=some ts):(cells.map Tt.toT).all (T.self j)=true/\∀ r:Nm,(cells.map Tt.toT).map (T.ren r j)=cells.map Tt.toT:=by
 induction cells generalizing sh ts with
 | nil=>exact ⟨rfl,fun _=>rfl⟩
 | cons c cells ih=>
  cases sh with
  | nil=>simp [dp] at h
  | cons s sh=>
   have key:∀ {ts'},dp sh cells=some ts'->(T.self j c.toT=true/\∀ r,T.ren r j c.toT=c.toT)->((c::cells).map Tt.toT).all (T.self j)=true/\∀ r:Nm,((c::cells).map Tt.toT).map (T.ren r j)=(c::cells).map Tt.toT:=by
    intro ts' h1 h2;obtain ⟨i1,i2⟩:=ih h1;exact ⟨by simp only [List.map_cons,Zb,h2.1,i1,aaQ],fun r=>by rw [List.map_cons,List.map_cons,h2.2 r,i2 r]⟩
   cases s with
   | fr=>
    cases c with
    | d x=>
     simp only [dp] at h;split at h
     ·rename_i hr; exact key hr ⟨rfl,fun _=>rfl⟩
     ·cases h
    | nil=>
     simp only [dp] at h;split at h
     ·rename_i hr; exact key hr ⟨rfl,fun _=>rfl⟩
     ·cases h
    | _=>simp [dp] at h
   | ow sub=>
    cases c with
    | ow s' u l=>
     simp only [dp] at h;split at h
     ·rename_i hr; exact key hr ⟨rfl,fun _=>rfl⟩
     ·cases h
    | _=>simp [dp] at h
theorem ua {a b:Nm}:∀ {ts:List T} {sh:List Sh} {cs:List C},ts.map T.canon=(aB sh cs).map Tt.toT->ts.map (T.ren a b)=ts
 | [],_,_,_=>rfl
 | t::ts,sh,cs,h=>by
  cases sh with
  | nil=>simp [aB] at h
  | cons s r=>cases cs with
   | nil=>cases s <;> simp [aB] at h
   | cons c cs=>
    have hd:∃ t0:Tt,(∀ p,t0≠.pl p)/\aB (s::r) (c::cs)=t0::aB r cs:=by
     cases s with
     | fr=>exact ⟨.d c,(fun _ h=>by cases h),(by cases c <;> rfl)⟩
     | ow sub=>cases c with
      | li u l=>exact ⟨.ow sub u l,(fun _ h=>by cases h),rfl⟩
      | _=>exact ⟨.d _,(fun _ h=>by cases h),rfl⟩
    obtain ⟨t0,h0,h1⟩:=hd;rw [h1] at h;simp only [List.map_cons,List.cons.injEq] at h;rw [List.map_cons,ua h.2]
    congr 1
    cases t with
    | pl p=>
     have:=h.1
     cases t0 with
     | pl q=>exact (h0 q rfl).elim
     | _=>simp [T.canon,Tt.toT] at this
    | _=>rfl
theorem C1:∀ (us:List U) (x:Fl us),(bw us x).toV.isFz=true:=by
 have one:∀ (u:U) (x:El u),(zB u x).toV.isFz=true:=by
  intro u x;cases u with
  | st n=>simp only [zB,A1.toV,AV1.isFz,Y9,aaU]; exact Y6.2 fun _ _=>rfl
  | _=>rfl
 have all:∀ (us:List U) (x:Fl us),((bw.resL us x).map A1.toV).all AV1.isFz=true:=by
  intro us;induction us with
  | nil=>intro _; rfl
  | cons u r ih=>intro x; simp only [bw.resL,List.map_cons,Zb,one,ih,aaQ]
 intro us x
 match us,x with
 | [],_=>rfl
 | [u],x=>show (yG u x).toV.isFz=true; rw [sx]; exact one u x
 | u::v::r,x=>exact all (u::v::r) x
theorem PH {e:En} (he:e.ok) (hm:e.P.follows .mixedOrders=true) {f:Nat} {fn:Func} (hf:e.P.funcs[f]? = some fn) (hname:(fn.name == "runtime.NumGoroutine")=false) (hb:fn.body.isSome=true) {an:An} {sh:List Sh} {u:U} {ps rs:List U} {pre:El u->Fl ps->Prop} {Fn:El u->Fl ps->Fl rs×El u}
  (hlen:Nat.ble (ps.length+1) fn.ntmps=true) (hc:eX fn.ntmps (fn.body.getD .skip)=true) (law:∀ x y,pre x y->∀ KK:Fl rs×El u->Prop,KK (Fn x y)->QE e fn an sh u ps rs x y KK):Cont e.P f (U4 sh u ps rs pre Fn):=by
 have hb':fn.body=some (fn.body.getD .skip):=by cases h:fn.body with
  | none=>rw [h] at hb; cases hb
  | some c=>rfl
 let φ:List AV->List T->(AV->List T->Prop)->Prop:=fun avs cells K=>∃ (x:El u) (y:Fl ps),avs=dN ps y/\cells.map T.canon=(aB sh (flat u x)).map Tt.toT/\pre x y /\
  ∀ cells',cells'.all (T.self (.out 0))=true->cells'.length=cells.length->cells'.map T.canon=(aB sh (flat u (Fn x y).2)).map Tt.toT->K (bw rs (Fn x y).1).toV cells'
 have hcon:Con e.P f (Sz 0 φ):=by
  refine Tk hf hname hb' φ (fun avs cells K ⟨x,y,hx,_⟩=>by rw [hx,cv]; exact YZ hlen) (fun g avs cells K hg ⟨x,y,hx,hcells,hp,hk⟩=>?_);subst hx;have h:=law x y hp (fun r=>r=Fn x y) rfl
  have h1:=jj (e:=⟨e.P,e.E,e.cs,e.sh,fun _ _=>False⟩) he hm (g:=g) _ an _ _ (by rw [hg]; exact hc) h
  have hln:cells.length=(aB sh (flat u x)).length:=by
   have:=congrArg List.length hcells
   simpa using this
  have h2:AW e.P g (fn.body.getD .skip) (LQ (fun _ _=>False) ⟨jW e.P fn.results.toList sh u rs (fun r=>r=Fn x y),fun _ _=>False,jW e.P fn.results.toList sh u rs (fun r=>r=Fn x y)⟩) ⟨aS 0 (.one (.c (.pl ⟨.out 0,0,[]⟩))::dN ps y),[(.out 0,⟨true,cells⟩)]⟩:=by
   intro a w ⟨H,γ,F,hX⟩;refine h1 a w ⟨H,γ,F,?_⟩;have:=oE hX (.out 0)
   have e0:(⟨1,(0,0,.one (.c (.pl ⟨.out 0,0,[]⟩)))::vg 1 ps y,[(.out 0,0,⟨true,aB sh (flat u x),none⟩)]⟩:St).toS=⟨aS 0 (.one (.c (.pl ⟨.out 0,0,[]⟩))::dN ps y),[(.out 0,⟨true,cells⟩)].map fun x=>(x.1,if x.1=.out 0 then fJ x.2 else x.2)⟩:=by
    refine aU.S_ext ?_ ?_
    ·simp only [List.map_cons,aS,gW]; rfl
    ·simp only [List.map_cons,List.map_nil,if_true,Rt.toR,holed,fJ,hcells]
   rw [e0]; exact this
  refine lj h2 (fun ex s' a w h' hR=>?_);have fin:∀ t:St,R g t.toS a w->jW e.P fn.results.toList sh u rs (fun r=>r=Fn x y) t->∃ s'',yn 0 e.P s'' fn.results.toList K/\R g s'' a w:=by
   intro t hR ht;unfold jW at ht;dsimp only at ht;have hR1:=b9 (.out 0) (dA u) sh 0 (mj fn.results.toList hR)
   generalize aV (g8 t fn.results.toList) (.out 0) (dA u) sh 0=s1 at ht hR1;have hid:=mC (us:=rs) (k:=fun vs=>match bq rs vs,aY s1.m (.out 0) with
    | some x_1,some ⟨true,cells,none⟩=>match dp sh cells with
     | some ts=>match gf u ts with
      | some y_1=>(x_1,y_1)=Fn x y
      | none=>False
     | none=>False
    | _,_=>False) (by
     intro vs hvs;split at hvs
     ·rename_i h1 _; exact ⟨_,h1⟩
     ·exact hvs.elim) ht
   refine ⟨s1.toS,?_,hR1⟩;unfold yn;rw [hid];have hg2:=ii (us:=rs) (K:=fun r=>∃ cells ts y1,aY s1.m (.out 0)=some ⟨true,cells,none⟩/\dp sh cells=some ts/\gf u ts=some y1/\(r,y1)=Fn x y) (R6 hR1) (by
     intro vs hvs;split at hvs
     ·rename_i x1 cells1 h1 h2;split at hvs
      ·rename_i ts h3;split at hvs
       ·rename_i y1 h4; exact ⟨x1,h1,cells1,ts,y1,h2,h3,h4,hvs⟩
       ·exact hvs.elim
      ·exact hvs.elim
     ·exact hvs.elim) ht
   have hroot:∃ cells1 ts y1,aY s1.m (.out 0)=some ⟨true,cells1,none⟩/\dp sh cells1=some ts/\gf u ts=some y1:=by
    rcases Classical.em (∃ cells1 ts y1,aY s1.m (.out 0)=some ⟨true,cells1,none⟩/\dp sh cells1=some ts/\gf u ts=some y1) with hh | hh
    ·exact hh
    ·refine (cn (fun vs hvs=>?_) ht).elim;split at hvs
     ·rename_i x1 cells1 h1 h2;split at hvs
      ·rename_i ts h3;split at hvs
       ·rename_i y1 h4; exact hh ⟨cells1,ts,y1,h2,h3,h4⟩
       ·exact hvs
      ·exact hvs
     ·exact hvs
   obtain ⟨cells1,ts,y1,r1,r2,r3⟩:=hroot;rw [show aa s1.toS.m (.out 0)=some (⟨true,cells1,none⟩:Rt).toR from aM r1];show qx e.P s1.toS fn.results.toList (fun v=>K v (cells1.map Tt.toT))
   refine C3 hid (Q:=fun r=>∃ cells ts y1,aY s1.m (.out 0)=some ⟨true,cells,none⟩/\dp sh cells=some ts/\gf u ts=some y1/\(r,y1)=Fn x y) ?_ hg2;rintro r ⟨cells2,ts2,y2,q1,q2,q3,q4⟩
   rw [r1] at q1;have q1':=Option.some.inj q1
   simp only [Rt.mk.injEq,true_and,and_true] at q1';subst q1';have e1:r=(Fn x y).1:=by rw [<- q4]
   have e2:y2=(Fn x y).2:=by rw [<- q4]
   obtain ⟨k1,_⟩:=pc q2 (iR q3);rw [e1];refine hk _ (gi q2).1 ?_ (by rw [<- e2,k1]);have l1:(cells1.map Tt.toT).length=(aB sh (flat u y2)).length:=by
    have:=congrArg List.length k1
    simpa using this.symm
   have l2:∀ (sh:List Sh) (a b:List C),a.length=b.length->(aB sh a).length=(aB sh b).length:=by
    intro sh;induction sh with
    | nil=>intro a b _; cases a <;> cases b <;> rfl
    | cons s r ih=>
     intro a b hab;have hcons:∀ (c:C) (cs:List C),(aB (s::r) (c::cs)).length=(aB r cs).length+1:=by
      intro c cs;cases s <;> cases c <;> rfl
     cases a with
     | nil=>cases b with
      | nil=>rfl
      | cons _ _=>cases hab
     | cons c cs=>cases b with
      | nil=>cases hab
      | cons d ds=>rw [hcons,hcons,ih cs ds (by simpa using hab)]
   rw [l1,hln];exact l2 sh _ _ (by rw [gZ,gZ])
  cases ex with
  | normal=>obtain ⟨t,rfl,ht⟩:=h'; exact fin t hR ht
  | ret=>obtain ⟨t,rfl,ht⟩:=h'; exact fin t hR ht
  | exit i=>exact h'.elim (fun t ht=>ht.2.elim)
  | panic c=>obtain ⟨_,_,_,_,hf⟩:=h'; exact hf.elim
  | _=>exact h'.elim
 refine ⟨hcon.run,fun pk s ops k k' hk hcc=>?_,fun g pk s a w H γ F1 ops k hX hops hcc=>?_⟩
 ·unfold U4 at hcc ⊢;split at hcc
  ·exact hcc.elim
  ·dsimp only at hcc ⊢;split at hcc
   ·split at hcc
    ·split at hcc
     ·split at hcc
      ·split at hcc
       ·refine ⟨hcc.1,hk _ _ ?_ hcc.2⟩;exact ((bz _ _).trans (cF _ _ _ _ _)).trans ⟨ZC _,ff (YY _),((lq _).trans (cN (YY _))).trans (iZ _ _ _ (YY _))⟩
       ·exact hcc.elim
      ·exact hcc.elim
     ·exact hcc.elim
    ·exact hcc.elim
   ·exact hcc.elim
 ·unfold U4 at hcc;cases ops with
  | nil=>exact hcc.elim
  | cons o os=>
   dsimp only at hcc;have hops':au o=true/\os.all au=true:=by simpa using hops
   obtain ⟨H1,F2,h1⟩:=cg (os.map (evA s)) s H F1 hX;generalize bm s (os.map (evA s))=s1 at hcc h1;split at hcc
   ·rename_i r hro;obtain ⟨H2,γ2,F3,h2⟩:=b9 (g:=g) r (dA u) sh 0 (Na h1);generalize aV s1 r (dA u) sh 0=s2 at hcc h2;split at hcc
    ·rename_i r' hev2;split at hcc
     ·rename_i cells hdr hty hroot;have hr':r'=r:=by simpa using hdr
      subst hr';split at hcc
      ·rename_i ts hts;split at hcc
       ·rename_i x y hx hy;have hn2:=dT h2
        obtain ⟨c1,c2,c3⟩:=cR hy;obtain ⟨k1,_⟩:=pc hts (iR hx);refine Calls.mono (hcon.call g s2.toS a w H2 γ2 F3 (o::os) (fun s' av=>∃ t v',(∀ {a:Act} {w:World} {H:FH} {γ:Gam} {F:Nm->Fp},RX g s' a w H γ F->RX g t.toS a w H γ F)/\av=v'.toV/\av.isFz=true/\k t v') h2 hops ?_) ?_
        ·unfold Sz;dsimp only;rw [cK hops'.2,dc c1,ac hops'.1,hev2];simp only [At.toV,A1.toV,Tt.toT];rw [show aa s2.toS.m r'=some (⟨true,cells,none⟩:Rt).toR from aM hroot];dsimp only [Rt.toR,holed];refine ⟨hty.symm,(gi hts).1,by rw [cK hops'.2]; exact c2,x,y,?_,?_,hcc.1,?_⟩
         ·have e:(os.map fun x=>(ev s2.toS x).map T.canon)=(os.map (ev s2.toS)).map (AV.map T.canon):=by rw [Y9]; rfl
          rw [e,cK hops'.2]; exact c3
         ·rw [(gi hts).2,k1]
         ·intro cells' s1' l1' e1';refine ⟨by simpa using l1',s1',_,_,?_,rfl,C1 _ _,hcc.2⟩;intro a w H γ F hX';have hc:=oE hX' r'
          have hlist:((r',(⟨true,cells'.map (T.ren (.out 0) r')⟩:Root))::aw (aJ r') (be s2.toS.m r')).map (fun x=>(x.1,if x.1=r' then fJ x.2 else x.2))=(r',⟨true,(aB sh (flat u (Fn x y).2)).map Tt.toT⟩)::aw (aJ r') (be s2.toS.m r'):=by
           simp only [List.map_cons,if_true]
           congr 1
           ·rw [ua e1']; simp only [fJ,e1']
           ·refine (Zc fun z hz=>?_).trans (List.map_id _);have hne:z.1≠r':=by
             intro e;have hz1:z.1∈(aw (aJ r') (be s2.toS.m r')).map (·.1):=Zl (f:=(·.1)) hz
             have e2:(aw (aJ r') (be s2.toS.m r')).map (·.1)=(be s2.toS.m r').map (·.1):=by simp only [aw,Y9]; rfl
             rw [e2,e] at hz1;exact lO h2.mem.keys hz1
            rw [if_neg hne]; rfl
          have hfin:(⟨s2.nx+1,jJ (jx r') s2.nx s2.t,(r',s2.nx,⟨true,aB sh (flat u (Fn x y).2),none⟩)::bC (aJ r') s2.nx (dh s2.m r')⟩:St).toS=⟨jK (gO r') s2.toS.t,(r',⟨true,(aB sh (flat u (Fn x y).2)).map Tt.toT⟩)::aw (aJ r') (be s2.toS.m r')⟩:=by
           refine aU.S_ext (jf _ _ _) ?_;simp only [List.map_cons]
           congr 1
           have:=cH (aJ r') s2.nx (dh s2.m r')
           rw [jB _ _ hn2] at this;exact this
          rw [hfin];dsimp only at hc;rw [hlist] at hc;exact hc
        ·rintro e' w' ⟨rr,s',av,H',γ',F',q1,⟨t,v',q2,rfl,q3,q4⟩,q5,q6⟩
         exact .inl ⟨rr,t,v',H',γ',F',q1,q4,j6 (fun _ _ _ h=>h) q3 q5,q2 q6⟩
       ·exact hcc.elim
      ·exact hcc.elim
     ·exact hcc.elim
    ·exact hcc.elim
   ·exact hcc.elim
theorem Iz (s:St) (k:Nat) (sh:List Sh) (u:U):Ext s (tT s k sh u):=by
 unfold tT;split
 ·exact Ag s k sh u
 ·exact Ext.refl s
theorem Qd {s:St} (h:R g s.toS a w) (k:Nat) (sh:List Sh) (u:U):R g (tT s k sh u).toS a w:=by
 unfold tT;split
 ·exact LO h k sh u
 ·exact h
theorem PG {e:En} (he:e.ok) (hm:e.P.follows .mixedOrders=true) {f:Nat} {fn:Func} (hf:e.P.funcs[f]? = some fn) (hname:(fn.name == "runtime.NumGoroutine")=false) (hb:fn.body.isSome=true) {an:An} {u:U} {ps:List U} {pre:List (El u)->Fl ps->Prop} {Fn:List (El u)->Fl ps->List (El u)}
  (hlen:Nat.ble (ps.length+1) fn.ntmps=true) (hc:eX fn.ntmps (fn.body.getD .skip)=true) (law:∀ x y,pre x y->∀ KK:List (El u)->Prop,KK (Fn x y)->QD e fn an u ps x y KK):Cont e.P f (UZ u ps pre Fn):=by
 have hb':fn.body=some (fn.body.getD .skip):=by cases h:fn.body with
  | none=>rw [h] at hb; cases hb
  | some c=>rfl
 let φ:List AV->List Sh->List (List D)->(List (List D)->Prop)->Prop:=fun avs sub l K=>∃ (x:List (El u)) (y:Fl ps),avs=dN ps y/\sub=List.replicate (nc u) .fr/\l=x.map (ak u)/\pre x y/\K ((Fn x y).map (ak u))
 have hcon:Con e.P f (Sd φ):=by
  refine Tj hf hname hb' φ (fun avs sub l K ⟨x,y,hx,_⟩=>by rw [hx,cv]; exact YZ hlen) (fun g avs sub l K hg ⟨x,y,hx,hsub,hl,hp,hk⟩=>?_);subst hx; subst hsub; subst hl;have h:=law x y hp (fun r=>r=Fn x y) rfl
  have h1:=jj (e:=⟨e.P,e.E,e.cs,e.sh,fun _ _=>False⟩) he hm (g:=g) _ an _ _ (by rw [hg]; exact hc) h
  have e0:(⟨1,(0,0,.one (.c (.rf ⟨.out 0,0,[]⟩)))::vg 1 ps y,[(.out 0,0,⟨false,[.ow (List.replicate (nc u) .fr) u x],none⟩)]⟩:St).toS=⟨aS 0 (.one (.c (.rf ⟨.out 0,0,[]⟩))::dN ps y),[(.out 0,⟨false,[.ow (List.replicate (nc u) .fr) (x.map (ak u))]⟩)]⟩:=by
   refine aU.S_ext ?_ rfl;simp only [List.map_cons,aS,gW]; rfl
  rw [e0] at h1;refine AW.mono h1 (fun ex s' h'=>?_);have fin:∀ t:St,MC fn.results.toList u (fun r=>r=Fn x y) t->KE t.toS fn.results.toList (fun sub' l'=>sub'=List.replicate (nc u) .fr/\K l'):=by
   intro t ht;unfold MC at ht;unfold KE;split at ht
   ·rename_i tt hrs;rw [hrs];dsimp only;split at ht
    ·rename_i n hgt;rw [gn hgt];simp only [At.toV,A1.toV,Tt.toT];split at ht
     ·rename_i sh u' l hr;rw [show aa t.toS.m n=some (⟨false,[.ow sh u' l],none⟩:Rt).toR from aM hr];split at ht
      ·rename_i l' hs hcast;obtain ⟨e1,rfl⟩:=gR hcast;subst e1;refine ⟨ij hs,?_⟩;have hx2:l=Fn x y:=ht
       show K (l.map (ak u'))
       rw [hx2]; exact hk
      ·exact ht.elim
     ·exact ht.elim
    ·exact ht.elim
   ·exact ht.elim
  cases ex with
  | normal=>obtain ⟨t,rfl,ht⟩:=h'; exact fin t ht
  | ret=>obtain ⟨t,rfl,ht⟩:=h'; exact fin t ht
  | exit i=>exact h'.elim (fun t ht=>ht.2.elim)
  | panic c=>obtain ⟨_,_,_,_,hf⟩:=h'; exact hf.elim
  | _=>exact h'.elim
 refine ⟨hcon.run,fun pk s ops k k' hk hcc=>?_,fun g pk s a w H γ F1 ops k hX hops hcc=>?_⟩
 ·unfold UZ at hcc ⊢;split at hcc
  ·dsimp only at hcc ⊢;split at hcc
   ·split at hcc
    ·split at hcc
     ·refine ⟨hcc.1,hk _ _ ?_ hcc.2⟩;exact ((Iz _ _ _ _).trans (bz _ _)).trans ⟨ZC _,ff (YY _),((lq _).trans (cN (YY _))).trans (iZ _ _ _ (YY _))⟩
     ·exact hcc.elim
    ·exact hcc.elim
   ·exact hcc.elim
  ·exact hcc.elim
 ·unfold UZ at hcc;split at hcc
  ·rename_i t os;have hops':os.all au=true:=by
    have:=hops
    simp only [Zb,YV] at this;exact this.2
   dsimp only at hcc;obtain ⟨H0,γ0,F0,h0⟩:=Qd (Na hX) t (List.replicate (nc u) .fr) u;generalize tT s t (List.replicate (nc u) .fr) u=s0 at hcc h0;obtain ⟨H1,F2,h1⟩:=cg (os.map (evA s0)) s0 H0 F0 h0;generalize bm s0 (os.map (evA s0))=s1 at hcc h1;have hn1:=dT h1
   split at hcc
   ·rename_i r hev;split at hcc
    ·rename_i sh u' l hroot;split at hcc
     ·rename_i l' x hs hcast hx;obtain ⟨e1,rfl⟩:=gR hcast;subst e1;obtain ⟨c1,c2,c3⟩:=cR hx;refine Calls.mono (hcon.call g s1.toS a w H1 γ0 F2 (.tmp t::os) (fun s' av=>∃ t' v',s'=t'.toS/\av=v'.toV/\k t' v') h1 hops ?_) ?_
      ·unfold Sd;dsimp only;rw [cK hops',dc c1];rw [show ev s1.toS (.tmp t)=(evA s1 (.tmp t)).toV from bZ t s1.t,hev];simp only [At.toV,A1.toV,Tt.toT];rw [show aa s1.toS.m r=some (⟨false,[.ow sh u' l],none⟩:Rt).toR from aM hroot];dsimp only [Rt.toR,holed,List.map_cons,List.map_nil,Tt.toT];refine ⟨by rw [cK hops']; exact c2,l,x,?_,ij hs,rfl,hcc.1,_,_,?_,?_,hcc.2⟩
       ·have e:(os.map fun x=>(ev s1.toS x).map T.canon)=(os.map (ev s1.toS)).map (AV.map T.canon):=by rw [Y9]; rfl
        rw [e,cK hops']; exact c3
       ·refine (aU.S_ext (jf _ _ _) ?_).symm;simp only [List.map_cons]
        congr 1
        have:=cH (aJ r) s1.nx (dh s1.m r)
        rw [jB _ _ hn1] at this;exact this
       ·rfl
      ·rintro e' w' ⟨rr,s',av,H',γ',F',q1,⟨t',v',rfl,rfl,q4⟩,q5,q6⟩
       exact .inl ⟨rr,t',v',H',γ',F',q1,q4,q5,q6⟩
     ·exact hcc.elim
    ·exact hcc.elim
   ·exact hcc.elim
  ·exact hcc.elim
end
end Go.Am
end

section
namespace Go.Am
open Go Go.RowKit Go.Proofs
section
variable {P:Program}
theorem Aa {f:Nat} {φ:List AV->(AV->Prop)->Prop} (hrun:∀ args w,(callFunc f args).run P w=.ok (.enter f args) w)
  (hbody:∀ (avs:List AV) (K:AV->Prop) (args:List Value) (w:World) (H:FH) (γ:Gam),φ avs K->args.length=avs.length->(∀ (i:Nat) v,avs[i]? = some v->∃ y,args[i]? = some y/\AR w H γ [] v y)->Globs H ->
   (∀ b o y,H b o=some y->RdV w b o y) ->
   Calls P f args.toArray w (fun e w'=>∃ r av H2,e=.returned r/\K av/\Below w.heap.size w w'/\(∀ b o y,H b o=some y->H2 b o=some y)/\(∀ b o,H2 b o≠none->H b o=none->w.heap.size<=b)/\(∀ b o x l c,H2 b o=some (.c (.slice x l c))->H b o=none->Thawed w' b) /\
    (∀ b o y,H2 b o=some y->RdV w' b o y)/\av.isFz=true/\AR w' H2 γ [] av r)):Con P f (n4 φ):=by
 refine ⟨hrun,fun g s a w H γ F ops k hX hops hK=>?_⟩;unfold n4 at hK;dsimp only at hK;obtain ⟨H1,F1,h1⟩:=ju (ops.map (ev s)) s H F hX;generalize iE s (ops.map (ev s))=s1 at hK h1;obtain ⟨hfz,hφ⟩:=hK;refine (hbody _ _ (ops.map a.eval) w H1 γ hφ (by simp) (fun i v hi=>?_) (dz h1) h1.mem.agree).mono ?_
 ·rw [YW] at hi;obtain ⟨x,hx0,rfl⟩:=Y7.1 hi;have hx:=az h1 (Y6.1 hops x (Zi hx0))
  have hz:(ev s1 x).isFz=true:=Y6.1 hfz (ev s1 x) (Zl (Zi hx0))
  exact ⟨a.eval x,by rw [YW,hx0]; rfl,dl bT (j6 (fun _ _ _ h=>h) hz hx)⟩
 ·rintro e w' ⟨r,av,H2,rfl,hk,hb,hh,hn,hnz,hag,hz,har⟩
  have hold:∀ b,b<w.heap.size->w'.heap[b]? = w.heap[b]? := hb.block
  have hnew:∀ b,b<w.heap.size->H1 b=H2 b:=by
   intro b hb
   funext o
   cases hc:H1 b o with
   | some y=>rw [hh b o y hc]
   | none=>
    cases hc2:H2 b o with
    | none=>rfl
    | some y=>have:=hn b o (by rw [hc2]; simp) hc; omega
  have hsame:∀ b,tot F1 s1.m b≠0->w'.heap[b]? = w.heap[b]? := fun b hb=>hold b (h1.mem.lt b hb)
  have hKp:=cf (w':=w') h1.mem hsame
  have hmem:Mem w' H2 γ s1.m F1:=by
   refine ⟨hag,fun x hx=>aI hKp hh rfl (fun b hb=>hsame b (by have:=aN (F:=F1) hx b; omega)) (h1.mem.roots x hx),h1.mem.keys,h1.mem.le1,fun b hb'=>by have:=h1.mem.lt b hb'; have:=hb.size; omega,fun b hb o=>?_⟩;rw [<- hnew b (h1.mem.lt b hb)]; exact h1.mem.nofz b hb o
  have hFr:Fr w H1 (tot F1 s1.m) w' H2 (tot F1 s1.m):=
   ⟨hb.size,hb.os,hb.tape,hb.output,fun b hb _=>hold b hb,hh,fun b o h2 h3=>.inr (hn b o h2 h3),fun b hb=>.inl hb,fun b h0=>h0.of_block (hold b h0.lt),hnz⟩
  exact ⟨r,s1,av,H2,γ,F1,rfl,hk,j6 (fun _ _ _ h=>h) hz har,eG h1 hmem hFr (fun i=>bQ hKp hh (h1.t i)) (fun _=>rfl)⟩
theorem jq {f:Nat} {ps rs:List U} {pre:Fl ps->Prop} {F:Fl ps->Fl rs} (hrun:∀ args w,(callFunc f args).run P w=.ok (.enter f args) w)
  (hbody:∀ (x:Fl ps) (args:List Value) (w:World) (H:FH) (γ:Gam),pre x->args.length=(dN ps x).length->(∀ (i:Nat) v,(dN ps x)[i]? = some v->∃ y,args[i]? = some y/\AR w H γ [] v y)->Globs H ->
   (∀ b o y,H b o=some y->RdV w b o y) ->
   Calls P f args.toArray w (fun e w'=>∃ r H2,e=.returned r/\Below w.heap.size w w'/\(∀ b o y,H b o=some y->H2 b o=some y)/\(∀ b o,H2 b o≠none->H b o=none->w.heap.size<=b)/\(∀ b o x l c,H2 b o=some (.c (.slice x l c))->H b o=none->Thawed w' b) /\
    (∀ b o y,H2 b o=some y->RdV w' b o y)/\AR w' H2 γ [] (bw rs (F x)).toV r)):Cont P f (bg ps rs pre F):=
 uq (φ:=fun avs K=>∃ x:Fl ps,avs=dN ps x/\pre x/\K (bw rs (F x)).toV) (fun x K hp hk=>⟨x,rfl,hp,hk⟩)
  (Aa hrun (fun avs K args w H γ ⟨x,hx,hp,hk⟩ hl ha hg hag=>by
   subst hx;refine (hbody x args w H γ hp hl ha hg hag).mono ?_;rintro e w' ⟨r,H2,h1,h2,h3,h4,hz,h5,h6⟩
   exact ⟨r,_,H2,h1,hk,h2,h3,h4,hz,h5,C1 rs (F x),h6⟩))
theorem gE {f:Nat} {fn:Func} (hf:P.funcs[f]? = some fn) (hname:(fn.name == "runtime.NumGoroutine")=false) (hb:fn.body.isSome=true) (args:Array Value) (w:World):(callFunc f args).run P w=.ok (.enter f args) w:=by
 have h1:fn.name ≠ "runtime.NumGoroutine" := by simpa using hname
 cases hc:fn.body with
 | none=>rw [hc] at hb; cases hb
 | some c=>simp [callFunc,hf,h1,hc]
theorem j7 {w:World} {H:FH} {γ:Gam} {l:List UInt8} {y:Value} (h:AR w H γ [] (.one (.c (.d (.str l)))) y):y=.string ⟨l.toArray⟩/\l.length<=BIG:=by
 obtain ⟨_,m,h⟩:=h;cases m <;> exact h
theorem Pq {w:World} {H:FH} {γ:Gam} {m:Mm} {l:List UInt8} (h:l.length<=BIG):AR w H γ m (.one (.c (.d (.str l)))) (.string ⟨l.toArray⟩):=⟨fun _=>rfl,0,rfl,h⟩
theorem oM (l:List UInt8):(⟨l.toArray⟩:ByteArray).data.toList=l:=by simp
theorem rC (l:List UInt8):(⟨l.toArray⟩:ByteArray).size=l.length:=by simp [ByteArray.size]
theorem L2 {args:List Value} {x y:AV} {w:World} {H:FH} {γ:Gam} (hl:args.length=2) (ha:∀ (i:Nat) v,[x,y][i]? = some v->∃ y,args[i]? = some y/\AR w H γ [] v y):∃ u v,args=[u,v]/\AR w H γ [] x u/\AR w H γ [] y v:=by
 match args,hl with
 | [u,v],_=>
  obtain ⟨u',h1,h2⟩:=ha 0 x rfl;obtain ⟨v',h3,h4⟩:=ha 1 y rfl;simp only [Zu,ZG,YT] at h1 h3;subst h1; subst h3;exact ⟨u,v,rfl,h2,h4⟩
theorem Ez (B:Nat) (w:World) (n:Nat):Below B w (w.drewN n):=⟨rfl,rfl,rfl,YY _,fun _ _=>rfl⟩
theorem A2 {w:World} {H:FH} (hg:Globs H) (hag:∀ b o y,H b o=some y->RdV w b o y) {k:Nat} (hk:UO=some k):∃ n,w.cell? ⟨k,0,none⟩=some (.int .i64 n):=by
 obtain ⟨n,m,h⟩:=hg.2 k hk;obtain ⟨y,h1,h2⟩:=h 0 (by simp);have h2:FD H m (.int .i64 n) y:=h2
 have:y=.int .i64 n:=by cases m <;> exact h2.1
 subst this;exact ⟨n,hag k 0 _ h1⟩
end
end Go.Am
end
