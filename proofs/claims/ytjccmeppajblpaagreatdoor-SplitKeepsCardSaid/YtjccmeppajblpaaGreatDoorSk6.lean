/-
  Part 6: AmIndex · AmBuild · AmMake · AmAlloc · AmWrite · AmStoreOp.
-/
import Derived.Test.YtjccmeppajblpaaGreatDoorSk5
import Derived.Laws.Tables
set_option linter.unusedSimpArgs false
set_option linter.unusedVariables false
set_option linter.unusedSectionVars false
set_option linter.unnecessarySimpa false
section
namespace Go.Am
section
variable {P:Program} {w:World} {H:FH} {γ:Gam} {m:Mm}
theorem walkV_snoc:∀ (p:List Step) (y:Value) (st:Step) (b k:Nat) (v:Value),walkV w y p=some ⟨b,k,none⟩->w.cell? ⟨b,k,none⟩=some v->walkV w y (p++[st])=walkV w v [st]:=by
 intro p
 induction p with
 | nil=>intro y st b k v h; cases y <;> simp [walkV] at h
 | cons s r ih=>
  intro y st b k v h hv
  cases y with
  | slice a len c=>
   cases a with
   | none=>cases r <;> simp [walkV] at h
   | some a=>
    obtain ⟨b0,o,sp⟩:=a
    cases sp with
    | some _=>cases r <;> simp [walkV] at h
    | none=>
     cases r with
     | nil=>
      simp only [walkV,Option.some.injEq,Addr.mk.injEq,and_true] at h
      obtain ⟨rfl,rfl⟩:=h
      simp only [List.cons_append,List.nil_append,walkV,hv]
     | cons t u=>
      simp only [walkV] at h
      simp only [List.cons_append,walkV]
      cases hc:w.cell? ⟨b0,o+s.idx*s.esz+s.off,none⟩ with
      | none=>rw [hc] at h; simp at h
      | some v'=>
       rw [hc] at h
       have:=ih v' st b k v h hv
       simpa only [List.cons_append] using this
  | _=>cases r <;> simp [walkV] at h
theorem okO_snoc:∀ (p:List Step) (sub0 sub:List Sh) (l0 l:List (List D)) (st:Step),okO sub0 l0 p->lookO sub0 l0 p=some (.ow sub,.li l)->okO sub l [st]->okO sub0 l0 (p++[st]):=by
 intro p
 induction p with
 | nil=>intro sub0 sub l0 l st h; exact h.elim
 | cons s r ih=>
  intro sub0 sub l0 l st h hl hst
  cases r with
  | nil=>
   simp only [lookO,Option.map_eq_some_iff,Prod.mk.injEq] at hl
   obtain ⟨s',hs,rfl,hd⟩:=hl
   simp only [List.cons_append,List.nil_append,okO,hs,hd]
   exact ⟨h,hst⟩
  | cons t u=>
   obtain ⟨h1,h2⟩:=h
   simp only [List.cons_append,okO]
   refine ⟨h1,?_⟩
   cases hs:sub0[s.off]? with
   | none=>rw [hs] at h2; exact h2.elim
   | some s'=>
    rw [hs] at h2
    cases s' with
    | fr=>exact h2.elim
    | ow s'=>
     cases hd:(l0.getD s.idx []).getD s.off default with
     | li l'=>
      rw [hd] at h2
      simp only [lookO,hs,hd] at hl
      dsimp only
      have:=ih s' sub l' l st h2 hl hst
      simpa only [List.cons_append] using this
     | _=>rw [hd] at h2; exact h2.elim
theorem plV_plA {F:Nm->Fp} (hm:Mem w H γ m F) {p:Pl} (hok:okPl m p) {st:Step} {u:Value} (hv:plV w γ p=some u):plA w γ { p with path:=p.path++[st] }=walkV w u [st]:=by
 obtain ⟨n,off,path⟩:=p
 cases path with
 | nil=>
  simp only [plV] at hv
  simp only [plA,List.nil_append,hv,Option.bind_some]
 | cons s r=>
  simp only [plV] at hv
  simp only [plA,List.cons_append]
  cases hc:rootCell w (γ n) off with
  | none=>rw [hc] at hv; simp at hv
  | some v=>
   rw [hc] at hv
   simp only [Option.bind_some] at hv ⊢
   cases hw:walkV w v (s::r) with
   | none=>rw [hw] at hv; simp at hv
   | some a=>
    rw [hw] at hv
    simp only [Option.bind_some] at hv
    have ha:plA w γ ⟨n,off,s::r⟩=some a:=by simp only [plA,hc,Option.bind_some,hw]
    obtain ⟨b,k,rfl⟩:=plA_none hm hok ha
    have:=walkV_snoc (s::r) v st b k u hw hv
    simpa only [List.cons_append] using this
theorem okPl_at {p:Pl} {sub:List Sh} {l:List (List D)} {i:Nat} (hok:okPl m p) (hg:getPl m p=some (.ow sub l)) (hi:i<l.length) (h0:sub.length≠0):okPl m (p.at i sub.length):=by
 obtain ⟨r,h1,h2⟩:=okPl_iff.1 hok
 obtain ⟨n,off,path⟩:=p
 dsimp only at h1 h2
 unfold getPl at hg
 rw [h1] at hg
 rw [okPl_iff]
 refine ⟨r,h1,?_⟩
 have hst:okO sub l [⟨i,sub.length,0⟩]:=⟨hi,rfl,by dsimp only; omega⟩
 cases path with
 | nil=>
  dsimp only at hg
  simp only [Pl.at,List.nil_append,okCells,hg]
  exact hst
 | cons st u=>
  dsimp only at hg
  dsimp only [okCells] at h2
  cases ht:r.cells[off]? with
  | none=>rw [ht] at h2; exact h2.elim
  | some t=>
   rw [ht] at h2 hg
   cases t with
   | ow sub0 l0=>
    dsimp only at hg h2
    cases hlo:lookO sub0 l0 (st::u) with
    | none=>rw [hlo] at hg; simp at hg
    | some x=>
     obtain ⟨s,d⟩:=x
     rw [hlo] at hg
     cases s with
     | fr=>simp at hg
     | ow s=>cases d with
      | li l'=>
       simp only [Option.some.injEq,T.ow.injEq] at hg
       obtain ⟨rfl,rfl⟩:=hg
       have:=okO_snoc (st::u) sub0 s l0 l' _ h2 hlo hst
       simp only [Pl.at,List.cons_append,okCells,ht]
       simpa only [List.cons_append] using this
      | _=>simp at hg
   | _=>exact h2.elim
theorem indexAddrK_ok {F:Nm->Fp} (hm:Mem w H γ m F) {t:TypeId} {x i:AV} {k:AV->Prop} {u v:Value} (h:indexAddrK P m t x i k) (hx:AR w H γ m x u) (hi:AR w H γ m i v) :
  ∃ z d,(∀ w:World,(Instr.indexAt t u v).run P w=.ok z w)/\AR w H γ m d z/\k d:=by
 match i,h with
 | .one (.c (.d (.int κ n))),h=>
 obtain ⟨rfl,_⟩:=AR_int hi
 simp only [indexAddrK] at h
 cases hk:(ty P t).k with
 | sl e=>
  rw [hk] at h
  obtain ⟨_,d,_,hd,he,_⟩:=ty_und hk (by simp)
  obtain rfl:=tk_sl he
  have hel:P.elem t=e:=by simp [Program.elem,hd]
  match x,h with
  | .one (.c (.d (.li l))),h=>
   obtain ⟨hok,h0,h⟩:=h
   obtain ⟨it,_,hit,_⟩:=ty_ok hok
   have hn:n.toNat<l.length:=by
    rcases Nat.lt_or_ge n.toNat l.length with h' | h'
    ·exact h'
    ·rw [List.getElem?_eq_none h'] at h; exact h.elim
   have h:∀ row,l[n.toNat]? = some row->row.length=(ty P e).size/\k (.one (.c (.el row 0))):=fun row hr=>by rw [hr] at h; exact h
   have hrow:l[n.toNat]? = some l[n.toNat]:=List.getElem?_eq_getElem hn
   obtain ⟨hlen,hk⟩:=h _ hrow
   obtain ⟨a,c,rfl,hc,hb,hd2⟩:=FDx_li_inv hx.2
   rcases hd2 with hd2 | ⟨b,o,e',q,rfl,hfe⟩
   ·rw [hd2] at hn; simp at hn
   ·have hg:l.getD n.toNat []=l[n.toNat]:=by simp [List.getD,hn]
    obtain ⟨g1,g2⟩:=hfe n.toNat hn
    rw [hg] at g1 g2
    have hee:e'=P.cellsOf e:=by rw [<- g1,hlen,ty_size hok]
    refine ⟨.pointer (some ⟨b,o+n.toNat*P.cellsOf e,none⟩),.one (.c (.el l[n.toNat] 0)),?_,⟨fun _=>rfl,b,o+n.toNat*P.cellsOf e,q,by simp,fun j hj=>?_⟩,hk⟩
    ·intro w
     rw [run_indexAt_slice w t _ _ _ _ _ (by rw [hel]; exact hd),if_pos ⟨h0,(show n<l.length by omega)⟩,hel,runs_sizeOf hit,Result.andThen_ok,addr_add]
    ·rw [<- hee]; exact g2 j (by omega)
  | .one (.c (.rf p)),h=>
   obtain ⟨hok,hs0,h⟩:=h
   obtain ⟨it,_,hit,_⟩:=ty_ok hok
   obtain ⟨tt,h1,h2,h3,h4,f,h5⟩:=rf_inv hm hx h
   cases tt with
   | ow sub l=>
    obtain ⟨⟨q1,q2⟩,q3,q4⟩:=h1
    have hn:n.toNat<l.length:=by omega
    obtain ⟨j,h5⟩:=h5
    cases j with
    | zero=>simp [OD] at h5
    | succ j=>
     obtain ⟨a,c,_,_,rfl,_,_,_,_,_,hd2⟩:=OD_cells h5
     rcases hd2 with ⟨hl,_⟩ | ⟨b,cs,tt,fz,rfl,_⟩
     ·rw [hl] at hn; simp at hn
     ·refine ⟨.pointer (some ⟨b,0+n.toNat*P.cellsOf e,none⟩),.one (.c (.pl (p.at n.toNat (ty P e).size))),?_,⟨fun _=>rfl,?_,⟨b,0+n.toNat*P.cellsOf e,none⟩,?_,rfl⟩,q4⟩
      ·intro w
       rw [run_indexAt_slice w t _ _ _ _ _ (by rw [hel]; exact hd),if_pos ⟨q1,q2⟩,hel,runs_sizeOf hit,Result.andThen_ok,addr_add]
      ·rw [<- q3]; exact okPl_at h3 h2 hn (by rw [q3]; exact hs0)
      ·rw [Pl.at,plV_plA hm h3 h4,<- ty_size hok]
       simp [walkV]
   | _=>exact h1.elim
 | ar N e=>
  rw [hk] at h
  obtain ⟨_,d,_,hd,he,_⟩:=ty_und hk (by simp)
  obtain rfl:=tk_ar he
  have hel:P.elem t=e:=by simp [Program.elem,hd]
  have hal:P.arrayLen t=N:=by simp [Program.arrayLen,hd]
  match x,h with
  | .one (.c (.pl p)),h=>
   obtain ⟨hok,⟨h0,h1⟩,hr,h⟩:=h
   obtain ⟨it,_,hit,_⟩:=ty_ok hok
   obtain ⟨hz,hokp,a,ha,rfl⟩:=hx
   obtain ⟨b,o,rfl⟩:=plA_none hm hokp ha
   refine ⟨.pointer (some ⟨b,o+n.toNat*P.cellsOf e,none⟩),.one (.c (.pl (p.add (n.toNat*(ty P e).size)))),?_,⟨fun _=>rfl,okPl_add hokp hr,_,plA_add ha,by rw [ty_size hok]⟩,h⟩
   intro w
   rw [run_indexAt_array w t _ _ _ (by rw [hel,hal]; exact hd),if_pos ⟨h0,by rw [hal]; exact h1⟩,hel,runs_sizeOf hit,Result.andThen_ok,addr_add]
  | .one (.c (.el row o)),h=>
   obtain ⟨hok,⟨h0,h1⟩,h⟩:=h
   obtain ⟨it,_,hit,_⟩:=ty_ok hok
   obtain ⟨hz,b,o',q,rfl,hrow⟩:=hx
   refine ⟨.pointer (some ⟨b,o'+o+n.toNat*P.cellsOf e,none⟩),.one (.c (.el row (o+n.toNat*(ty P e).size))),?_,⟨fun _=>rfl,b,o',q,by rw [ty_size hok,Nat.add_assoc],hrow⟩,h⟩
   intro w
   rw [run_indexAt_array w t _ _ _ (by rw [hel,hal]; exact hd),if_pos ⟨h0,by rw [hal]; exact h1⟩,hel,runs_sizeOf hit,Result.andThen_ok,addr_add]
 | _=>rw [hk] at h; exact h.elim
theorem nilCheckK_ok {x:AV} {k:AV->Prop} {u:Value} (h:nilCheckK x k) (hx:AR w H γ m x u):(∃ a,u=.pointer (some a))/\k x:=by
 match x,h with
 | .one (.c (.pl p)),h=>obtain ⟨_,_,a,_,rfl⟩:=hx; exact ⟨⟨a,rfl⟩,h⟩
 | .one (.c (.el row o)),h=>obtain ⟨_,b,o',q,rfl,_⟩:=hx; exact ⟨⟨_,rfl⟩,h⟩
end
end Go.Am
end

section
namespace Go.Am
theorem refTs_get {p:Pl} {ts:List T} {j:Nat} {t:T} (h:(refTs p ts)[j]? = some t):∃ t',ts[j]? = some t'/\t=refT (p.add j) t':=by
 simp only [refTs,List.getElem?_map,List.getElem?_zipIdx,Option.map_map] at h
 cases ht:ts[j]? with
 | none=>rw [ht] at h; simp at h
 | some t'=>
  rw [ht] at h
  simp only [Option.map_some,Function.comp_apply,Option.some.injEq,Nat.zero_add] at h
  exact ⟨t',rfl,h.symm⟩
theorem refTs_length {p:Pl} {ts:List T}:(refTs p ts).length=ts.length:=by simp [refTs]
def isEl:AV->Bool
 | .one (.c (.el _ _))=>true
 | _=>false
section
variable {P:Program} {w:World} {H:FH} {γ:Gam} {m:Mm}
theorem okvT_of {t:T} {f:Fp} {y:Value} (h:TR w H γ m t f y):okvT t:=by
 cases t with
 | d x=>exact okv_of h.2
 | _=>trivial
theorem okvTs_of:∀ {ts:List T},(∀ (i:Nat) (t:T),ts[i]? = some t->okvT t)->okvTs ts
 | [],_=>trivial
 | t::ts,h=>⟨h 0 t rfl,okvTs_of (fun i t' ht=>h (i+1) t' (by simpa using ht))⟩
theorem okvs_of:∀ {ds:List D},(∀ (i:Nat) (x:D),ds[i]? = some x->okv x)->okvs ds
 | [],_=>trivial
 | x::ds,h=>⟨h 0 x rfl,okvs_of (fun i x' hx=>h (i+1) x' (by simpa using hx))⟩
theorem choose_list {p:Nat->Value->Prop}:∀ n,(∀ j,j<n->∃ v,p j v)->∃ l:List Value,l.length=n/\∀ (j:Nat) (v:Value),l[j]? = some v->p j v
 | 0,_=>⟨[],rfl,fun j v h=>by simp at h⟩
 | n+1,h=>by
  obtain ⟨l,h1,h2⟩:=choose_list n (fun j hj=>h j (by omega))
  obtain ⟨v,hv⟩:=h n (by omega)
  refine ⟨l++[v],by simp [h1],fun j v' hj=>?_⟩
  by_cases hjn:j<n
  ·rw [List.getElem?_append_left (by omega)] at hj; exact h2 j v' hj
  ·have:=lt_of_get hj
   simp at this
   obtain rfl:j=n:=by omega
   rw [List.getElem?_append_right (by omega),h1] at hj
   simp at hj; subst hj; exact hv
theorem loadK_ok {F:Nm->Fp} (hm:Mem w H γ m F) {t:TypeId} {x:AV} {k:AV->Prop} {u:Value} (h:loadK P m t x k) (hx:AR w H γ m x u) :
  ∃ z d,∃ B:Nat->Prop,(isEl x=true->∀ b,B b->∃ o y,H b o=some y)/\(∀ w2:World,(∀ b,B b->w2.heap[b]? = w.heap[b]?)->(Instr.loadAt t u).run P w2=.ok z w2)/\AR w H γ m d z/\k d:=by
 obtain ⟨hok,h⟩:=h
 obtain ⟨it,d,hit,hd,hag,hsz,_⟩:=ty_ok hok
 have hsize:(ty P t).size=P.cellsOf t:=ty_size hok
 match x,h with
 | .one (.c (.el row o)),h=>
  obtain ⟨hz,b,o',q,rfl,hrow⟩:=hx
  have cell:∀ j,j<row.length->∃ y,w.cell? ⟨b,o'+j,none⟩=some y/\FD H q (row.getD j default) y:=fun j hj=>by
   obtain ⟨y,h1,h2⟩:=hrow j hj; exact ⟨y,hm.agree _ _ _ h1,h2⟩
  have inB:∀ j,j<row.length->b=b/\∃ o y,H b o=some y:=fun j hj=>by
   obtain ⟨y,h1,h2⟩:=hrow j hj; exact ⟨rfl,_,y,h1⟩
  have hBB:isEl (.one (.c (.el row o)))=true->∀ c,(c=b/\∃ o y,H b o=some y)->∃ o y,H c o=some y:=fun _ c ⟨e,h⟩=>by subst e; exact h
  dsimp only at h
  split at h
  ·rename_i ha
   rw [ha] at hag
   obtain ⟨hl,h⟩:=h
   obtain ⟨us,hu1,hu2⟩:=choose_list (p:=fun j v=>w.cell? ⟨b,o'+o+j,none⟩=some v/\FD H q (row.getD (o+j) default) v) (ty P t).size (fun j hj=>by
    obtain ⟨y,h1,h2⟩:=cell (o+j) (by omega)
    exact ⟨y,by rw [Nat.add_assoc]; exact h1,h2⟩)
   have hlen:((row.drop o).take (ty P t).size).length=(ty P t).size:=by simp; omega
   have hcell:∀ (j:Nat) (x:D),((row.drop o).take (ty P t).size)[j]? = some x->∃ v,us[j]? = some v/\FDx H x v:=by
    intro j x hj
    have hjn:j < (ty P t).size:=by have:=lt_of_get hj; rw [hlen] at this; exact this
    rw [List.getElem?_take_of_lt hjn,List.getElem?_drop] at hj
    have hju:us[j]? = some (us[j]'(by omega)):=List.getElem?_eq_getElem (by omega)
    refine ⟨_,hju,q,?_⟩
    have:=(hu2 j _ hju).2
    rw [List.getD,hj] at this; exact this
   refine ⟨.agg us.toArray,.one (.agg (((row.drop o).take (ty P t).size).map T.d)),fun c=>c=b/\∃ o y,H b o=some y,hBB,?_,⟨us.toArray,rfl,by simp [hu1]; omega,?_⟩,h (okvs_of (fun i x hx=>?_))⟩
   ·intro w2 hw2
    exact runs_loadVar_agg hd (by rw [<- hag]) hit (by rw [hu1,hsize]) (fun j v hv=>(cell?_of_heap (hw2 b (inB (o+j) (by have:=lt_of_get hv; omega)))).trans (hu2 j v hv).1)
   ·refine Ts_zero (by simp [hu1]; omega) (fun i t' ht=>?_)
    simp only [List.getElem?_map,Option.map_eq_some_iff] at ht
    obtain ⟨x,hx,rfl⟩:=ht
    obtain ⟨v,hv1,hv2⟩:=hcell i x hx
    exact ⟨v,by simpa using hv1,fun _=>rfl,hv2⟩
   ·obtain ⟨v,_,hv2⟩:=hcell i x hx; exact okv_of hv2
  ·rename_i ha
   have ha':aggD d=false:=by rw [<- hag]; simpa using ha
   cases hr:row[o]? with
   | none=>rw [hr] at h; exact h.elim
   | some x=>
    rw [hr] at h
    obtain ⟨y,h1,h2⟩:=cell o (lt_of_get hr)
    rw [List.getD,hr] at h2
    exact ⟨y,sc x,fun c=>c=b/\∃ o y,H b o=some y,hBB,fun w2 hw2=>runs_loadVar_one hd ha' ((cell?_of_heap (hw2 b (inB o (lt_of_get hr)))).trans h1),⟨fun _=>rfl,q,h2⟩,h (okv_of ⟨q,h2⟩)⟩
 | .one (.c (.pl p)),h=>
  obtain ⟨hz,hokp,a,ha,rfl⟩:=hx
  obtain ⟨b,o,rfl⟩:=plA_none hm hokp ha
  dsimp only at h
  split at h
  ·rename_i hagg
   rw [hagg] at hag
   obtain ⟨ts,e1,e2,e3⟩:=atK_ok hm hokp h
   obtain ⟨us,hu1,hu2⟩:=choose_list (p:=fun j v=>w.cell? ⟨b,o+j,none⟩=some v/\∀ t',ts[j]? = some t'->TR w H γ m (refT (p.add j) t') (fun _=>0) v/\∃ f,TR w H γ m t' f v) (ty P t).size (fun j hj=>by
    have hjt:ts[j]? = some (ts[j]'(by omega)):=List.getElem?_eq_getElem (by omega)
    obtain ⟨g1,g2⟩:=e3 j _ hjt
    obtain ⟨v,v1,v2,v3,v4⟩:=place_val hm g2 g1
    refine ⟨v,v2 _ (plA_add ha),fun t' ht'=>?_⟩
    rw [hjt] at ht'
    simp only [Option.some.injEq] at ht'
    subst ht'
    exact ⟨v3,v4⟩)
   refine ⟨.agg us.toArray,.one (.agg (refTs p ts)),fun c=>c=b,fun h=>(by simp [isEl] at h),?_,⟨us.toArray,rfl,by simp [hu1,refTs_length,e1],?_⟩,e2 (okvTs_of (fun i t' ht=>?_))⟩
   ·intro w2 hw2
    exact runs_loadVar_agg hd (by rw [<- hag]) hit (by rw [hu1,hsize]) (fun j v hv=>(cell?_of_heap (hw2 b rfl)).trans (hu2 j v hv).1)
   ·refine Ts_zero (by simp [hu1,refTs_length,e1]) (fun i t' ht=>?_)
    obtain ⟨t2,h2,rfl⟩:=refTs_get ht
    have hi:i<us.length:=by have:=lt_of_get h2; omega
    have hiu:us[i]? = some us[i]:=List.getElem?_eq_getElem hi
    exact ⟨us[i],by simpa using hiu,((hu2 i _ hiu).2 t2 h2).1⟩
   ·have hi:i<us.length:=by have:=lt_of_get ht; omega
    have hiu:us[i]? = some us[i]:=List.getElem?_eq_getElem hi
    obtain ⟨f,hf⟩:=((hu2 i _ hiu).2 t' ht).2
    exact okvT_of hf
  ·rename_i hagg
   have ha':aggD d=false:=by rw [<- hag]; simpa using hagg
   obtain ⟨ts,e1,e2,e3⟩:=atK_ok hm hokp h
   match ts,e1 with
   | [t'],_=>
    obtain ⟨g1,g2⟩:=e3 0 t' rfl
    rw [add_zero] at g1 g2
    obtain ⟨v,v1,v2,v3,f,v4⟩:=place_val hm g2 g1
    exact ⟨v,.one (.c (refT p t')),fun c=>c=b,fun h=>(by simp [isEl] at h),fun w2 hw2=>runs_loadVar_one hd ha' ((cell?_of_heap (hw2 b rfl)).trans (v2 _ ha)),v3,e2 (okvT_of v4)⟩
theorem fieldK_ok {t:TypeId} {x:AV} {i:Nat} {k:AV->Prop} {u:Value} (h:fieldK P t x i k) (hx:AR w H γ m x u) :
  ∃ z d,(∀ w:World,(Instr.field t u i).run P w=.ok z w)/\AR w H γ m d z/\k d:=by
 unfold fieldK at h
 cases hk:(ty P t).k with
 | st fs=>
  rw [hk] at h
  match x,h with
  | .one (.agg ts),h=>
   obtain ⟨_,d,_,hd,he,_⟩:=ty_und hk (by simp)
   obtain ⟨fs',rfl,rfl⟩:=tk_st he
   obtain ⟨us,rfl,hu,hts⟩:=hx
   dsimp only at h
   cases hf:(fs'.toList.map fun f=>(f.offset,P.cellsOf f.type,aggT P f.type))[i]? with
   | none=>rw [hf] at h; exact h.elim
   | some q=>
    obtain ⟨off,size,ag⟩:=q
    rw [hf] at h
    simp only [List.getElem?_map,Option.map_eq_some_iff,Prod.mk.injEq] at hf
    obtain ⟨f,hf1,rfl,rfl,hag⟩:=hf
    have hf2:fs'[i]? = some f:=by simpa using hf1
    have hpart:∀ w:World,(Instr.field t (.agg us) i).run P w=(part f.type us f.offset).run P w:=by
     intro w
     simp only [Instr.field,Sem.run_bind,run_underlying hd,Result.andThen_ok,hf2]
     rfl
    simp only [hpart]
    have hus:us=us.toList.toArray:=by simp
    cases ag with
    | none=>exact h.elim
    | some ag=>
    simp only [aggT,Option.map_eq_some_iff] at hag
    obtain ⟨d',h1,h2⟩:=hag
    cases ag with
    | false=>
     dsimp only at h
     cases ht:ts[f.offset]? with
     | none=>rw [ht] at h; exact h.elim
     | some t'=>
      rw [ht] at h
      obtain ⟨v,hv,htr⟩:=Ts_get0 hts ht
      refine ⟨v,.one (.c t'),?_,htr,h⟩
      intro w
      rw [hus]; exact runs_part_one h1 h2 hv
    | true=>
     obtain ⟨hl,h⟩:=h
     obtain ⟨it,h3⟩:=info_of h1
     refine ⟨.agg ((us.toList.drop f.offset).take (P.cellsOf f.type)).toArray,.one (.agg ((ts.drop f.offset).take (P.cellsOf f.type))),?_,⟨_,rfl,?_,?_⟩,h⟩
     ·intro w
      rw [hus]; exact runs_part_agg h1 h2 h3 us.toList f.offset
     ·simp; omega
     ·refine Ts_zero (by simp; omega) (fun j t' ht=>?_)
      have hj:j<P.cellsOf f.type:=by have:=lt_of_get ht; simp at this; omega
      rw [List.getElem?_take_of_lt hj,List.getElem?_drop] at ht
      obtain ⟨v,hv,htr⟩:=Ts_get0 hts ht
      exact ⟨v,by simp only [List.getElem?_take_of_lt hj,List.getElem?_drop]; exact hv,htr⟩
 | _=>rw [hk] at h; exact h.elim
end
end Go.Am
end

section
namespace Go.Am
def T.sure:T->Bool
 | .any=>false
 | .d .any=>false
 | _=>true
def cellsAV:AV->Option (List T)
 | .one (.c t)=>some [t]
 | .one (.agg ts)=>some ts
 | _=>none
def overw {α:Type} (ts:List α) (off:Nat) (cs:List α):List α:=ts.take off++cs++ts.drop (off+cs.length)
def fillT (pl:Nat->Option (Nat×Nat)):List T->List (Nat×AV)->Option (List T)
 | ts,[]=>some ts
 | ts,(i,x)::r=>match pl i,cellsAV x with
  | some (off,size),some cs=>if cs.length=size/\off+cs.length<=ts.length/\cs.all T.sure=true then fillT pl (overw ts off cs) r else none
  | _,_=>none
def zst (P:Program) (t:TypeId):Option (List Value×List (Nat×Nat)):=
 match P.info? t,P.underlying t with
 | some it,some (.struct fields)=>match it.zero,fields.toList.mapM (fun f=>(P.info? f.type).map fun i=>(f.offset,i.size)) with
  | some z,some places=>if z.cells.all okT=true then some (z.cells.toList,places) else none
  | _,_=>none
 | some it,some (.array N e)=>match it.zero,P.info? e with
  | some z,some ie=>if z.cells.all okT=true then some (z.cells.toList,(List.range N).map fun i=>(i*ie.size,ie.size)) else none
  | _,_=>none
 | _,_=>none
theorem fill_more {f g:Nat->Option (Nat×Nat)} (hfg:∀ i q,f i=some q->g i=some q):∀ {ps:List (Nat×Value)} {cs r:Array Value},Instr.fill f cs ps=some r->Instr.fill g cs ps=some r
 | [],_,_,h=>h
 | (i,v)::ps,cs,r,h=>by
  simp only [Instr.fill] at h ⊢
  cases hf:f i with
  | none=>rw [hf] at h; cases h
  | some q=>
   rw [hf] at h
   rw [hfg _ _ hf]
   dsimp only at h ⊢
   split at h
   ·cases h
   ·rename_i hc
    rw [if_neg hc]
    exact fill_more hfg h
def buildK (P:Program) (t:TypeId) (parts:List (Nat×AV)) (k:AV->Prop):Prop:=
 match zst P t with
 | some (zs,places)=>match fillT (places[·]?) (zs.map cstT) parts with
  | some ts=>k (.one (.agg ts))
  | none=>False
 | none=>False
theorem foldl_set:∀ (cs:List Value) (j:Nat) (off:Nat) (arr:Array Value) (i:Nat),
  ((cs.zipIdx j).foldl (fun a (x:Value×Nat)=>a.setIfInBounds (off+x.2) x.1) arr)[i]? =
   if off+j<=i/\i<off+j+cs.length/\i<arr.size then cs[i-off-j]? else arr[i]?
 | [],j,off,arr,i=>by
  simp only [List.zipIdx_nil,List.foldl_nil,List.length_nil]
  rw [if_neg (by omega)]
 | c::cs,j,off,arr,i=>by
  rw [List.zipIdx_cons,List.foldl_cons,foldl_set cs (j+1) off _ i]
  simp only [Array.size_setIfInBounds,List.length_cons]
  by_cases h1:off+(j+1)<=i/\i<off+(j+1)+cs.length/\i<arr.size
  ·rw [if_pos h1,if_pos (by omega)]
   have:i-off-j=(i-off - (j+1))+1:=by omega
   rw [this,List.getElem?_cons_succ]
  ·rw [if_neg h1]
   by_cases h2:i=off+j
   ·subst h2
    by_cases h3:off+j<arr.size
    ·rw [if_pos (by omega)]
     have:off+j-off-j=0:=by omega
     rw [this]
     simp [h3]
    ·rw [if_neg (by omega),Array.getElem?_eq_none (by simp; omega),Array.getElem?_eq_none (by omega)]
   ·rw [if_neg (by omega),Array.getElem?_setIfInBounds_ne (by omega)]
theorem foldl_size:∀ (cs:List Value) (j:Nat) (off:Nat) (arr:Array Value),
  ((cs.zipIdx j).foldl (fun a (x:Value×Nat)=>a.setIfInBounds (off+x.2) x.1) arr).size=arr.size
 | [],j,off,arr=>rfl
 | c::cs,j,off,arr=>by
  rw [List.zipIdx_cons,List.foldl_cons,foldl_size cs (j+1) off _]; simp
section
variable {P:Program} {w:World} {H:FH} {γ:Gam} {m:Mm}
theorem sure_one {F:Nm->Fp} (hm:Mem w H γ m F) {t:T} {f:Fp} {y:Value} (h:TR w H γ m t f y) (hs:t.sure=true):oneC y=true:=by
 have ow:∀ {k:Nat} {sub:List Sh} {l:List (List D)} {g:Fp},OD w H k (.ow sub) (.li l) g y->oneC y=true:=by
  intro k sub l g h
  cases k with
  | zero=>simp [OD] at h
  | succ k=>obtain ⟨a,c,_,_,rfl,_⟩:=OD_cells h; rfl
 cases t with
 | d x=>
  cases x with
  | int k n=>obtain ⟨rfl,_⟩:=FDx_int h.2; rfl
  | bool b=>obtain rfl:=FDx_bool h.2; rfl
  | str l=>obtain ⟨rfl,_⟩:=FDx_str h.2; rfl
  | li l=>obtain ⟨a,c,rfl,_⟩:=FDx_li_inv h.2; rfl
  | v z=>obtain ⟨_,q,h⟩:=h; cases q <;> (obtain ⟨rfl,h⟩:=h; exact h)
  | any=>simp [T.sure] at hs
 | nil=>obtain ⟨_,rfl⟩:=h; rfl
 | ow sub l=>obtain ⟨k,h⟩:=h; exact ow h
 | mp l=>obtain ⟨b,es,ck,rfl,_⟩:=h; rfl
 | el row off=>obtain ⟨_,b,o,q,rfl,_⟩:=h; rfl
 | pl p=>obtain ⟨_,_,a,_,rfl⟩:=h; rfl
 | rf p=>
  obtain ⟨_,hr,hv⟩:=h
  have hok:=okPl_of_rf hr
  have hg:∃ x,getPl m p=some x/\((∃ s l,x=.ow s l)\/∃ l,x=.mp l):=by
   obtain ⟨r,hr',hc⟩:=okRf_iff.1 hr
   unfold okRfCells at hc
   unfold getPl
   rw [hr']
   cases ht:r.cells[p.off]? with
   | none=>rw [ht] at hc; cases hpq:p.path <;> (rw [hpq] at hc; exact hc.elim)
   | some tt=>
    cases hpq:p.path with
    | nil=>
     rw [ht,hpq] at hc
     cases tt with
     | ow sub l=>exact ⟨_,by dsimp only; exact ht,.inl ⟨_,_,rfl⟩⟩
     | mp l=>exact ⟨_,by dsimp only; exact ht,.inr ⟨_,rfl⟩⟩
     | _=>exact hc.elim
    | cons st u=>
     rw [ht,hpq] at hc
     cases tt with
     | ow sub l=>
      obtain ⟨s,l',e⟩:=lookO_some_ow (P:=True) hc.2
      exact ⟨.ow s l',by simp only [ht,e],.inl ⟨_,_,rfl⟩⟩
     | _=>exact hc.elim
  obtain ⟨x,hg,hx⟩:=hg
  obtain ⟨v,v1,_,_,f',v4⟩:=place_val hm hok hg
  rw [hv] at v1
  simp only [Option.some.injEq] at v1
  subst v1
  rcases hx with ⟨s,l,rfl⟩ | ⟨l,rfl⟩
  ·obtain ⟨k,v4⟩:=v4
   exact ow v4
  ·obtain ⟨b,es,ck,rfl,_⟩:=v4; rfl
 | any=>simp [T.sure] at hs
theorem cells_one {y:Value} (h:oneC y=true):y.cells=#[y]:=by
 cases y <;> first | rfl | (simp [oneC] at h)
theorem AR_cells {F:Nm->Fp} (hm:Mem w H γ m F) {x:AV} {v:Value} {cs:List T} (hx:AR w H γ m x v) (hc:cellsAV x=some cs) (hs:cs.all T.sure=true) :
  v.cells.size=cs.length/\Ts (TR w H γ m) cs (fun _=>0) v.cells.toList:=by
 match x,hc with
 | .one (.c t),hc=>
  simp only [cellsAV,Option.some.injEq] at hc
  subst hc
  have hone:oneC v=true:=sure_one hm hx (by simpa using hs)
  rw [cells_one hone]
  exact ⟨rfl,v,[],fun _=>0,fun _=>0,rfl,fun _=>rfl,hx,fun _=>rfl⟩
 | .one (.agg ts),hc=>
  simp only [cellsAV,Option.some.injEq] at hc
  subst hc
  obtain ⟨cs',rfl,h1,h2⟩:=hx
  exact ⟨h1,h2⟩
def PR (w:World) (H:FH) (γ:Gam) (m:Mm):List (Nat×AV)->List (Nat×Value)->Prop
 | [],[]=>True
 | (i,x)::xs,(j,v)::vs=>i=j/\AR w H γ m x v/\PR w H γ m xs vs
 | _,_=>False
theorem overw_get {α:Type} {ts cs:List α} {off i:Nat} (h:off+cs.length<=ts.length):(overw ts off cs)[i]? = if off<=i/\i<off+cs.length then cs[i-off]? else ts[i]? := by
 unfold overw
 have hl:(ts.take off).length=off:=by simp; omega
 by_cases h1:i<off
 ·rw [if_neg (by omega),List.append_assoc,List.getElem?_append_left (by omega),List.getElem?_take_of_lt h1]
 ·rw [List.append_assoc,List.getElem?_append_right (by omega),hl]
  by_cases h2:i<off+cs.length
  ·rw [if_pos (by omega),List.getElem?_append_left (by omega)]
  ·rw [if_neg (by omega),List.getElem?_append_right (by omega),List.getElem?_drop]
   congr 1; omega
theorem overw_len {α:Type} {ts cs:List α} {off:Nat} (h:off+cs.length<=ts.length):(overw ts off cs).length=ts.length:=by
 unfold overw; simp; omega
theorem fill_ok {F:Nm->Fp} (hm:Mem w H γ m F) {pl:Nat->Option (Nat×Nat)}:∀ (parts:List (Nat×AV)) (vs:List (Nat×Value)) (ts:List T) (us:Array Value) (ts':List T),
  PR w H γ m parts vs->us.size=ts.length->Ts (TR w H γ m) ts (fun _=>0) us.toList->fillT pl ts parts=some ts' ->
  ∃ us',Instr.fill pl us vs=some us'/\us'.size=ts'.length/\Ts (TR w H γ m) ts' (fun _=>0) us'.toList:=by
 intro parts
 induction parts with
 | nil=>
  intro vs ts us ts' hp hl hu hf
  cases vs with
  | cons _ _=>exact hp.elim
  | nil=>
   simp only [fillT,Option.some.injEq] at hf
   subst hf
   exact ⟨us,rfl,hl,hu⟩
 | cons z parts ih=>
  obtain ⟨i,x⟩:=z
  intro vs ts us ts' hp hl hu hf
  cases vs with
  | nil=>exact hp.elim
  | cons z vs=>
   obtain ⟨j,v⟩:=z
   obtain ⟨rfl,hx,hp⟩:=hp
   simp only [fillT] at hf
   cases hpl:pl i with
   | none=>rw [hpl] at hf; simp at hf
   | some q=>
    obtain ⟨off,size⟩:=q
    rw [hpl] at hf
    cases hcs:cellsAV x with
    | none=>rw [hcs] at hf; simp at hf
    | some cs=>
     rw [hcs] at hf
     dsimp only at hf
     split at hf
     ·rename_i hcond
      obtain ⟨h1,h2,h3⟩:=hcond
      obtain ⟨c1,c2⟩:=AR_cells hm hx hcs h3
      have hfold:v.cells.zipIdx.foldl (fun cs (c,j)=>cs.setIfInBounds (off+j) c) us=(v.cells.toList.zipIdx.foldl (fun a (x:Value×Nat)=>a.setIfInBounds (off+x.2) x.1) us):=by
       rw [<- Array.foldl_toList,Array.toList_zipIdx]
      have hget:=foldl_set v.cells.toList 0 off us
      have hsize:=foldl_size v.cells.toList 0 off us
      generalize hus:v.cells.toList.zipIdx.foldl (fun a (x:Value×Nat)=>a.setIfInBounds (off+x.2) x.1) us=us2 at hfold hget hsize
      have hcl:v.cells.toList.length=cs.length:=by simpa using c1
      have hts2:Ts (TR w H γ m) (overw ts off cs) (fun _=>0) us2.toList:=by
       refine Ts_zero (by rw [overw_len h2]; simpa [hl] using hsize) (fun i t ht=>?_)
       rw [overw_get h2] at ht
       have hgi:=hget i
       by_cases hr:off<=i/\i<off+cs.length
       ·rw [if_pos hr] at ht
        obtain ⟨u,hu1,hu2⟩:=Ts_get0 c2 ht
        refine ⟨u,?_,hu2⟩
        rw [if_pos (by rw [hcl]; omega)] at hgi
        rw [Array.getElem?_toList,hgi]; exact hu1
       ·rw [if_neg hr] at ht
        obtain ⟨u,hu1,hu2⟩:=Ts_get0 hu ht
        refine ⟨u,?_,hu2⟩
        rw [if_neg (by rw [hcl]; omega)] at hgi
        rw [Array.getElem?_toList,hgi]; simpa using hu1
      obtain ⟨us',e1,e2,e3⟩:=ih vs (overw ts off cs) us2 ts' hp (by rw [overw_len h2,hsize,hl]) hts2 hf
      refine ⟨us',?_,e2,e3⟩
      simp only [Instr.fill,hpl]
      rw [if_neg (by simp only [c1,h1,ne_eq,not_true_eq_false,Bool.false_or,decide_false]; simp; omega),hfold]
      exact e1
     ·simp at hf
end
end Go.Am
end

section
namespace Go.Am
theorem Fr.trans {w0 w w':World} {H0 H H':FH} {own0 tt tt':Fp} (h:Fr w0 H0 own0 w H tt) (k:Fr w H tt w' H' tt'):Fr w0 H0 own0 w' H' tt':=by
 refine ⟨Nat.le_trans h.size k.size,k.os.trans h.os,k.tape.trans h.tape,k.output.trans h.output,fun i hi h0=>?_,fun b o y hy=>k.hold _ _ _ (h.hold _ _ _ hy),fun b o h1 h2=>?_,fun b hb=>?_,fun b hb=>k.nz.1 b (h.nz.1 b hb),fun b o x l c h1 h2=>?_⟩
 ·have:tt i=0:=by
   rcases Nat.eq_zero_or_pos (tt i) with h' | h'
   ·exact h'
   ·rcases h.tt i (by omega) with h1 | h1 <;> omega
  rw [k.block i (by have:=h.size; omega) this]; exact h.block i hi h0
 ·by_cases hH:H b o=none
  ·rcases k.hnew b o h1 hH with h3 | h3
   ·exact h.tt b h3
   ·right; have:=h.size; omega
  ·exact h.hnew b o hH h2
 ·rcases k.tt b hb with h1 | h1
  ·exact h.tt b h1
  ·right; have:=h.size; omega
 ·cases hH:H b o with
  | none=>exact k.nz.2 b o x l c h1 hH
  | some y=>
   have:=(k.hold b o y hH).symm.trans h1
   cases this
   exact k.nz.1 b (h.nz.2 b o x l c hH h2)
theorem Fr.refl' {w w':World} {H:FH} {tt tt':Fp} (h1:w'.heap=w.heap) (h2:w'.os=w.os) (h3:w'.tape=w.tape) (h4:w'.output=w.output) (h5:∀ b,tt' b≠0->tt b≠0):Fr w H tt w' H tt':=
 ⟨by rw [h1]; exact Nat.le_refl _,h2,h3,h4,fun _ _ _=>by rw [h1],fun _ _ _ h=>h,fun b o h1 h2=>absurd h2 h1,fun b hb=>.inl (h5 b hb),fun b hb=>hb.of_block (by rw [h1]),fun b o x l c h1 h2=>by rw [h2] at h1; cases h1⟩
section
variable {P:Program} {g:G} {s:S} {a:Act} {w:World} {H:FH} {γ:Gam} {F:Nm->Fp}
theorem RX_step (h:RX g s a w H γ F) {w':World} {H':FH} {γ':Gam} {m':Mm} {F':Nm->Fp} (hm:Mem w' H' γ' m' F') (hf:Fr w H (tot F s.m) w' H' (tot F' m')) {t':List (Nat×AV)}
  (ht:∀ i,AR w' H' γ' m' (getT t' i) (g.tv a i)) (hγ:∀ j,γ' (.out j)=γ (.out j)):RX g ⟨t',m'⟩ a w' H' γ' F':=⟨hm,h.fr.trans hf,h.nt,⟨h.df.1,fun j b e=>(hγ j).trans (h.df.2.1 j b e),h.df.2.2⟩,ht⟩
theorem upd_out {γ:Gam} {n:Nm} {x:RC} (hno:n.isOut=false) (j:Nat):upd γ n x (.out j)=γ (.out j):=by
 unfold upd
 rw [if_neg]
 intro e
 subst e
 simp [Nm.isOut] at hno
theorem heap_alloc_old' {w:World} {o:Obj} {k:Nat} (h:k<w.heap.size):(w.alloc o).heap[k]? = w.heap[k]? := by
 show (w.heap.push o)[k]? = _
 rw [Array.getElem?_push,if_neg (by omega)]
theorem heap_alloc_new' {w:World} {o:Obj}:(w.alloc o).heap[w.heap.size]? = some o:=by
 show (w.heap.push o)[w.heap.size]? = _
 rw [Array.getElem?_push,if_pos rfl]
theorem Mem_alloc {m:Mm} (hm:Mem w H γ m F) (cs:Array Value) (ty:TypeId) (fz:Bool) :
  let w':=w.alloc (.cells cs ty)
  let H':FH:=fun b o=>if fz=true/\b=w.heap.size then cs[o]? else H b o
  Mem w' H' γ m F/\Fr w H (tot F m) w' H' (tot F m)/\Keeps w γ m w' γ m/\(∀ b o y,H b o=some y->H' b o=some y):=by
 intro w' H'
 have hHb:∀ b o y,H b o=some y->b<w.heap.size:=fun b o y h=>World.block_lt_of_cell? _ _ (hm.agree b o y h)
 have hH:∀ b o y,H b o=some y->H' b o=some y:=by
  intro b o y h
  have:=hHb b o y h
  simp only [H']; rw [if_neg (by omega)]; exact h
 have hold:∀ k,k<w.heap.size->w'.heap[k]? = w.heap[k]? := fun k hk=>heap_alloc_old' hk
 have hK:=Keeps_grow (w':=w') hm (fun b hb=>hold b (hm.lt b hb))
 have hin:∀ x∈m,∀ b,F x.1 b≠0->b<w.heap.size:=fun x hx b hb=>hm.lt b (by have:=tot_ge (F:=F) hx b; omega)
 refine ⟨⟨?_,?_,hm.keys,hm.le1,?_,?_⟩,⟨by simp [w'],rfl,rfl,rfl,fun k hk _=>hold k hk,hH,?_,fun b hb=>.inl hb,fun b hb=>hb.of_block (hold b hb.lt),fun b o x l c h1 h2=>?_⟩,hK,hH⟩
 ·intro b o y hy
  simp only [H'] at hy
  split at hy
  ·rename_i hc
   rw [hc.2]
   simp only [World.cell?,w',heap_alloc_new',Option.isSome_none,Bool.false_eq_true,if_false]
   exact hy
  ·have:=hm.agree b o y hy
   rw [cell?_of_heap (hold b (hHb b o y hy))]; exact this
 ·intro x hx
  exact RootR_keeps hK hH rfl (fun b hb=>hold b (hin x hx b hb)) (hm.roots x hx)
 ·intro b hb; have:=hm.lt b hb; simp only [w',World.size_alloc]; omega
 ·intro b hb o
  have:=hm.lt b hb
  simp only [H']; rw [if_neg (by omega)]; exact hm.nofz b hb o
 ·intro b o h1 h2
  simp only [H'] at h1
  split at h1
  ·rename_i hc; right; omega
  ·exact absurd h2 h1
 ·simp only [H'] at h1
  split at h1
  ·rename_i hc; rw [hc.2]; exact ⟨cs,ty,heap_alloc_new'⟩
  ·rw [h2] at h1; cases h1
theorem RX_alloc (h:RX g s a w H γ F) {n:Nm} (hno:n.isOut=false) (hn:getR s.m n=none) {ts:List T} {cs:Array Value} (hl:cs.size=ts.length) (hts:Ts (TR w H γ s.m) ts (fun _=>0) cs.toList) (ty:TypeId) (hty:∀ t,n.tyd=some t->ty=t) :
  ∃ γ' F',RX g ⟨s.t,(n,⟨true,ts⟩)::s.m⟩ a (w.alloc (.cells cs ty)) H γ' F'/\γ' n=.blk w.heap.size:=by
 obtain ⟨hm,hf,hK,hH⟩:=Mem_alloc h.mem cs ty false
 simp only [Bool.false_eq_true,false_and,if_false] at hm hf hK hH
 have hK2:=Keeps_add (w:=w.alloc (.cells cs ty)) (γ:=γ) (rc:=.blk w.heap.size) (r:=⟨true,ts⟩) hn
 have hz:tot F s.m w.heap.size=0:=by
  rcases Nat.eq_zero_or_pos (tot F s.m w.heap.size) with h' | h'
  ·exact h'
  ·have:=h.mem.lt w.heap.size (by omega); omega
 have hHz:∀ o,H w.heap.size o=none:=by
  intro o
  cases hc:H w.heap.size o with
  | none=>rfl
  | some y=>have:=World.block_lt_of_cell? _ _ (h.mem.agree _ _ _ hc); simp at this
 obtain ⟨hm2,ht2⟩:=Mem_add hm (n:=n) (rc:=.blk w.heap.size) (r:=⟨true,ts⟩) (f:=fun b=>0+if b=w.heap.size then 1 else 0) hn (by
   unfold RootR
   rw [if_pos rfl]
   refine ⟨w.heap.size,cs,ty,(0,0),fun _=>0,upd_same,heap_alloc_new',⟨rfl,hty⟩,hl,?_,fun _=>rfl⟩
   exact Ts_keeps hK2 (fun _ _ _ h=>h) (fun _ hb=>absurd rfl hb) (Ts_keeps hK (fun _ _ _ h=>h) (fun _ hb=>absurd rfl hb) hts))
  (fun b=>by
   by_cases hb:b=w.heap.size
   ·subst hb; rw [hz]; simp
   ·rw [if_neg hb]; have:=h.mem.le1 b; omega)
  (fun b hb=>by
   have hb':b=w.heap.size:=by
    by_cases hb':b=w.heap.size
    ·exact hb'
    ·rw [if_neg hb'] at hb; simp at hb
   subst hb'
   exact ⟨by simp,hHz⟩)
 refine ⟨_,_,RX_step h hm2 ?_ (fun i=>AR_keeps hK2 (fun _ _ _ h=>h) (AR_keeps hK (fun _ _ _ h=>h) (h.t i))) (upd_out hno),upd_same⟩
 refine ⟨hf.size,hf.os,hf.tape,hf.output,hf.block,hf.hold,hf.hnew,fun b hb=>?_,hf.nz⟩
 rw [ht2] at hb
 by_cases hb':b=w.heap.size
 ·right; omega
 ·rw [if_neg hb'] at hb; left; omega
theorem RX_ghost (h:RX g s a w H γ F) {n:Nm} (hno:n.isOut=false) (hn:getR s.m n=none) {v:Value} {t:T} {f:Fp} (ht:TR w H γ s.m t f v) (hd:∀ b,tot F s.m b+f b<=1) (hl:∀ b,f b≠0->b<w.heap.size/\∀ o,H b o=none)
  (hnew:∀ b,f b≠0->g.own0 b≠0\/g.w0.heap.size<=b) :
  ∃ γ' F',RX g ⟨s.t,(n,⟨false,[t]⟩)::s.m⟩ a w H γ' F'/\γ' n=.gh v:=by
 have hK2:=Keeps_add (w:=w) (γ:=γ) (rc:=.gh v) (r:=⟨false,[t]⟩) hn
 obtain ⟨hm2,ht2⟩:=Mem_add h.mem (n:=n) (rc:=.gh v) (r:=⟨false,[t]⟩) (f:=f) hn (by
   unfold RootR
   rw [if_neg (by simp)]
   exact ⟨v,t,upd_same,rfl,TR_keeps hK2 (fun _ _ _ h=>h) (fun _ _=>rfl) ht⟩) hd hl
 refine ⟨_,_,⟨hm2,?_,h.nt,⟨h.df.1,fun j b e=>(upd_out hno j).trans (h.df.2.1 j b e),h.df.2.2⟩,fun i=>AR_keeps hK2 (fun _ _ _ h=>h) (h.t i)⟩,upd_same⟩
 refine ⟨h.fr.size,h.fr.os,h.fr.tape,h.fr.output,h.fr.block,h.fr.hold,h.fr.hnew,fun b hb=>?_,h.fr.nz⟩
 rw [ht2] at hb
 by_cases hf:f b=0
 ·exact h.fr.tt b (by omega)
 ·exact hnew b hf
end
end Go.Am
end

section
namespace Go.Am
def setIn (sub:List Sh) (l:List (List D)) (t:T):List Step->(List (List D)->Prop)->Prop
 | [],_=>False
 | [st],k=>match l[st.idx]? with
  | some x=>match sub[st.off]?,x[st.off]? with
   | some .fr,some _=>fitsSh .fr t/\k (l.set st.idx (x.set st.off t.toD))
   | some (.ow s),some .any=>fitsSh (.ow s) t/\k (l.set st.idx (x.set st.off t.toD))
   | _,_=>False
  | none=>False
 | st::st'::r,k=>match l[st.idx]? with
  | some x=>match sub[st.off]?,x[st.off]? with
   | some (.ow s),some (.li l')=>setIn s l' t (st'::r) fun l''=>k (l.set st.idx (x.set st.off (.li l'')))
   | _,_=>False
  | none=>False
def putK (m:Mm) (p:Pl) (t:T) (k:Mm->Prop):Prop:=
 match getR m p.root with
 | none=>False
 | some r=>match p.path,r.cells[p.off]? with
  | [],some t0=>t0.owned=false/\k (setR m p.root { r with cells:=r.cells.set p.off t })
  | st::q,some (.ow sub l)=>setIn sub l t (st::q) fun l'=>k (setR m p.root { r with cells:=r.cells.set p.off (.ow sub l') })
  | _,_=>False
def T.ment (n:Nm):T->Bool
 | .pl p=>decide (p.root=n)
 | .rf p=>decide (p.root=n)
 | _=>false
def S.drop (s:S) (n:Nm):S:=⟨killT (badR n) s.t,killM (badR n) (delR s.m n)⟩
def storesK (s:S) (p:Pl):List T->(S->Prop)->Prop
 | [],k=>k s
 | .rf q::ts,k=>match getR s.m q.root with
  | some ⟨false,[.ow sub l]⟩=>q.path=[]/\q.root≠p.root/\(ts.all fun t=>!t.ment q.root)=true/\putK (s.drop q.root).m p (.ow sub l) fun m'=>storesK ⟨(s.drop q.root).t,m'⟩ (p.add 1) ts k
  | _=>False
 | .any::_,_=>False
 | .d .any::_,_=>False
 | t::ts,k=>putK s.m p t fun m'=>storesK ⟨s.t,m'⟩ (p.add 1) ts k
theorem setIn_ok:∀ (p:List Step) (sub:List Sh) (l:List (List D)) (t:T) (k:List (List D)->Prop),(∀ N,wfO N sub l)->okO sub l p->setIn sub l t p k ->
  k (setO sub l t.toD p)/\∃ s x,lookO sub l p=some (s,x)/\fitsSh s t/\∀ s' l',(s,x)≠(.ow s',.li l'):=by
 intro p
 induction p with
 | nil=>intro sub l t k _ h; exact h.elim
 | cons st r ih=>
  intro sub l t k hwf hok hin
  cases r with
  | nil=>
   obtain ⟨h1,h2,h3⟩:=hok
   have hx:l[st.idx]? = some l[st.idx]:=List.getElem?_eq_getElem h1
   have hg:l.getD st.idx []=l[st.idx]:=by simp [List.getD,h1]
   unfold setIn at hin
   rw [hx] at hin
   dsimp only at hin
   cases hs:sub[st.off]? with
   | none=>rw [hs] at hin; exact hin.elim
   | some s=>
    rw [hs] at hin
    cases hd:(l[st.idx])[st.off]? with
    | none=>rw [hd] at hin; cases s <;> exact hin.elim
    | some d=>
     rw [hd] at hin
     have hd':(l.getD st.idx []).getD st.off default=d:=by rw [hg,List.getD,hd]; rfl
     cases s with
     | fr=>
      refine ⟨by simp only [setO,hg]; exact hin.2,.fr,d,by simp only [lookO,hs,hd',Option.map_some],hin.1,fun s' l' h=>by simp at h⟩
     | ow s=>
      cases d with
      | any=>exact ⟨by simp only [setO,hg]; exact hin.2,.ow s,.any,by simp only [lookO,hs,hd',Option.map_some],hin.1,fun s' l' h=>by simp at h⟩
      | _=>exact hin.elim
  | cons st' u=>
   obtain ⟨⟨h1,h2,h3⟩,hok⟩:=hok
   have hx:l[st.idx]? = some l[st.idx]:=List.getElem?_eq_getElem h1
   have hg:l.getD st.idx []=l[st.idx]:=by simp [List.getD,h1]
   unfold setIn at hin
   rw [hx] at hin
   dsimp only at hin
   cases hs:sub[st.off]? with
   | none=>rw [hs] at hok; exact hok.elim
   | some s=>
    rw [hs] at hok hin
    cases s with
    | fr=>exact hok.elim
    | ow s=>
     cases hd:(l[st.idx])[st.off]? with
     | none=>rw [hd] at hin; exact hin.elim
     | some d=>
      have hd':(l.getD st.idx []).getD st.off default=d:=by rw [hg,List.getD,hd]; rfl
      rw [hd'] at hok
      rw [hd] at hin
      cases d with
      | li l'=>
       dsimp only at hin hok
       obtain ⟨k1,s1,x1,k2,k3,k4⟩:=ih s l' t _ (fun N=>(hwf (N+1)).2 st.idx st.off s l' hs hd') hok hin
       refine ⟨by simp only [setO,hs,hd']; rw [hg]; exact k1,s1,x1,by simp only [lookO,hs,hd']; exact k2,k3,k4⟩
      | _=>exact hok.elim
section
variable {P:Program} {g:G} {s:S} {a:Act} {w:World} {H:FH} {γ:Gam} {F:Nm->Fp}
theorem putK_ok {m:Mm} (hm:Mem w H γ m F) {p:Pl} (hok:okPl m p) {t:T} {k:Mm->Prop} (h:putK m p t k) :
  k (putPl m p t)/\∃ t0,getPl m p=some t0/\t0.owned=false/\(p.path=[]\/∃ s,shPl m p=some s/\fitsSh s t):=by
 obtain ⟨r,h1,h2⟩:=okPl_iff.1 hok
 obtain ⟨nm,off,path⟩:=p
 dsimp only at h1 h2
 unfold putK at h
 rw [h1] at h
 dsimp only at h
 cases path with
 | nil=>
  cases ht:r.cells[off]? with
  | none=>rw [ht] at h; exact h.elim
  | some t0=>
   rw [ht] at h
   refine ⟨by simp only [putPl,h1]; exact h.2,t0,by simp only [getPl,h1,ht],h.1,.inl rfl⟩
 | cons st u=>
  dsimp only [okCells] at h2
  cases ht:r.cells[off]? with
  | none=>rw [ht] at h2; exact h2.elim
  | some t0=>
   rw [ht] at h2 h
   cases t0 with
   | ow sub l=>
    dsimp only at h2 h
    have hwf:∀ N,wfO N sub l:=by
     intro N
     obtain ⟨v,g,_,⟨k,c2⟩,_⟩:=RootR_cell (hm.roots _ (getR_mem h1)) ht
     exact OD_wfO N k sub l g v c2
    obtain ⟨k1,s,x,k2,k3,k4⟩:=setIn_ok (st::u) sub l t _ hwf h2 h
    refine ⟨by simp only [putPl,h1,ht]; exact k1,mkT s x,?_,?_,.inr ⟨s,by simp only [shPl,h1,ht,k2,Option.map_some],k3⟩⟩
    ·simp only [getPl,h1,ht,k2]
     cases s with
     | fr=>rfl
     | ow s'=>cases x <;> rfl
    ·cases s with
     | fr=>rfl
     | ow s'=>cases x with
      | li l'=>exact absurd rfl (k4 s' l')
      | _=>rfl
   | _=>exact h2.elim
theorem getT_drop {n:Nm} {i:Nat}:getT (s.drop n).t i=(getT s.t i).kill (badR n):=getT_killT _ _ _
theorem tot_del {m:Mm} {n:Nm} {r:Root} (hn:getR m n=some r) (b:Nat):tot F (delR m n) b+F n b=tot F m b:=by
 induction m with
 | nil=>simp [getR] at hn
 | cons x m ih=>
  obtain ⟨k,y⟩:=x
  simp only [getR] at hn
  simp only [delR]
  split
  ·rename_i e; subst e; rw [tot_cons]; dsimp only; omega
  ·rename_i e
   rw [if_neg e] at hn
   rw [tot_cons,tot_cons]; have:=ih hn; omega
theorem RX_takeG (h:RX g s a w H γ F) {n:Nm} {sub:List Sh} {l:List (List D)} (hn:getR s.m n=some ⟨false,[.ow sub l]⟩) :
  ∃ v f,γ n=.gh v/\(∀ m',TR w H γ m' (.ow sub l) f v)/\RX g (s.drop n) a w H γ F/\(∀ b,tot F (s.drop n).m b+f b<=tot F s.m b):=by
 have hr:=h.mem.roots _ (getR_mem hn)
 unfold RootR at hr
 dsimp only at hr
 rw [if_neg (by simp)] at hr
 obtain ⟨v,t,h1,h2,h3⟩:=hr
 simp only [List.cons.injEq,and_true] at h2
 subst h2
 have htot:∀ b,tot F (s.drop n).m b+F n b<=tot F s.m b:=by
  intro b
  have:tot F (s.drop n).m b=tot F (delR s.m n) b:=tot_killM
  rw [this,tot_del hn b]; exact Nat.le_refl _
 refine ⟨v,F n,h1,fun _=>h3,⟨Mem_del h.mem n,?_,h.nt,h.df,fun i=>?_⟩,htot⟩
 ·refine ⟨h.fr.size,h.fr.os,h.fr.tape,h.fr.output,h.fr.block,h.fr.hold,h.fr.hnew,fun b hb=>h.fr.tt b ?_,h.fr.nz⟩
  have:=htot b; omega
 ·rw [getT_drop]
  exact AR_kill KeepsB_del (fun _ _ _ h=>h) (h.t i)
theorem RX_drop (h:RX g s a w H γ F) (n:Nm):RX g (s.drop n) a w H γ F:=by
 refine ⟨Mem_del h.mem n,?_,h.nt,h.df,fun i=>?_⟩
 ·refine ⟨h.fr.size,h.fr.os,h.fr.tape,h.fr.output,h.fr.block,h.fr.hold,h.fr.hnew,fun b hb=>h.fr.tt b ?_,h.fr.nz⟩
  have e:tot F (s.drop n).m b=tot F (delR s.m n) b:=tot_killM
  have:=tot_delR (F:=F) (m:=s.m) (n:=n) (b:=b); omega
 ·rw [getT_drop]
  exact AR_kill KeepsB_del (fun _ _ _ h=>h) (h.t i)
theorem RX_store (h:RX g s a w H γ F) {p:Pl} (hok:okPl s.m p) {b k:Nat} (hA:plA w γ p=some ⟨b,k,none⟩) {t:T} {K:Mm->Prop} (hK:putK s.m p t K)
  {ft:Fp} {y:Value} (ht:TR w H γ s.m t ft y) (hone:oneC y=true) (hd:∀ c,tot F s.m c+ft c<=1) (hl:∀ c,ft c≠0->c<w.heap.size/\∀ o,H c o=none)
  (hnew:∀ c,ft c≠0->g.own0 c≠0\/g.w0.heap.size<=c) :
  (∃ z,w.cell? ⟨b,k,none⟩=some z)/\w.frozen? ⟨b,k,none⟩=false/\∃ m' F',K m'/\RX g ⟨s.t,m'⟩ a (w.setCell ⟨b,k,none⟩ y) H γ F'/\Keeps w γ s.m (w.setCell ⟨b,k,none⟩ y) γ m' /\
   (∀ c,tot F' m' c=tot F s.m c+ft c):=by
 obtain ⟨k1,t0,k2,k3,k4⟩:=putK_ok h.mem hok hK
 obtain ⟨m1,m2,m3⟩:=Mem_store h.mem hok k2 k3 hA ht hone k4 hd hl
 have hw:∀ a,a≠(⟨b,k,none⟩:Addr)->(w.setCell ⟨b,k,none⟩ y).cell? a=w.cell? a:=fun a ha=>World.cell?_setCell_other _ _ _ _ (fun e=>ha e.symm)
 have hKs:=Keeps_store h.mem hok k2 k3 (t:=t) hA hw
 obtain ⟨rp,hrp,_⟩:=okPl_iff.1 hok
 have hin:=(plA_in h.mem hok hA).1
 dsimp only at hin
 have htot:∀ c,tot (fun n c=>F n c+if n=p.root then ft c else 0) (putPl s.m p t) c=tot F s.m c+ft c:=by
  intro c
  have:putPl s.m p t=setR s.m p.root { rp with cells:=match p.path with
    | []=>rp.cells.set p.off t
    | st::q=>match rp.cells[p.off]? with
     | some (.ow sub l)=>rp.cells.set p.off (.ow sub (setO sub l t.toD (st::q)))
     | _=>rp.cells }:=by unfold putPl; rw [hrp]; try rfl
  rw [this,tot_setR,tot_upd h.mem.keys hrp]
 have htb:tot F s.m b≠0:=by have:=tot_ge (F:=F) (getR_mem hrp) b; dsimp only at this; omega
 refine ⟨m1,m2,putPl s.m p t,_,k1,⟨m3,?_,h.nt,h.df,fun i=>AR_keeps hKs (fun _ _ _ h=>h) (h.t i)⟩,hKs,htot⟩
 refine ⟨by simp only [World.size_setCell]; exact h.fr.size,h.fr.os,h.fr.tape,h.fr.output,fun j hj h0=>?_,h.fr.hold,h.fr.hnew,fun c hc=>?_,fun c h0=>(h.fr.nz.1 c h0).setCell,fun c o x l d h1 h2=>(h.fr.nz.2 c o x l d h1 h2).setCell⟩
 ·rw [heap_setCell_ne]
  ·exact h.fr.block j hj h0
  ·intro e
   subst e
   rcases h.fr.tt j htb with h1 | h1
   ·exact h1 h0
   ·omega
 ·rw [htot] at hc
  by_cases hf:ft c=0
  ·exact h.fr.tt c (by omega)
  ·exact hnew c hf
end
end Go.Am
end

section
namespace Go.Am
theorem addLast_addLast:∀ (p:List Step) (i j:Nat),addLast (addLast p i) j=addLast p (i+j):=by
 intro p
 induction p with
 | nil=>intros; rfl
 | cons a b ih=>
  intro i j
  cases b with
  | nil=>simp [addLast,Nat.add_assoc]
  | cons c d=>
   have:=ih i j
   simp only [addLast] at this ⊢
   cases hd:addLast (c::d) i with
   | nil=>exact absurd hd (addLast_map _ _ (by simp))
   | cons e f=>rw [hd] at this; simp only [addLast]; rw [this]
theorem add_add (p:Pl) (i j:Nat):(p.add i).add j=p.add (i+j):=by
 obtain ⟨n,o,path⟩:=p
 cases path with
 | nil=>simp [Pl.add,Nat.add_assoc]
 | cons a b=>
  simp only [Pl.add]
  have:=addLast_addLast (a::b) i j
  cases hd:addLast (a::b) i with
  | nil=>exact absurd hd (addLast_map _ _ (by simp))
  | cons e f=>rw [hd] at this; simp only; rw [this]
theorem kill_noment {n:Nm} {t:T} (h:t.ment n=false):t.kill (badR n)=t:=by
 cases t with
 | pl p=>simp only [T.ment,decide_eq_false_iff_not] at h; simp [T.kill,badR,h]
 | rf p=>simp only [T.ment,decide_eq_false_iff_not] at h; simp [T.kill,badR,h]
 | _=>rfl
def storeK (P:Program) (s:S) (t:TypeId) (x v:AV) (k:S->Prop):Prop:=
 match x,cellsAV v with
 | .one (.c (.pl p)),some ts=>(ty P t).ok=true/\ts.length=(ty P t).size/\hasRoom s.m p (ts.length - 1)/\storesK s p ts k
 | _,_=>False
section
variable {P:Program} {g:G} {s:S} {a:Act} {w:World} {H:FH} {γ:Gam} {F:Nm->Fp}
theorem run_store1 {b k:Nat} {v z:Value} (hv:oneC v=true) (hc:w.cell? ⟨b,k,none⟩=some z) (hf:w.frozen? ⟨b,k,none⟩=false) :
  (store ⟨b,k,none⟩ v).run P w=.ok () (w.setCell ⟨b,k,none⟩ v):=by
 cases v <;> first | (simp [oneC] at hv; done) | (simp [store,Sem.run,hc,hf])
theorem storesK_ok:∀ (ts:List T) (vs:List Value) (s:S) (w:World) (γ:Gam) (F:Nm->Fp) (p:Pl) (b k0 i:Nat) (K:S->Prop),RX g s a w H γ F ->
  (∀ j,j<ts.length->okPl s.m (p.add j)/\plA w γ (p.add j)=some ⟨b,k0+i+j,none⟩)->vs.length=ts.length->Ts (TR w H γ s.m) ts (fun _=>0) vs->storesK s p ts K ->
  ∃ s' w' γ' F',(storeCells ⟨b,k0,none⟩ vs i).run P w=.ok () w'/\K s'/\RX g s' a w' H γ' F':=by
 intro ts
 induction ts with
 | nil=>
  intro vs s w γ F p b k0 i K h _ hl _ hK
  cases vs with
  | nil=>exact ⟨s,w,γ,F,rfl,hK,h⟩
  | cons _ _=>simp at hl
 | cons t ts ih=>
  intro vs s w γ F p b k0 i K h hok hl hts hK
  cases vs with
  | nil=>simp at hl
  | cons v vs=>
  obtain ⟨v',r,f1,f2,hv,hf,ht,hrest⟩:=hts
  simp only [List.cons.injEq] at hv
  obtain ⟨rfl,rfl⟩:=hv
  have hf1:f1=fun _=>0:=by funext b; have:=hf b; dsimp only at this; omega
  have hf2:f2=fun _=>0:=by funext b; have:=hf b; dsimp only at this; omega
  subst hf1; subst hf2
  obtain ⟨hok0,hA0⟩:=hok 0 (by simp)
  rw [add_zero] at hok0 hA0
  simp only [Nat.add_zero] at hA0
  have go:∀ (s1:S) (F1:Nm->Fp) (t1:T) (ft:Fp) (K1:S->Prop),RX g s1 a w H γ F1->(∀ j,j < (t::ts).length->okPl s1.m (p.add j)/\plA w γ (p.add j)=some ⟨b,k0+i+j,none⟩) ->
    TR w H γ s1.m t1 ft v->oneC v=true->(∀ c,tot F1 s1.m c+ft c<=1)->(∀ c,ft c≠0->c<w.heap.size/\∀ o,H c o=none)->(∀ c,ft c≠0->g.own0 c≠0\/g.w0.heap.size<=c) ->
    Ts (TR w H γ s1.m) ts (fun _=>0) vs->putK s1.m p t1 (fun m'=>storesK ⟨s1.t,m'⟩ (p.add 1) ts K1) ->
    ∃ s' w' γ' F',(storeCells ⟨b,k0,none⟩ (v::vs) i).run P w=.ok () w'/\K1 s'/\RX g s' a w' H γ' F':=by
   intro s1 F1 t1 ft K1 h1 hok1 ht1 hone hd hl1 hnew hts1 hp
   obtain ⟨hok10,hA10⟩:=hok1 0 (by simp)
   rw [add_zero] at hok10 hA10
   simp only [Nat.add_zero] at hA10
   obtain ⟨⟨z,c1⟩,c2,m',F',c3,c4,c5,_⟩:=RX_store h1 hok10 hA10 hp ht1 hone hd hl1 hnew
   obtain ⟨s',w',γ',F'',e1,e2,e3⟩:=ih vs ⟨s1.t,m'⟩ (w.setCell ⟨b,k0+i,none⟩ v) γ F' (p.add 1) b k0 (i+1) K1 c4 (fun j hj=>by
     rw [add_add]
     obtain ⟨q1,q2⟩:=hok1 (1+j) (by simp; omega)
     obtain ⟨q3,q4⟩:=c5.pl _ q1
     refine ⟨q3,?_⟩
     rw [q4,q2]; congr 2; omega) (by simpa using hl) (Ts_keeps c5 (fun _ _ _ h=>h) (fun _ hb=>absurd rfl hb) hts1) c3
   refine ⟨s',w',γ',F'',?_,e2,e3⟩
   simp only [storeCells,Sem.run_bind,addr_add]
   rw [run_store1 hone c1 c2,Result.andThen_ok]
   exact e1
  have le:=fun c=>h.mem.le1 c
  have plain:t.sure=true->t.owned=false->(∀ q,t≠.rf q)->putK s.m p t (fun m'=>storesK ⟨s.t,m'⟩ (p.add 1) ts K)->∃ s' w' γ' F',(storeCells ⟨b,k0,none⟩ (v::vs) i).run P w=.ok () w'/\K s'/\RX g s' a w' H γ' F':=by
   intro hs _ _ hp
   exact go s F t (fun _=>0) K h hok ht (sure_one h.mem ht hs) (fun c=>by have:=le c; omega) (fun c hc=>absurd rfl hc) (fun c hc=>absurd rfl hc) hrest hp
  cases t with
  | rf q=>
   obtain ⟨n,o,path⟩:=q
   simp only [storesK] at hK
   cases hr:getR s.m n with
   | none=>rw [hr] at hK; exact hK.elim
   | some rr=>
    rw [hr] at hK
    obtain ⟨blk,cells⟩:=rr
    match blk,cells,hK,hr with
    | false,[.ow sub l],hK2,hr2=>
     obtain ⟨hp,hne,hnm,hK3⟩:=hK2
     try dsimp only at hp hne hnm hK3
     subst hp
     obtain ⟨u,f,hg,hT,h1,htot⟩:=RX_takeG h hr2
     have huv:u=v:=by
      obtain ⟨_,hrf,hpv⟩:=ht
      simp only [plV,rootCell,hg] at hpv
      split at hpv
      ·simpa using hpv
      ·simp at hpv
     subst huv
     have hown:∀ c,f c≠0->tot F s.m c≠0:=fun c hc=>by have:=htot c; omega
     have hone:oneC u=true:=sure_one h.mem (hT s.m) rfl
     refine go (s.drop n) F (.ow sub l) f K h1 (fun j hj=>?_) (hT _) hone (fun c=>by have:=htot c; have:=le c; omega) (fun c hc=>⟨h.mem.lt c (hown c hc),h.mem.nofz c (hown c hc)⟩) (fun c hc=>h.fr.tt c (hown c hc)) ?_ hK3
     ·obtain ⟨q1,q2⟩:=hok j hj
      have hroot:(p.add j).root=p.root:=by
       unfold Pl.add; cases p.path <;> rfl
      obtain ⟨q3,q4⟩:=(KeepsB_del (w:=w) (γ:=γ) (m:=s.m) (n:=n)).pl (p.add j) (by simp [badR,hroot]; exact fun e=>hne e.symm) q1
      exact ⟨q3,by rw [q4]; exact q2⟩
     ·have:=Ts_kill (KeepsB_del (w:=w) (γ:=γ) (m:=s.m) (n:=n)) (fun _ _ _ h=>h) (fun _ hb=>absurd rfl hb) hrest
      have e:ts.map (·.kill (badR n))=ts:=by
       rw [List.map_congr_left (g:=id)]
       ·simp
       ·intro t' ht'
        have:=(List.all_eq_true.1 hnm) t' ht'
        exact kill_noment (by simpa using this)
      rw [e] at this; exact this
  | any=>exact hK.elim
  | d x=>
   cases x with
   | any=>exact hK.elim
   | _=>exact plain rfl rfl (fun q h=>by simp at h) hK
  | nil=>exact plain rfl rfl (fun q h=>by simp at h) hK
  | ow sub l=>
   refine go s F (.ow sub l) (fun _=>0) K h hok ht (sure_one h.mem ht rfl) (fun c=>by have:=le c; omega) (fun c hc=>absurd rfl hc) (fun c hc=>absurd rfl hc) hrest hK
  | mp l=>obtain ⟨b',_,_,_,_,_,_,h5⟩:=ht; exact absurd (h5 b') (by simp)
  | el row off=>exact plain rfl rfl (fun q h=>by simp at h) hK
  | pl q=>exact plain rfl rfl (fun q h=>by simp at h) hK
theorem storeK_ok (h:RX g s a w H γ F) {t:TypeId} {x v:AV} {k:S->Prop} {ux uv:Value} (hK:storeK P s t x v k) (hx:AR w H γ s.m x ux) (hv:AR w H γ s.m v uv) :
  ∃ s' w' γ' F',(Instr.storeAt t ux uv).run P w=.ok () w'/\k s'/\RX g s' a w' H γ' F':=by
 unfold storeK at hK
 match x,hK with
 | .one (.c (.pl p)),hK=>
  cases hc:cellsAV v with
  | none=>rw [hc] at hK; exact hK.elim
  | some ts=>
   rw [hc] at hK
   obtain ⟨hok,hlen,hroom,hK⟩:=hK
   obtain ⟨it,d,hit,_⟩:=ty_ok hok
   obtain ⟨hz,hokp,ad,hA,rfl⟩:=hx
   obtain ⟨b,k0,rfl⟩:=plA_none h.mem hokp hA
   have hcells:uv.cells.size=ts.length/\Ts (TR w H γ s.m) ts (fun _=>0) uv.cells.toList:=by
    match v,hc with
    | .one (.c t'),hc=>
     simp only [cellsAV,Option.some.injEq] at hc
     subst hc
     have hs:t'.sure=true:=by
      cases t' with
      | any=>exact hK.elim
      | d x=>cases x <;> first | rfl | exact hK.elim
      | _=>rfl
     exact AR_cells h.mem (x:=.one (.c t')) hv rfl (by simp [hs])
    | .one (.agg ts'),hc=>
     simp only [cellsAV,Option.some.injEq] at hc
     subst hc
     obtain ⟨cs',rfl,h1,h2⟩:=hv
     exact ⟨h1,h2⟩
   have hrm:∀ j,j<ts.length->hasRoom s.m p j:=by
    intro j hj
    unfold hasRoom at hroom ⊢
    cases hr:room s.m p with
    | none=>rw [hr] at hroom; exact hroom.elim
    | some n=>rw [hr] at hroom; dsimp only at hroom ⊢; omega
   obtain ⟨s',w',γ',F',e1,e2,e3⟩:=storesK_ok (P:=P) ts uv.cells.toList s w γ F p b k0 0 k h (fun j hj=>⟨okPl_add hokp (hrm j hj),by rw [plA_add hA]; rfl⟩) (by simpa using hcells.1) hcells.2 hK
   refine ⟨s',w',γ',F',?_,e2,e3⟩
   simp only [Instr.storeAt,Instr.sureAddr,Sem.run_bind,Sem.run_pure,Result.andThen_ok,storeVar,runs_sizeOf hit]
   rw [if_neg (by rw [hcells.1,hlen,ty_size hok]; simp)]
   exact e1
end
end Go.Am
end
