/-
  Part 6: AmIndex · AmBuild · AmMake · AmAlloc · AmWrite · AmStoreOp.
-/
import Derived.Test.YtjccmeppajblpaaGreatDoorSn5
import Derived.Laws.Tables
set_option linter.unusedSimpArgs false
set_option linter.unusedVariables false
set_option linter.unusedSectionVars false
set_option linter.unnecessarySimpa false
section
namespace Go.Am
section
variable {P:Program} {w:World} {H:FH} {γ:Gam} {m:Mm}
theorem Ew:∀ (p:List Step) (y:Value) (st:Step) (b k:Nat) (v:Value),aK w y p=some ⟨b,k,none⟩->w.cell? ⟨b,k,none⟩=some v->aK w y (p++[st])=aK w v [st]:=by
 intro p;induction p with
 | nil=>intro y st b k v h; cases y <;> simp [aK] at h
 | cons s r ih=>
  intro y st b k v h hv;cases y with
  | slice a len c=>
   cases a with
   | none=>cases r <;> simp [aK] at h
   | some a=>
    obtain ⟨b0,o,sp⟩:=a;cases sp with
    | some _=>cases r <;> simp [aK] at h
    | none=>
     cases r with
     | nil=>
      simp only [aK,SJ,Addr.mk.injEq,and_true] at h;obtain ⟨rfl,rfl⟩:=h;simp only [Tz,TZ,aK,hv]
     | cons t u=>
      simp only [aK] at h;simp only [Tz,aK];cases hc:w.cell? ⟨b0,o+s.idx*s.esz+s.off,none⟩ with
      | none=>rw [hc] at h; simp at h
      | some v'=>
       rw [hc] at h;have:=ih v' st b k v h hv
       simpa only [Tz] using this
  | _=>cases r <;> simp [aK] at h
theorem Kx:∀ (p:List Step) (sub0 sub:List Sh) (l0 l:List (List D)) (st:Step),okO sub0 l0 p->bb sub0 l0 p=some (.ow sub,.li l)->okO sub l [st]->okO sub0 l0 (p++[st]):=by
 intro p;induction p with
 | nil=>intro sub0 sub l0 l st h; exact h.elim
 | cons s r ih=>
  intro sub0 sub l0 l st h hl hst;cases r with
  | nil=>
   simp only [bb,Tq,Prod.mk.injEq] at hl;obtain ⟨s',hs,rfl,hd⟩:=hl;simp only [Tz,TZ,okO,hs,hd];exact ⟨h,hst⟩
  | cons t u=>
   obtain ⟨h1,h2⟩:=h;simp only [Tz,okO];refine ⟨h1,?_⟩;cases hs:sub0[s.off]? with
   | none=>rw [hs] at h2; exact h2.elim
   | some s'=>
    rw [hs] at h2;cases s' with
    | fr=>exact h2.elim
    | ow s'=>
     cases hd:(l0.getD s.idx []).getD s.off default with
     | li l'=>
      rw [hd] at h2;simp only [bb,hs,hd] at hl;dsimp only;have:=ih s' sub l' l st h2 hl hst
      simpa only [Tz] using this
     | _=>rw [hd] at h2; exact h2.elim
theorem Nk {F:Nm->Fp} (hm:Mem w H γ m F) {p:Pl} (hok:bw m p) {st:Step} {u:Value} (hv:plV w γ p=some u):plA w γ { p with path:=p.path++[st] }=aK w u [st]:=by
 obtain ⟨n,off,path⟩:=p;cases path with
 | nil=>
  simp only [plV] at hv;simp only [plA,TZ,hv,Ta]
 | cons s r=>
  simp only [plV] at hv;simp only [plA,Tz];cases hc:ao w (γ n) off with
  | none=>rw [hc] at hv; simp at hv
  | some v=>
   rw [hc] at hv;simp only [Ta] at hv ⊢;cases hw:aK w v (s::r) with
   | none=>rw [hw] at hv; simp at hv
   | some a=>
    rw [hw] at hv;simp only [Ta] at hv;have ha:plA w γ ⟨n,off,s::r⟩=some a:=by simp only [plA,hc,Ta,hw]
    obtain ⟨b,k,rfl⟩:=mu hm hok ha;have:=Ew (s::r) v st b k u hw hv
    simpa only [Tz] using this
theorem N7 {p:Pl} {sub:List Sh} {l:List (List D)} {i:Nat} (hok:bw m p) (hg:aP m p=some (.ow sub l)) (hi:i<l.length) (h0:sub.length≠0):bw m (p.at i sub.length):=by
 obtain ⟨r,h1,h2⟩:=aj.1 hok;obtain ⟨n,off,path⟩:=p;dsimp only at h1 h2;unfold aP at hg;rw [h1] at hg;rw [aj];refine ⟨r,h1,?_⟩;have hst:okO sub l [⟨i,sub.length,0⟩]:=⟨hi,rfl,by dsimp only; omega⟩
 cases path with
 | nil=>
  dsimp only at hg;simp only [Pl.at,TZ,aG,hg];exact hst
 | cons st u=>
  dsimp only at hg;dsimp only [aG] at h2;cases ht:r.cells[off]? with
  | none=>rw [ht] at h2; exact h2.elim
  | some t=>
   rw [ht] at h2 hg;cases t with
   | ow sub0 l0=>
    dsimp only at hg h2;cases hlo:bb sub0 l0 (st::u) with
    | none=>rw [hlo] at hg; simp at hg
    | some x=>
     obtain ⟨s,d⟩:=x;rw [hlo] at hg;cases s with
     | fr=>simp at hg
     | ow s=>cases d with
      | li l'=>
       simp only [SJ,T.ow.injEq] at hg;obtain ⟨rfl,rfl⟩:=hg;have:=Kx (st::u) sub0 s l0 l' _ h2 hlo hst
       simp only [Pl.at,Tz,aG,ht];simpa only [Tz] using this
      | _=>simp at hg
   | _=>exact h2.elim
theorem vZ {F:Nm->Fp} (hm:Mem w H γ m F) {t:TypeId} {x i:AV} {k:AV->Prop} {u v:Value} (h:eX P m t x i k) (hx:AR w H γ m x u) (hi:AR w H γ m i v) :
  ∃ z d,(∀ w:World,(Instr.indexAt t u v).run P w=.ok z w)/\AR w H γ m d z/\k d:=by
 match i,h with
 | .one (.c (.d (.int κ n))),h=>
 obtain ⟨rfl,_⟩:=kI hi;simp only [eX] at h;cases hk:(ty P t).k with
 | sl e=>
  rw [hk] at h;obtain ⟨_,d,_,hd,he,_⟩:=aO hk (by simp);obtain rfl:=je he;have hel:P.elem t=e:=by simp [Program.elem,hd]
  match x,h with
  | .one (.c (.d (.li l))),h=>
   obtain ⟨hok,h0,h⟩:=h;obtain ⟨it,_,hit,_⟩:=cV hok;have hn:n.toNat<l.length:=by
    rcases S0 n.toNat l.length with h' | h'
    ·exact h'
    ·rw [SZ h'] at h; exact h.elim
   have h:∀ row,l[n.toNat]? = some row->row.length=(ty P e).size/\k (.one (.c (.el row 0))):=fun row hr=>by rw [hr] at h; exact h
   have hrow:l[n.toNat]? = some l[n.toNat]:=SK hn
   obtain ⟨hlen,hk⟩:=h _ hrow;obtain ⟨a,c,rfl,hc,hb,hd2⟩:=eY hx.2;rcases hd2 with hd2 | ⟨b,o,e',q,rfl,hfe⟩
   ·rw [hd2] at hn; simp at hn
   ·have hg:l.getD n.toNat []=l[n.toNat]:=by simp [List.getD,hn]
    obtain ⟨g1,g2⟩:=hfe n.toNat hn;rw [hg] at g1 g2;have hee:e'=P.cellsOf e:=by rw [<- g1,hlen,eK hok]
    refine ⟨.pointer (some ⟨b,o+n.toNat*P.cellsOf e,none⟩),.one (.c (.el l[n.toNat] 0)),?_,⟨fun _=>rfl,b,o+n.toNat*P.cellsOf e,q,by simp,fun j hj=>?_⟩,hk⟩
    ·intro w;rw [run_indexAt_slice w t _ _ _ _ _ (by rw [hel]; exact hd),if_pos ⟨h0,(show n<l.length by omega)⟩,hel,bc hit,Result.andThen_ok,bO]
    ·rw [<- hee]; exact g2 j (by omega)
  | .one (.c (.rf p)),h=>
   obtain ⟨hok,hs0,h⟩:=h;obtain ⟨it,_,hit,_⟩:=cV hok;obtain ⟨tt,h1,h2,h3,h4,f,h5⟩:=MZ hm hx h;cases tt with
   | ow sub l=>
    obtain ⟨⟨q1,q2⟩,q3,q4⟩:=h1;have hn:n.toNat<l.length:=by omega
    obtain ⟨j,h5⟩:=h5;cases j with
    | zero=>simp [OD] at h5
    | succ j=>
     obtain ⟨a,c,_,_,rfl,_,_,_,_,_,hd2⟩:=ka h5;rcases hd2 with ⟨hl,_⟩ | ⟨b,cs,tt,fz,rfl,_⟩
     ·rw [hl] at hn; simp at hn
     ·refine ⟨.pointer (some ⟨b,0+n.toNat*P.cellsOf e,none⟩),.one (.c (.pl (p.at n.toNat (ty P e).size))),?_,⟨fun _=>rfl,?_,⟨b,0+n.toNat*P.cellsOf e,none⟩,?_,rfl⟩,q4⟩
      ·intro w;rw [run_indexAt_slice w t _ _ _ _ _ (by rw [hel]; exact hd),if_pos ⟨q1,q2⟩,hel,bc hit,Result.andThen_ok,bO]
      ·rw [<- q3]; exact N7 h3 h2 hn (by rw [q3]; exact hs0)
      ·rw [Pl.at,Nk hm h3 h4,<- eK hok];simp [aK]
   | _=>exact h1.elim
 | ar N e=>
  rw [hk] at h;obtain ⟨_,d,_,hd,he,_⟩:=aO hk (by simp);obtain rfl:=PI he;have hel:P.elem t=e:=by simp [Program.elem,hd]
  have hal:P.arrayLen t=N:=by simp [Program.arrayLen,hd]
  match x,h with
  | .one (.c (.pl p)),h=>
   obtain ⟨hok,⟨h0,h1⟩,hr,h⟩:=h;obtain ⟨it,_,hit,_⟩:=cV hok;obtain ⟨hz,hokp,a,ha,rfl⟩:=hx;obtain ⟨b,o,rfl⟩:=mu hm hokp ha;refine ⟨.pointer (some ⟨b,o+n.toNat*P.cellsOf e,none⟩),.one (.c (.pl (p.add (n.toNat*(ty P e).size)))),?_,⟨fun _=>rfl,vo hokp hr,_,sI ha,by rw [eK hok]⟩,h⟩;intro w;rw [run_indexAt_array w t _ _ _ (by rw [hel,hal]; exact hd),if_pos ⟨h0,by rw [hal]; exact h1⟩,hel,bc hit,Result.andThen_ok,bO]
  | .one (.c (.el row o)),h=>
   obtain ⟨hok,⟨h0,h1⟩,h⟩:=h;obtain ⟨it,_,hit,_⟩:=cV hok;obtain ⟨hz,b,o',q,rfl,hrow⟩:=hx;refine ⟨.pointer (some ⟨b,o'+o+n.toNat*P.cellsOf e,none⟩),.one (.c (.el row (o+n.toNat*(ty P e).size))),?_,⟨fun _=>rfl,b,o',q,by rw [eK hok,UM],hrow⟩,h⟩;intro w;rw [run_indexAt_array w t _ _ _ (by rw [hel,hal]; exact hd),if_pos ⟨h0,by rw [hal]; exact h1⟩,hel,bc hit,Result.andThen_ok,bO]
 | _=>rw [hk] at h; exact h.elim
theorem yD {x:AV} {k:AV->Prop} {u:Value} (h:j8 x k) (hx:AR w H γ m x u):(∃ a,u=.pointer (some a))/\k x:=by
 match x,h with
 | .one (.c (.pl p)),h=>obtain ⟨_,_,a,_,rfl⟩:=hx; exact ⟨⟨a,rfl⟩,h⟩
 | .one (.c (.el row o)),h=>obtain ⟨_,b,o',q,rfl,_⟩:=hx; exact ⟨⟨_,rfl⟩,h⟩
end
end Go.Am
end

section
namespace Go.Am
theorem IR {p:Pl} {ts:List T} {j:Nat} {t:T} (h:(pK p ts)[j]? = some t):∃ t',ts[j]? = some t'/\t=wb (p.add j) t':=by
 simp only [pK,SM,List.getElem?_zipIdx,Option.map_map] at h;cases ht:ts[j]? with
 | none=>rw [ht] at h; simp at h
 | some t'=>
  rw [ht] at h;simp only [Option.map_some,Function.comp_apply,SJ,TJ] at h;exact ⟨t',rfl,h.symm⟩
theorem pw {p:Pl} {ts:List T}:(pK p ts).length=ts.length:=by simp [pK]
def CH:AV->Bool
 | .one (.c (.el _ _))=>true
 | _=>false
section
variable {P:Program} {w:World} {H:FH} {γ:Gam} {m:Mm}
theorem Gq {t:T} {f:Fp} {y:Value} (h:TR w H γ m t f y):Lc t:=by
 cases t with
 | d x=>exact Du h.2
 | _=>trivial
theorem CR:∀ {ts:List T},(∀ (i:Nat) (t:T),ts[i]? = some t->Lc t)->GB ts
 | [],_=>trivial
 | t::ts,h=>⟨h 0 t rfl,CR (fun i t' ht=>h (i+1) t' (by simpa using ht))⟩
theorem Ia:∀ {ds:List D},(∀ (i:Nat) (x:D),ds[i]? = some x->okv x)->okvs ds
 | [],_=>trivial
 | x::ds,h=>⟨h 0 x rfl,Ia (fun i x' hx=>h (i+1) x' (by simpa using hx))⟩
theorem jl {p:Nat->Value->Prop}:∀ n,(∀ j,j<n->∃ v,p j v)->∃ l:List Value,l.length=n/\∀ (j:Nat) (v:Value),l[j]? = some v->p j v
 | 0,_=>⟨[],rfl,fun j v h=>by simp at h⟩
 | n+1,h=>by
  obtain ⟨l,h1,h2⟩:=jl n (fun j hj=>h j (by omega));obtain ⟨v,hv⟩:=h n (by omega);refine ⟨l++[v],by simp [h1],fun j v' hj=>?_⟩;by_cases hjn:j<n
  ·rw [T1 (by omega)] at hj; exact h2 j v' hj
  ·have:=ae hj
   simp at this;obtain rfl:j=n:=by omega
   rw [TQ (by omega),h1] at hj;simp at hj; subst hj; exact hv
theorem Di {F:Nm->Fp} (hm:Mem w H γ m F) {t:TypeId} {x:AV} {k:AV->Prop} {u:Value} (h:og P m t x k) (hx:AR w H γ m x u) :
  ∃ z d,∃ B:Nat->Prop,(CH x=true->∀ b,B b->∃ o y,H b o=some y)/\(∀ w2:World,(∀ b,B b->w2.heap[b]? = w.heap[b]?)->(Instr.loadAt t u).run P w2=.ok z w2)/\AR w H γ m d z/\k d:=by
 obtain ⟨hok,h⟩:=h;obtain ⟨it,d,hit,hd,hag,hsz,_⟩:=cV hok;have hsize:(ty P t).size=P.cellsOf t:=eK hok
 match x,h with
 | .one (.c (.el row o)),h=>
  obtain ⟨hz,b,o',q,rfl,hrow⟩:=hx;have cell:∀ j,j<row.length->∃ y,w.cell? ⟨b,o'+j,none⟩=some y/\FD H q (row.getD j default) y:=fun j hj=>by
   obtain ⟨y,h1,h2⟩:=hrow j hj; exact ⟨y,hm.agree _ _ _ h1,h2⟩
  have inB:∀ j,j<row.length->b=b/\∃ o y,H b o=some y:=fun j hj=>by
   obtain ⟨y,h1,h2⟩:=hrow j hj; exact ⟨rfl,_,y,h1⟩
  have hBB:CH (.one (.c (.el row o)))=true->∀ c,(c=b/\∃ o y,H b o=some y)->∃ o y,H c o=some y:=fun _ c ⟨e,h⟩=>by subst e; exact h
  dsimp only at h;split at h
  ·rename_i ha;rw [ha] at hag;obtain ⟨hl,h⟩:=h;obtain ⟨us,hu1,hu2⟩:=jl (p:=fun j v=>w.cell? ⟨b,o'+o+j,none⟩=some v/\FD H q (row.getD (o+j) default) v) (ty P t).size (fun j hj=>by
    obtain ⟨y,h1,h2⟩:=cell (o+j) (by omega);exact ⟨y,by rw [UM]; exact h1,h2⟩)
   have hlen:((row.drop o).take (ty P t).size).length=(ty P t).size:=by simp; omega
   have hcell:∀ (j:Nat) (x:D),((row.drop o).take (ty P t).size)[j]? = some x->∃ v,us[j]? = some v/\FDx H x v:=by
    intro j x hj;have hjn:j < (ty P t).size:=by have:=ae hj; rw [hlen] at this; exact this
    rw [S2 hjn,Td] at hj;have hju:us[j]? = some (us[j]'(by omega)):=SK (by omega)
    refine ⟨_,hju,q,?_⟩;have:=(hu2 j _ hju).2
    rw [List.getD,hj] at this; exact this
   refine ⟨.agg us.toArray,.one (.agg (((row.drop o).take (ty P t).size).map T.d)),fun c=>c=b/\∃ o y,H b o=some y,hBB,?_,⟨us.toArray,rfl,by simp [hu1]; omega,?_⟩,h (Ia (fun i x hx=>?_))⟩
   ·intro w2 hw2;exact kl hd (by rw [<- hag]) hit (by rw [hu1,hsize]) (fun j v hv=>(az (hw2 b (inB (o+j) (by have:=ae hv; omega)))).trans (hu2 j v hv).1)
   ·refine px (by simp [hu1]; omega) (fun i t' ht=>?_);simp only [SM,Tq] at ht;obtain ⟨x,hx,rfl⟩:=ht;obtain ⟨v,hv1,hv2⟩:=hcell i x hx;exact ⟨v,by simpa using hv1,fun _=>rfl,hv2⟩
   ·obtain ⟨v,_,hv2⟩:=hcell i x hx; exact Du hv2
  ·rename_i ha;have ha':oz d=false:=by rw [<- hag]; simpa using ha
   cases hr:row[o]? with
   | none=>rw [hr] at h; exact h.elim
   | some x=>
    rw [hr] at h;obtain ⟨y,h1,h2⟩:=cell o (ae hr);rw [List.getD,hr] at h2;exact ⟨y,sc x,fun c=>c=b/\∃ o y,H b o=some y,hBB,fun w2 hw2=>fX hd ha' ((az (hw2 b (inB o (ae hr)))).trans h1),⟨fun _=>rfl,q,h2⟩,h (Du ⟨q,h2⟩)⟩
 | .one (.c (.pl p)),h=>
  obtain ⟨hz,hokp,a,ha,rfl⟩:=hx;obtain ⟨b,o,rfl⟩:=mu hm hokp ha;dsimp only at h;split at h
  ·rename_i hagg;rw [hagg] at hag;obtain ⟨ts,e1,e2,e3⟩:=Eu hm hokp h;obtain ⟨us,hu1,hu2⟩:=jl (p:=fun j v=>w.cell? ⟨b,o+j,none⟩=some v/\∀ t',ts[j]? = some t'->TR w H γ m (wb (p.add j) t') (fun _=>0) v/\∃ f,TR w H γ m t' f v) (ty P t).size (fun j hj=>by
    have hjt:ts[j]? = some (ts[j]'(by omega)):=SK (by omega)
    obtain ⟨g1,g2⟩:=e3 j _ hjt;obtain ⟨v,v1,v2,v3,v4⟩:=mC hm g2 g1;refine ⟨v,v2 _ (sI ha),fun t' ht'=>?_⟩;rw [hjt] at ht';simp only [SJ] at ht';subst ht';exact ⟨v3,v4⟩)
   refine ⟨.agg us.toArray,.one (.agg (pK p ts)),fun c=>c=b,fun h=>(by simp [CH] at h),?_,⟨us.toArray,rfl,by simp [hu1,pw,e1],?_⟩,e2 (CR (fun i t' ht=>?_))⟩
   ·intro w2 hw2;exact kl hd (by rw [<- hag]) hit (by rw [hu1,hsize]) (fun j v hv=>(az (hw2 b rfl)).trans (hu2 j v hv).1)
   ·refine px (by simp [hu1,pw,e1]) (fun i t' ht=>?_);obtain ⟨t2,h2,rfl⟩:=IR ht;have hi:i<us.length:=by have:=ae h2; omega
    have hiu:us[i]? = some us[i]:=SK hi
    exact ⟨us[i],by simpa using hiu,((hu2 i _ hiu).2 t2 h2).1⟩
   ·have hi:i<us.length:=by have:=ae ht; omega
    have hiu:us[i]? = some us[i]:=SK hi
    obtain ⟨f,hf⟩:=((hu2 i _ hiu).2 t' ht).2;exact Gq hf
  ·rename_i hagg;have ha':oz d=false:=by rw [<- hag]; simpa using hagg
   obtain ⟨ts,e1,e2,e3⟩:=Eu hm hokp h
   match ts,e1 with
   | [t'],_=>
    obtain ⟨g1,g2⟩:=e3 0 t' rfl;rw [add_zero] at g1 g2;obtain ⟨v,v1,v2,v3,f,v4⟩:=mC hm g2 g1;exact ⟨v,.one (.c (wb p t')),fun c=>c=b,fun h=>(by simp [CH] at h),fun w2 hw2=>fX hd ha' ((az (hw2 b rfl)).trans (v2 _ ha)),v3,e2 (Gq v4)⟩
theorem Ji {t:TypeId} {x:AV} {i:Nat} {k:AV->Prop} {u:Value} (h:qL P t x i k) (hx:AR w H γ m x u) :
  ∃ z d,(∀ w:World,(Instr.field t u i).run P w=.ok z w)/\AR w H γ m d z/\k d:=by
 unfold qL at h;cases hk:(ty P t).k with
 | st fs=>
  rw [hk] at h
  match x,h with
  | .one (.agg ts),h=>
   obtain ⟨_,d,_,hd,he,_⟩:=aO hk (by simp);obtain ⟨fs',rfl,rfl⟩:=MD he;obtain ⟨us,rfl,hu,hts⟩:=hx;dsimp only at h;cases hf:(fs'.toList.map fun f=>(f.offset,P.cellsOf f.type,L6 P f.type))[i]? with
   | none=>rw [hf] at h; exact h.elim
   | some q=>
    obtain ⟨off,size,ag⟩:=q;rw [hf] at h;simp only [SM,Tq,Prod.mk.injEq] at hf;obtain ⟨f,hf1,rfl,rfl,hag⟩:=hf;have hf2:fs'[i]? = some f:=by simpa using hf1
    have hpart:∀ w:World,(Instr.field t (.agg us) i).run P w=(part f.type us f.offset).run P w:=by
     intro w;simp only [Instr.field,Sem.run_bind,run_underlying hd,Result.andThen_ok,hf2];rfl
    simp only [hpart];have hus:us=us.toList.toArray:=by simp
    cases ag with
    | none=>exact h.elim
    | some ag=>
    simp only [L6,Tq] at hag;obtain ⟨d',h1,h2⟩:=hag;cases ag with
    | false=>
     dsimp only at h;cases ht:ts[f.offset]? with
     | none=>rw [ht] at h; exact h.elim
     | some t'=>
      rw [ht] at h;obtain ⟨v,hv,htr⟩:=sC hts ht;refine ⟨v,.one (.c t'),?_,htr,h⟩;intro w;rw [hus]; exact eB h1 h2 hv
    | true=>
     obtain ⟨hl,h⟩:=h;obtain ⟨it,h3⟩:=yC h1;refine ⟨.agg ((us.toList.drop f.offset).take (P.cellsOf f.type)).toArray,.one (.agg ((ts.drop f.offset).take (P.cellsOf f.type))),?_,⟨_,rfl,?_,?_⟩,h⟩
     ·intro w;rw [hus]; exact jQ h1 h2 h3 us.toList f.offset
     ·simp; omega
     ·refine px (by simp; omega) (fun j t' ht=>?_);have hj:j<P.cellsOf f.type:=by have:=ae ht; simp at this; omega
      rw [S2 hj,Td] at ht;obtain ⟨v,hv,htr⟩:=sC hts ht;exact ⟨v,by simp only [S2 hj,Td]; exact hv,htr⟩
 | _=>rw [hk] at h; exact h.elim
end
end Go.Am
end

section
namespace Go.Am
def T.sure:T->Bool
 | .any=>false
 | .d .any=>false
 | _=>true
def dx:AV->Option (List T)
 | .one (.c t)=>some [t]
 | .one (.agg ts)=>some ts
 | _=>none
def overw {α:Type} (ts:List α) (off:Nat) (cs:List α):List α:=ts.take off++cs++ts.drop (off+cs.length)
def gX (pl:Nat->Option (Nat×Nat)):List T->List (Nat×AV)->Option (List T)
 | ts,[]=>some ts
 | ts,(i,x)::r=>match pl i,dx x with
  | some (off,size),some cs=>if cs.length=size/\off+cs.length<=ts.length/\cs.all T.sure=true then gX pl (overw ts off cs) r else none
  | _,_=>none
def zst (P:Program) (t:TypeId):Option (List Value×List (Nat×Nat)):=
 match P.info? t,P.underlying t with
 | some it,some (.struct fields)=>match it.zero,fields.toList.mapM (fun f=>(P.info? f.type).map fun i=>(f.offset,i.size)) with
  | some z,some places=>if z.cells.all okT=true then some (z.cells.toList,places) else none
  | _,_=>none
 | some it,some (.array N e)=>match it.zero,P.info? e with
  | some z,some ie=>if z.cells.all okT=true then some (z.cells.toList,(List.range N).map fun i=>(i*ie.size,ie.size)) else none
  | _,_=>none
 | _,_=>none
theorem xV {f g:Nat->Option (Nat×Nat)} (hfg:∀ i q,f i=some q->g i=some q):∀ {ps:List (Nat×Value)} {cs r:Array Value},Instr.fill f cs ps=some r->Instr.fill g cs ps=some r
 | [],_,_,h=>h
 | (i,v)::ps,cs,r,h=>by
  simp only [Instr.fill] at h ⊢;cases hf:f i with
  | none=>rw [hf] at h; cases h
  | some q=>
   rw [hf] at h;rw [hfg _ _ hf];dsimp only at h ⊢;split at h
   ·cases h
   ·rename_i hc;rw [if_neg hc];exact xV hfg h
def nv (P:Program) (t:TypeId) (parts:List (Nat×AV)) (k:AV->Prop):Prop:=
 match zst P t with
 | some (zs,places)=>match gX (places[·]?) (zs.map mW) parts with
  | some ts=>k (.one (.agg ts))
  | none=>False
 | none=>False
theorem xf:∀ (cs:List Value) (j:Nat) (off:Nat) (arr:Array Value) (i:Nat),
  ((cs.zipIdx j).foldl (fun a (x:Value×Nat)=>a.setIfInBounds (off+x.2) x.1) arr)[i]? =
   if off+j<=i/\i<off+j+cs.length/\i<arr.size then cs[i-off-j]? else arr[i]?
 | [],j,off,arr,i=>by
  simp only [List.zipIdx_nil,List.foldl_nil,Te];rw [if_neg (by omega)]
 | c::cs,j,off,arr,i=>by
  rw [List.zipIdx_cons,List.foldl_cons,xf cs (j+1) off _ i];simp only [Un,SU];by_cases h1:off+(j+1)<=i/\i<off+(j+1)+cs.length/\i<arr.size
  ·rw [if_pos h1,if_pos (by omega)];have:i-off-j=(i-off - (j+1))+1:=by omega
   rw [this,TG]
  ·rw [if_neg h1];by_cases h2:i=off+j
   ·subst h2;by_cases h3:off+j<arr.size
    ·rw [if_pos (by omega)];have:off+j-off-j=0:=by omega
     rw [this];simp [h3]
    ·rw [if_neg (by omega),TS (by simp; omega),TS (by omega)]
   ·rw [if_neg (by omega),Array.getElem?_setIfInBounds_ne (by omega)]
theorem vA:∀ (cs:List Value) (j:Nat) (off:Nat) (arr:Array Value),
  ((cs.zipIdx j).foldl (fun a (x:Value×Nat)=>a.setIfInBounds (off+x.2) x.1) arr).size=arr.size
 | [],j,off,arr=>rfl
 | c::cs,j,off,arr=>by
  rw [List.zipIdx_cons,List.foldl_cons,vA cs (j+1) off _]; simp
section
variable {P:Program} {w:World} {H:FH} {γ:Gam} {m:Mm}
theorem pj {F:Nm->Fp} (hm:Mem w H γ m F) {t:T} {f:Fp} {y:Value} (h:TR w H γ m t f y) (hs:t.sure=true):gc y=true:=by
 have ow:∀ {k:Nat} {sub:List Sh} {l:List (List D)} {g:Fp},OD w H k (.ow sub) (.li l) g y->gc y=true:=by
  intro k sub l g h;cases k with
  | zero=>simp [OD] at h
  | succ k=>obtain ⟨a,c,_,_,rfl,_⟩:=ka h; rfl
 cases t with
 | d x=>
  cases x with
  | int k n=>obtain ⟨rfl,_⟩:=dT h.2; rfl
  | bool b=>obtain rfl:=gP h.2; rfl
  | str l=>obtain ⟨rfl,_⟩:=fH h.2; rfl
  | li l=>obtain ⟨a,c,rfl,_⟩:=eY h.2; rfl
  | v z=>obtain ⟨_,q,h⟩:=h; cases q <;> (obtain ⟨rfl,h⟩:=h; exact h)
  | any=>simp [T.sure] at hs
 | nil=>obtain ⟨_,rfl⟩:=h; rfl
 | ow sub l=>obtain ⟨k,h⟩:=h; exact ow h
 | mp l=>obtain ⟨b,es,ck,_,rfl,_⟩:=h; rfl
 | el row off=>obtain ⟨_,b,o,q,rfl,_⟩:=h; rfl
 | pl p=>obtain ⟨_,_,a,_,rfl⟩:=h; rfl
 | rf p=>
  obtain ⟨_,hr,hv⟩:=h;have hok:=dM hr
  have hg:∃ x,aP m p=some x/\((∃ s l,x=.ow s l)\/∃ l,x=.mp l):=by
   obtain ⟨r,hr',hc⟩:=bn.1 hr;unfold bm at hc;unfold aP;rw [hr'];cases ht:r.cells[p.off]? with
   | none=>rw [ht] at hc; cases hpq:p.path <;> (rw [hpq] at hc; exact hc.elim)
   | some tt=>
    cases hpq:p.path with
    | nil=>
     rw [ht,hpq] at hc;cases tt with
     | ow sub l=>exact ⟨_,by dsimp only; exact ht,.inl ⟨_,_,rfl⟩⟩
     | mp l=>exact ⟨_,by dsimp only; exact ht,.inr ⟨_,rfl⟩⟩
     | _=>exact hc.elim
    | cons st u=>
     rw [ht,hpq] at hc;cases tt with
     | ow sub l=>
      obtain ⟨s,l',e⟩:=gm (P:=True) hc.2;exact ⟨.ow s l',by simp only [ht,e],.inl ⟨_,_,rfl⟩⟩
     | _=>exact hc.elim
  obtain ⟨x,hg,hx⟩:=hg;obtain ⟨v,v1,_,_,f',v4⟩:=mC hm hok hg;rw [hv] at v1;simp only [SJ] at v1;subst v1;rcases hx with ⟨s,l,rfl⟩ | ⟨l,rfl⟩
  ·obtain ⟨k,v4⟩:=v4;exact ow v4
  ·obtain ⟨b,es,ck,_,rfl,_⟩:=v4; rfl
 | any=>simp [T.sure] at hs
theorem Jy {y:Value} (h:gc y=true):y.cells=#[y]:=by
 cases y <;> first | rfl | (simp [gc] at h)
theorem tM {F:Nm->Fp} (hm:Mem w H γ m F) {x:AV} {v:Value} {cs:List T} (hx:AR w H γ m x v) (hc:dx x=some cs) (hs:cs.all T.sure=true) :
  v.cells.size=cs.length/\Ts (TR w H γ m) cs (fun _=>0) v.cells.toList:=by
 match x,hc with
 | .one (.c t),hc=>
  simp only [dx,SJ] at hc;subst hc;have hone:gc v=true:=pj hm hx (by simpa using hs)
  rw [Jy hone];exact ⟨rfl,v,[],fun _=>0,fun _=>0,rfl,fun _=>rfl,hx,fun _=>rfl⟩
 | .one (.agg ts),hc=>
  simp only [dx,SJ] at hc;subst hc;obtain ⟨cs',rfl,h1,h2⟩:=hx;exact ⟨h1,h2⟩
def PR (w:World) (H:FH) (γ:Gam) (m:Mm):List (Nat×AV)->List (Nat×Value)->Prop
 | [],[]=>True
 | (i,x)::xs,(j,v)::vs=>i=j/\AR w H γ m x v/\PR w H γ m xs vs
 | _,_=>False
theorem JT {α:Type} {ts cs:List α} {off i:Nat} (h:off+cs.length<=ts.length):(overw ts off cs)[i]? = if off<=i/\i<off+cs.length then cs[i-off]? else ts[i]? := by
 unfold overw;have hl:(ts.take off).length=off:=by simp; omega
 by_cases h1:i<off
 ·rw [if_neg (by omega),TL,T1 (by omega),S2 h1]
 ·rw [TL,TQ (by omega),hl];by_cases h2:i<off+cs.length
  ·rw [if_pos (by omega),T1 (by omega)]
  ·rw [if_neg (by omega),TQ (by omega),Td]
   congr 1; omega
theorem ra {α:Type} {ts cs:List α} {off:Nat} (h:off+cs.length<=ts.length):(overw ts off cs).length=ts.length:=by
 unfold overw; simp; omega
theorem sL {F:Nm->Fp} (hm:Mem w H γ m F) {pl:Nat->Option (Nat×Nat)}:∀ (parts:List (Nat×AV)) (vs:List (Nat×Value)) (ts:List T) (us:Array Value) (ts':List T),
  PR w H γ m parts vs->us.size=ts.length->Ts (TR w H γ m) ts (fun _=>0) us.toList->gX pl ts parts=some ts' ->
  ∃ us',Instr.fill pl us vs=some us'/\us'.size=ts'.length/\Ts (TR w H γ m) ts' (fun _=>0) us'.toList:=by
 intro parts;induction parts with
 | nil=>
  intro vs ts us ts' hp hl hu hf;cases vs with
  | cons _ _=>exact hp.elim
  | nil=>
   simp only [gX,SJ] at hf;subst hf;exact ⟨us,rfl,hl,hu⟩
 | cons z parts ih=>
  obtain ⟨i,x⟩:=z;intro vs ts us ts' hp hl hu hf;cases vs with
  | nil=>exact hp.elim
  | cons z vs=>
   obtain ⟨j,v⟩:=z;obtain ⟨rfl,hx,hp⟩:=hp;simp only [gX] at hf;cases hpl:pl i with
   | none=>rw [hpl] at hf; simp at hf
   | some q=>
    obtain ⟨off,size⟩:=q;rw [hpl] at hf;cases hcs:dx x with
    | none=>rw [hcs] at hf; simp at hf
    | some cs=>
     rw [hcs] at hf;dsimp only at hf;split at hf
     ·rename_i hcond;obtain ⟨h1,h2,h3⟩:=hcond;obtain ⟨c1,c2⟩:=tM hm hx hcs h3;have hfold:v.cells.zipIdx.foldl (fun cs (c,j)=>cs.setIfInBounds (off+j) c) us=(v.cells.toList.zipIdx.foldl (fun a (x:Value×Nat)=>a.setIfInBounds (off+x.2) x.1) us):=by
       rw [<- Array.foldl_toList,Array.toList_zipIdx]
      have hget:=xf v.cells.toList 0 off us
      have hsize:=vA v.cells.toList 0 off us
      generalize hus:v.cells.toList.zipIdx.foldl (fun a (x:Value×Nat)=>a.setIfInBounds (off+x.2) x.1) us=us2 at hfold hget hsize;have hcl:v.cells.toList.length=cs.length:=by simpa using c1
      have hts2:Ts (TR w H γ m) (overw ts off cs) (fun _=>0) us2.toList:=by
       refine px (by rw [ra h2]; simpa [hl] using hsize) (fun i t ht=>?_);rw [JT h2] at ht;have hgi:=hget i
       by_cases hr:off<=i/\i<off+cs.length
       ·rw [if_pos hr] at ht;obtain ⟨u,hu1,hu2⟩:=sC c2 ht;refine ⟨u,?_,hu2⟩;rw [if_pos (by rw [hcl]; omega)] at hgi;rw [Array.getElem?_toList,hgi]; exact hu1
       ·rw [if_neg hr] at ht;obtain ⟨u,hu1,hu2⟩:=sC hu ht;refine ⟨u,?_,hu2⟩;rw [if_neg (by rw [hcl]; omega)] at hgi;rw [Array.getElem?_toList,hgi]; simpa using hu1
      obtain ⟨us',e1,e2,e3⟩:=ih vs (overw ts off cs) us2 ts' hp (by rw [ra h2,hsize,hl]) hts2 hf;refine ⟨us',?_,e2,e3⟩;simp only [Instr.fill,hpl];rw [if_neg (by simp only [c1,h1,ne_eq,not_true_eq_false,TW,decide_false]; simp; omega),hfold];exact e1
     ·simp at hf
end
end Go.Am
end

section
namespace Go.Am
theorem Fr.trans {w0 w w':World} {H0 H H':FH} {own0 tt tt':Fp} (h:Fr w0 H0 own0 w H tt) (k:Fr w H tt w' H' tt'):Fr w0 H0 own0 w' H' tt':=by
 refine ⟨Th h.size k.size,k.os.trans h.os,k.tape.trans h.tape,k.output.trans h.output,fun i hi h0=>?_,fun b o y hy=>k.hold _ _ _ (h.hold _ _ _ hy),fun b o h1 h2=>?_,fun b hb=>?_,fun b hb=>k.nz.1 b (h.nz.1 b hb),fun b o x l c h1 h2=>?_⟩
 ·have:tt i=0:=by
   rcases S7 (tt i) with h' | h'
   ·exact h'
   ·rcases h.tt i (by omega) with h1 | h1 <;> omega
  rw [k.block i (by have:=h.size; omega) this]; exact h.block i hi h0
 ·by_cases hH:H b o=none
  ·rcases k.hnew b o h1 hH with h3 | h3
   ·exact h.tt b h3
   ·right; have:=h.size; omega
  ·exact h.hnew b o hH h2
 ·rcases k.tt b hb with h1 | h1
  ·exact h.tt b h1
  ·right; have:=h.size; omega
 ·cases hH:H b o with
  | none=>exact k.nz.2 b o x l c h1 hH
  | some y=>
   have:=(k.hold b o y hH).symm.trans h1
   cases this;exact k.nz.1 b (h.nz.2 b o x l c hH h2)
theorem Fr.refl' {w w':World} {H:FH} {tt tt':Fp} (h1:w'.heap=w.heap) (h2:w'.os=w.os) (h3:w'.tape=w.tape) (h4:w'.output=w.output) (h5:∀ b,tt' b≠0->tt b≠0):Fr w H tt w' H tt':=
 ⟨by rw [h1]; exact SN _,h2,h3,h4,fun _ _ _=>by rw [h1],fun _ _ _ h=>h,fun b o h1 h2=>absurd h2 h1,fun b hb=>.inl (h5 b hb),fun b hb=>hb.of_block (by rw [h1]),fun b o x l c h1 h2=>by rw [h2] at h1; cases h1⟩
section
variable {P:Program} {g:G} {s:S} {a:Act} {w:World} {H:FH} {γ:Gam} {F:Nm->Fp}
theorem dP (h:RX g s a w H γ F) {w':World} {H':FH} {γ':Gam} {m':Mm} {F':Nm->Fp} (hm:Mem w' H' γ' m' F') (hf:Fr w H (tot F s.m) w' H' (tot F' m')) {t':List (Nat×AV)}
  (ht:∀ i,AR w' H' γ' m' (aE t' i) (g.tv a i)) (hγ:∀ j,γ' (.out j)=γ (.out j)):RX g ⟨t',m'⟩ a w' H' γ' F':=⟨hm,h.fr.trans hf,h.nt,⟨h.df.1,fun j b e=>(hγ j).trans (h.df.2.1 j b e),h.df.2.2⟩,ht⟩
theorem zw {γ:Gam} {n:Nm} {x:RC} (hno:n.isOut=false) (j:Nat):upd γ n x (.out j)=γ (.out j):=by
 unfold upd;rw [if_neg];intro e;subst e;simp [Nm.isOut] at hno
theorem cp {w:World} {o:Obj} {k:Nat} (h:k<w.heap.size):(w.alloc o).heap[k]? = w.heap[k]? := by
 show (w.heap.push o)[k]? = _
 rw [Array.getElem?_push,if_neg (by omega)]
theorem br {w:World} {o:Obj}:(w.alloc o).heap[w.heap.size]? = some o:=by
 show (w.heap.push o)[w.heap.size]? = _
 rw [Array.getElem?_push,if_pos rfl]
theorem mN {m:Mm} (hm:Mem w H γ m F) (cs:Array Value) (ty:TypeId) (fz:Bool) :
  let w':=w.alloc (.cells cs ty)
  let H':FH:=fun b o=>if fz=true/\b=w.heap.size then cs[o]? else H b o
  Mem w' H' γ m F/\Fr w H (tot F m) w' H' (tot F m)/\Keeps w γ m w' γ m/\(∀ b o y,H b o=some y->H' b o=some y):=by
 intro w' H';have hHb:∀ b o y,H b o=some y->b<w.heap.size:=fun b o y h=>World.block_lt_of_cell? _ _ (hm.agree b o y h)
 have hH:∀ b o y,H b o=some y->H' b o=some y:=by
  intro b o y h;have:=hHb b o y h
  simp only [H']; rw [if_neg (by omega)]; exact h
 have hold:∀ k,k<w.heap.size->w'.heap[k]? = w.heap[k]? := fun k hk=>cp hk
 have hK:=bS (w':=w') hm (fun b hb=>hold b (hm.lt b hb))
 have hin:∀ x∈m,∀ b,F x.1 b≠0->b<w.heap.size:=fun x hx b hb=>hm.lt b (by have:=aQ (F:=F) hx b; omega)
 refine ⟨⟨?_,?_,hm.keys,hm.le1,?_,?_⟩,⟨by simp [w'],rfl,rfl,rfl,fun k hk _=>hold k hk,hH,?_,fun b hb=>.inl hb,fun b hb=>hb.of_block (hold b hb.lt),fun b o x l c h1 h2=>?_⟩,hK,hH⟩
 ·intro b o y hy;simp only [H'] at hy;split at hy
  ·rename_i hc;rw [hc.2];simp only [World.cell?,w',br,TN,SV,if_false];exact hy
  ·have:=hm.agree b o y hy
   rw [az (hold b (hHb b o y hy))]; exact this
 ·intro x hx;exact aF hK hH rfl (fun b hb=>hold b (hin x hx b hb)) (hm.roots x hx)
 ·intro b hb; have:=hm.lt b hb; simp only [w',World.size_alloc]; omega
 ·intro b hb o;have:=hm.lt b hb
  simp only [H']; rw [if_neg (by omega)]; exact hm.nofz b hb o
 ·intro b o h1 h2;simp only [H'] at h1;split at h1
  ·rename_i hc; right; omega
  ·exact absurd h2 h1
 ·simp only [H'] at h1;split at h1
  ·rename_i hc; rw [hc.2]; exact ⟨cs,ty,br⟩
  ·rw [h2] at h1; cases h1
theorem MB (h:RX g s a w H γ F) {n:Nm} (hno:n.isOut=false) (hn:aa s.m n=none) {ts:List T} {cs:Array Value} (hl:cs.size=ts.length) (hts:Ts (TR w H γ s.m) ts (fun _=>0) cs.toList) (ty:TypeId) (hty:∀ t,n.tyd=some t->ty=t) :
  ∃ γ' F',RX g ⟨s.t,(n,⟨true,ts⟩)::s.m⟩ a (w.alloc (.cells cs ty)) H γ' F'/\γ' n=.blk w.heap.size:=by
 obtain ⟨hm,hf,hK,hH⟩:=mN h.mem cs ty false;simp only [SV,false_and,if_false] at hm hf hK hH;have hK2:=fa (w:=w.alloc (.cells cs ty)) (γ:=γ) (rc:=.blk w.heap.size) (r:=⟨true,ts⟩) hn
 have hz:tot F s.m w.heap.size=0:=by
  rcases S7 (tot F s.m w.heap.size) with h' | h'
  ·exact h'
  ·have:=h.mem.lt w.heap.size (by omega); omega
 have hHz:∀ o,H w.heap.size o=none:=by
  intro o;cases hc:H w.heap.size o with
  | none=>rfl
  | some y=>have:=World.block_lt_of_cell? _ _ (h.mem.agree _ _ _ hc); simp at this
 obtain ⟨hm2,ht2⟩:=mT hm (n:=n) (rc:=.blk w.heap.size) (r:=⟨true,ts⟩) (f:=fun b=>0+if b=w.heap.size then 1 else 0) hn (by
   unfold aV;rw [if_pos rfl];refine ⟨w.heap.size,cs,ty,(0,0),fun _=>0,bR,br,⟨rfl,hty⟩,hl,?_,fun _=>rfl⟩;exact mf hK2 (fun _ _ _ h=>h) (fun _ hb=>absurd rfl hb) (mf hK (fun _ _ _ h=>h) (fun _ hb=>absurd rfl hb) hts))
  (fun b=>by
   by_cases hb:b=w.heap.size
   ·subst hb; rw [hz]; simp
   ·rw [if_neg hb]; have:=h.mem.le1 b; omega)
  (fun b hb=>by
   have hb':b=w.heap.size:=by
    by_cases hb':b=w.heap.size
    ·exact hb'
    ·rw [if_neg hb'] at hb; simp at hb
   subst hb';exact ⟨by simp,hHz⟩)
 refine ⟨_,_,dP h hm2 ?_ (fun i=>bu hK2 (fun _ _ _ h=>h) (bu hK (fun _ _ _ h=>h) (h.t i))) (zw hno),bR⟩;refine ⟨hf.size,hf.os,hf.tape,hf.output,hf.block,hf.hold,hf.hnew,fun b hb=>?_,hf.nz⟩;rw [ht2] at hb;by_cases hb':b=w.heap.size
 ·right; omega
 ·rw [if_neg hb'] at hb; left; omega
theorem di (h:RX g s a w H γ F) {n:Nm} (hno:n.isOut=false) (hn:aa s.m n=none) {v:Value} {t:T} {f:Fp} (ht:TR w H γ s.m t f v) (hd:∀ b,tot F s.m b+f b<=1) (hl:∀ b,f b≠0->b<w.heap.size/\∀ o,H b o=none)
  (hnew:∀ b,f b≠0->g.own0 b≠0\/g.w0.heap.size<=b) :
  ∃ γ' F',RX g ⟨s.t,(n,⟨false,[t]⟩)::s.m⟩ a w H γ' F'/\γ' n=.gh v:=by
 have hK2:=fa (w:=w) (γ:=γ) (rc:=.gh v) (r:=⟨false,[t]⟩) hn
 obtain ⟨hm2,ht2⟩:=mT h.mem (n:=n) (rc:=.gh v) (r:=⟨false,[t]⟩) (f:=f) hn (by
   unfold aV;rw [if_neg (by simp)];exact ⟨v,t,bR,rfl,fy hK2 (fun _ _ _ h=>h) (fun _ _=>rfl) ht⟩) hd hl
 refine ⟨_,_,⟨hm2,?_,h.nt,⟨h.df.1,fun j b e=>(zw hno j).trans (h.df.2.1 j b e),h.df.2.2⟩,fun i=>bu hK2 (fun _ _ _ h=>h) (h.t i)⟩,bR⟩;refine ⟨h.fr.size,h.fr.os,h.fr.tape,h.fr.output,h.fr.block,h.fr.hold,h.fr.hnew,fun b hb=>?_,h.fr.nz⟩;rw [ht2] at hb;by_cases hf:f b=0
 ·exact h.fr.tt b (by omega)
 ·exact hnew b hf
end
end Go.Am
end

section
namespace Go.Am
def fE (sub:List Sh) (l:List (List D)) (t:T):List Step->(List (List D)->Prop)->Prop
 | [],_=>False
 | [st],k=>match l[st.idx]? with
  | some x=>match sub[st.off]?,x[st.off]? with
   | some .fr,some _=>lK .fr t/\k (l.set st.idx (x.set st.off t.toD))
   | some (.ow s),some .any=>lK (.ow s) t/\k (l.set st.idx (x.set st.off t.toD))
   | _,_=>False
  | none=>False
 | st::st'::r,k=>match l[st.idx]? with
  | some x=>match sub[st.off]?,x[st.off]? with
   | some (.ow s),some (.li l')=>fE s l' t (st'::r) fun l''=>k (l.set st.idx (x.set st.off (.li l'')))
   | _,_=>False
  | none=>False
def nV (m:Mm) (p:Pl) (t:T) (k:Mm->Prop):Prop:=
 match aa m p.root with
 | none=>False
 | some r=>match p.path,r.cells[p.off]? with
  | [],some t0=>t0.owned=false/\k (bD m p.root { r with cells:=r.cells.set p.off t })
  | st::q,some (.ow sub l)=>fE sub l t (st::q) fun l'=>k (bD m p.root { r with cells:=r.cells.set p.off (.ow sub l') })
  | _,_=>False
def T.ment (n:Nm):T->Bool
 | .pl p=>decide (p.root=n)
 | .rf p=>decide (p.root=n)
 | _=>false
def S.drop (s:S) (n:Nm):S:=⟨iZ (bv n) s.t,au (bv n) (aW s.m n)⟩
def ct (s:S) (p:Pl):List T->(S->Prop)->Prop
 | [],k=>k s
 | .rf q::ts,k=>match aa s.m q.root with
  | some ⟨false,[.ow sub l]⟩=>q.path=[]/\q.root≠p.root/\(ts.all fun t=>!t.ment q.root)=true/\nV (s.drop q.root).m p (.ow sub l) fun m'=>ct ⟨(s.drop q.root).t,m'⟩ (p.add 1) ts k
  | _=>False
 | .any::_,_=>False
 | .d .any::_,_=>False
 | t::ts,k=>nV s.m p t fun m'=>ct ⟨s.t,m'⟩ (p.add 1) ts k
theorem MJ:∀ (p:List Step) (sub:List Sh) (l:List (List D)) (t:T) (k:List (List D)->Prop),(∀ N,wfO N sub l)->okO sub l p->fE sub l t p k ->
  k (bz sub l t.toD p)/\∃ s x,bb sub l p=some (s,x)/\lK s t/\∀ s' l',(s,x)≠(.ow s',.li l'):=by
 intro p;induction p with
 | nil=>intro sub l t k _ h; exact h.elim
 | cons st r ih=>
  intro sub l t k hwf hok hin;cases r with
  | nil=>
   obtain ⟨h1,h2,h3⟩:=hok;have hx:l[st.idx]? = some l[st.idx]:=SK h1
   have hg:l.getD st.idx []=l[st.idx]:=by simp [List.getD,h1]
   unfold fE at hin;rw [hx] at hin;dsimp only at hin;cases hs:sub[st.off]? with
   | none=>rw [hs] at hin; exact hin.elim
   | some s=>
    rw [hs] at hin;cases hd:(l[st.idx])[st.off]? with
    | none=>rw [hd] at hin; cases s <;> exact hin.elim
    | some d=>
     rw [hd] at hin;have hd':(l.getD st.idx []).getD st.off default=d:=by rw [hg,List.getD,hd]; rfl
     cases s with
     | fr=>
      refine ⟨by simp only [bz,hg]; exact hin.2,.fr,d,by simp only [bb,hs,hd',Option.map_some],hin.1,fun s' l' h=>by simp at h⟩
     | ow s=>
      cases d with
      | any=>exact ⟨by simp only [bz,hg]; exact hin.2,.ow s,.any,by simp only [bb,hs,hd',Option.map_some],hin.1,fun s' l' h=>by simp at h⟩
      | _=>exact hin.elim
  | cons st' u=>
   obtain ⟨⟨h1,h2,h3⟩,hok⟩:=hok;have hx:l[st.idx]? = some l[st.idx]:=SK h1
   have hg:l.getD st.idx []=l[st.idx]:=by simp [List.getD,h1]
   unfold fE at hin;rw [hx] at hin;dsimp only at hin;cases hs:sub[st.off]? with
   | none=>rw [hs] at hok; exact hok.elim
   | some s=>
    rw [hs] at hok hin;cases s with
    | fr=>exact hok.elim
    | ow s=>
     cases hd:(l[st.idx])[st.off]? with
     | none=>rw [hd] at hin; exact hin.elim
     | some d=>
      have hd':(l.getD st.idx []).getD st.off default=d:=by rw [hg,List.getD,hd]; rfl
      rw [hd'] at hok;rw [hd] at hin;cases d with
      | li l'=>
       dsimp only at hin hok;obtain ⟨k1,s1,x1,k2,k3,k4⟩:=ih s l' t _ (fun N=>(hwf (N+1)).2 st.idx st.off s l' hs hd') hok hin;refine ⟨by simp only [bz,hs,hd']; rw [hg]; exact k1,s1,x1,by simp only [bb,hs,hd']; exact k2,k3,k4⟩
      | _=>exact hok.elim
section
variable {P:Program} {g:G} {s:S} {a:Act} {w:World} {H:FH} {γ:Gam} {F:Nm->Fp}
theorem NX {m:Mm} (hm:Mem w H γ m F) {p:Pl} (hok:bw m p) {t:T} {k:Mm->Prop} (h:nV m p t k) :
  k (bd m p t)/\∃ t0,aP m p=some t0/\t0.owned=false/\(p.path=[]\/∃ s,OR m p=some s/\lK s t):=by
 obtain ⟨r,h1,h2⟩:=aj.1 hok;obtain ⟨nm,off,path⟩:=p;dsimp only at h1 h2;unfold nV at h;rw [h1] at h;dsimp only at h;cases path with
 | nil=>
  cases ht:r.cells[off]? with
  | none=>rw [ht] at h; exact h.elim
  | some t0=>
   rw [ht] at h;refine ⟨by simp only [bd,h1]; exact h.2,t0,by simp only [aP,h1,ht],h.1,.inl rfl⟩
 | cons st u=>
  dsimp only [aG] at h2;cases ht:r.cells[off]? with
  | none=>rw [ht] at h2; exact h2.elim
  | some t0=>
   rw [ht] at h2 h;cases t0 with
   | ow sub l=>
    dsimp only at h2 h;have hwf:∀ N,wfO N sub l:=by
     intro N;obtain ⟨v,g,_,⟨k,c2⟩,_⟩:=da (hm.roots _ (ab h1)) ht;exact yT N k sub l g v c2
    obtain ⟨k1,s,x,k2,k3,k4⟩:=MJ (st::u) sub l t _ hwf h2 h;refine ⟨by simp only [bd,h1,ht]; exact k1,mkT s x,?_,?_,.inr ⟨s,by simp only [OR,h1,ht,k2,Option.map_some],k3⟩⟩
    ·simp only [aP,h1,ht,k2];cases s with
     | fr=>rfl
     | ow s'=>cases x <;> rfl
    ·cases s with
     | fr=>rfl
     | ow s'=>cases x with
      | li l'=>exact absurd rfl (k4 s' l')
      | _=>rfl
   | _=>exact h2.elim
theorem xz {n:Nm} {i:Nat}:aE (s.drop n).t i=(aE s.t i).kill (bv n):=iJ _ _ _
theorem Od {m:Mm} {n:Nm} {r:Root} (hn:aa m n=some r) (b:Nat):tot F (aW m n) b+F n b=tot F m b:=by
 induction m with
 | nil=>simp [aa] at hn
 | cons x m ih=>
  obtain ⟨k,y⟩:=x;simp only [aa] at hn;simp only [aW];split
  ·rename_i e; subst e; rw [bg]; dsimp only; omega
  ·rename_i e;rw [if_neg e] at hn;rw [bg,bg]; have:=ih hn; omega
theorem Ao (h:RX g s a w H γ F) {n:Nm} {sub:List Sh} {l:List (List D)} (hn:aa s.m n=some ⟨false,[.ow sub l]⟩) :
  ∃ v f,γ n=.gh v/\(∀ m',TR w H γ m' (.ow sub l) f v)/\RX g (s.drop n) a w H γ F/\(∀ b,tot F (s.drop n).m b+f b<=tot F s.m b):=by
 have hr:=h.mem.roots _ (ab hn)
 unfold aV at hr;dsimp only at hr;rw [if_neg (by simp)] at hr;obtain ⟨v,t,h1,h2,h3⟩:=hr;simp only [List.cons.injEq,and_true] at h2;subst h2;have htot:∀ b,tot F (s.drop n).m b+F n b<=tot F s.m b:=by
  intro b;have:tot F (s.drop n).m b=tot F (aW s.m n) b:=aM
  rw [this,Od hn b]; exact SN _
 refine ⟨v,F n,h1,fun _=>h3,⟨FW h.mem n,?_,h.nt,h.df,fun i=>?_⟩,htot⟩
 ·refine ⟨h.fr.size,h.fr.os,h.fr.tape,h.fr.output,h.fr.block,h.fr.hold,h.fr.hnew,fun b hb=>h.fr.tt b ?_,h.fr.nz⟩;have:=htot b; omega
 ·rw [xz];exact mJ db (fun _ _ _ h=>h) (h.t i)
theorem lb (h:RX g s a w H γ F) (n:Nm):RX g (s.drop n) a w H γ F:=by
 refine ⟨FW h.mem n,?_,h.nt,h.df,fun i=>?_⟩
 ·refine ⟨h.fr.size,h.fr.os,h.fr.tape,h.fr.output,h.fr.block,h.fr.hold,h.fr.hnew,fun b hb=>h.fr.tt b ?_,h.fr.nz⟩;have e:tot F (s.drop n).m b=tot F (aW s.m n) b:=aM
  have:=dh (F:=F) (m:=s.m) (n:=n) (b:=b); omega
 ·rw [xz];exact mJ db (fun _ _ _ h=>h) (h.t i)
theorem Ky (h:RX g s a w H γ F) {p:Pl} (hok:bw s.m p) {b k:Nat} (hA:plA w γ p=some ⟨b,k,none⟩) {t:T} {K:Mm->Prop} (hK:nV s.m p t K)
  {ft:Fp} {y:Value} (ht:TR w H γ s.m t ft y) (hone:gc y=true) (hd:∀ c,tot F s.m c+ft c<=1) (hl:∀ c,ft c≠0->c<w.heap.size/\∀ o,H c o=none)
  (hnew:∀ c,ft c≠0->g.own0 c≠0\/g.w0.heap.size<=c) :
  (∃ z,w.cell? ⟨b,k,none⟩=some z)/\w.frozen? ⟨b,k,none⟩=false/\∃ m' F',K m'/\RX g ⟨s.t,m'⟩ a (w.setCell ⟨b,k,none⟩ y) H γ F'/\Keeps w γ s.m (w.setCell ⟨b,k,none⟩ y) γ m' /\
   (∀ c,tot F' m' c=tot F s.m c+ft c):=by
 obtain ⟨k1,t0,k2,k3,k4⟩:=NX h.mem hok hK;obtain ⟨m1,m2,m3⟩:=J0 h.mem hok k2 k3 hA ht hone k4 hd hl;have hw:∀ a,a≠(⟨b,k,none⟩:Addr)->(w.setCell ⟨b,k,none⟩ y).cell? a=w.cell? a:=fun a ha=>World.cell?_setCell_other _ _ _ _ (fun e=>ha e.symm)
 have hKs:=rZ h.mem hok k2 k3 (t:=t) hA hw
 obtain ⟨rp,hrp,_⟩:=aj.1 hok;have hin:=(u6 h.mem hok hA).1
 dsimp only at hin;have htot:∀ c,tot (fun n c=>F n c+if n=p.root then ft c else 0) (bd s.m p t) c=tot F s.m c+ft c:=by
  intro c;have:bd s.m p t=bD s.m p.root { rp with cells:=match p.path with
    | []=>rp.cells.set p.off t
    | st::q=>match rp.cells[p.off]? with
     | some (.ow sub l)=>rp.cells.set p.off (.ow sub (bz sub l t.toD (st::q)))
     | _=>rp.cells }:=by unfold bd; rw [hrp]; try rfl
  rw [this,cu,yf h.mem.keys hrp]
 have htb:tot F s.m b≠0:=by have:=aQ (F:=F) (ab hrp) b; dsimp only at this; omega
 refine ⟨m1,m2,bd s.m p t,_,k1,⟨m3,?_,h.nt,h.df,fun i=>bu hKs (fun _ _ _ h=>h) (h.t i)⟩,hKs,htot⟩;refine ⟨by simp only [World.size_setCell]; exact h.fr.size,h.fr.os,h.fr.tape,h.fr.output,fun j hj h0=>?_,h.fr.hold,h.fr.hnew,fun c hc=>?_,fun c h0=>(h.fr.nz.1 c h0).setCell,fun c o x l d h1 h2=>(h.fr.nz.2 c o x l d h1 h2).setCell⟩
 ·rw [bj]
  ·exact h.fr.block j hj h0
  ·intro e;subst e;rcases h.fr.tt j htb with h1 | h1
   ·exact h1 h0
   ·omega
 ·rw [htot] at hc;by_cases hf:ft c=0
  ·exact h.fr.tt c (by omega)
  ·exact hnew c hf
end
end Go.Am
end

section
namespace Go.Am
theorem so:∀ (p:List Step) (i j:Nat),aH (aH p i) j=aH p (i+j):=by
 intro p;induction p with
 | nil=>intros; rfl
 | cons a b ih=>
  intro i j;cases b with
  | nil=>simp [aH,UM]
  | cons c d=>
   have:=ih i j
   simp only [aH] at this ⊢;cases hd:aH (c::d) i with
   | nil=>exact absurd hd (gz _ _ (by simp))
   | cons e f=>rw [hd] at this; simp only [aH]; rw [this]
theorem N3 (p:Pl) (i j:Nat):(p.add i).add j=p.add (i+j):=by
 obtain ⟨n,o,path⟩:=p;cases path with
 | nil=>simp [Pl.add,UM]
 | cons a b=>
  simp only [Pl.add];have:=so (a::b) i j
  cases hd:aH (a::b) i with
  | nil=>exact absurd hd (gz _ _ (by simp))
  | cons e f=>rw [hd] at this; simp only; rw [this]
theorem Bw {n:Nm} {t:T} (h:t.ment n=false):t.kill (bv n)=t:=by
 cases t with
 | pl p=>simp only [T.ment,decide_eq_false_iff_not] at h; simp [T.kill,bv,h]
 | rf p=>simp only [T.ment,decide_eq_false_iff_not] at h; simp [T.kill,bv,h]
 | _=>rfl
def qJ (P:Program) (s:S) (t:TypeId) (x v:AV) (k:S->Prop):Prop:=
 match x,dx v with
 | .one (.c (.pl p)),some ts=>(ty P t).ok=true/\ts.length=(ty P t).size/\gn s.m p (ts.length - 1)/\ct s p ts k
 | _,_=>False
section
variable {P:Program} {g:G} {s:S} {a:Act} {w:World} {H:FH} {γ:Gam} {F:Nm->Fp}
theorem nD {b k:Nat} {v z:Value} (hv:gc v=true) (hc:w.cell? ⟨b,k,none⟩=some z) (hf:w.frozen? ⟨b,k,none⟩=false) :
  (store ⟨b,k,none⟩ v).run P w=.ok () (w.setCell ⟨b,k,none⟩ v):=by
 cases v <;> first | (simp [gc] at hv; done) | (simp [store,Sem.run,hc,hf])
theorem Fb:∀ (ts:List T) (vs:List Value) (s:S) (w:World) (γ:Gam) (F:Nm->Fp) (p:Pl) (b k0 i:Nat) (K:S->Prop),RX g s a w H γ F ->
  (∀ j,j<ts.length->bw s.m (p.add j)/\plA w γ (p.add j)=some ⟨b,k0+i+j,none⟩)->vs.length=ts.length->Ts (TR w H γ s.m) ts (fun _=>0) vs->ct s p ts K ->
  ∃ s' w' γ' F',(storeCells ⟨b,k0,none⟩ vs i).run P w=.ok () w'/\K s'/\RX g s' a w' H γ' F':=by
 intro ts;induction ts with
 | nil=>
  intro vs s w γ F p b k0 i K h _ hl _ hK;cases vs with
  | nil=>exact ⟨s,w,γ,F,rfl,hK,h⟩
  | cons _ _=>simp at hl
 | cons t ts ih=>
  intro vs s w γ F p b k0 i K h hok hl hts hK;cases vs with
  | nil=>simp at hl
  | cons v vs=>
  obtain ⟨v',r,f1,f2,hv,hf,ht,hrest⟩:=hts;simp only [List.cons.injEq] at hv;obtain ⟨rfl,rfl⟩:=hv;have hf1:f1=fun _=>0:=by funext b; have:=hf b; dsimp only at this; omega
  have hf2:f2=fun _=>0:=by funext b; have:=hf b; dsimp only at this; omega
  subst hf1; subst hf2;obtain ⟨hok0,hA0⟩:=hok 0 (by simp);rw [add_zero] at hok0 hA0;simp only [Uf] at hA0;have go:∀ (s1:S) (F1:Nm->Fp) (t1:T) (ft:Fp) (K1:S->Prop),RX g s1 a w H γ F1->(∀ j,j < (t::ts).length->bw s1.m (p.add j)/\plA w γ (p.add j)=some ⟨b,k0+i+j,none⟩) ->
    TR w H γ s1.m t1 ft v->gc v=true->(∀ c,tot F1 s1.m c+ft c<=1)->(∀ c,ft c≠0->c<w.heap.size/\∀ o,H c o=none)->(∀ c,ft c≠0->g.own0 c≠0\/g.w0.heap.size<=c) ->
    Ts (TR w H γ s1.m) ts (fun _=>0) vs->nV s1.m p t1 (fun m'=>ct ⟨s1.t,m'⟩ (p.add 1) ts K1) ->
    ∃ s' w' γ' F',(storeCells ⟨b,k0,none⟩ (v::vs) i).run P w=.ok () w'/\K1 s'/\RX g s' a w' H γ' F':=by
   intro s1 F1 t1 ft K1 h1 hok1 ht1 hone hd hl1 hnew hts1 hp;obtain ⟨hok10,hA10⟩:=hok1 0 (by simp);rw [add_zero] at hok10 hA10;simp only [Uf] at hA10;obtain ⟨⟨z,c1⟩,c2,m',F',c3,c4,c5,_⟩:=Ky h1 hok10 hA10 hp ht1 hone hd hl1 hnew;obtain ⟨s',w',γ',F'',e1,e2,e3⟩:=ih vs ⟨s1.t,m'⟩ (w.setCell ⟨b,k0+i,none⟩ v) γ F' (p.add 1) b k0 (i+1) K1 c4 (fun j hj=>by
     rw [N3];obtain ⟨q1,q2⟩:=hok1 (1+j) (by simp; omega);obtain ⟨q3,q4⟩:=c5.pl _ q1;refine ⟨q3,?_⟩;rw [q4,q2]; congr 2; omega) (by simpa using hl) (mf c5 (fun _ _ _ h=>h) (fun _ hb=>absurd rfl hb) hts1) c3
   refine ⟨s',w',γ',F'',?_,e2,e3⟩;simp only [storeCells,Sem.run_bind,bO];rw [nD hone c1 c2,Result.andThen_ok];exact e1
  have le:=fun c=>h.mem.le1 c
  have plain:t.sure=true->t.owned=false->(∀ q,t≠.rf q)->nV s.m p t (fun m'=>ct ⟨s.t,m'⟩ (p.add 1) ts K)->∃ s' w' γ' F',(storeCells ⟨b,k0,none⟩ (v::vs) i).run P w=.ok () w'/\K s'/\RX g s' a w' H γ' F':=by
   intro hs _ _ hp;exact go s F t (fun _=>0) K h hok ht (pj h.mem ht hs) (fun c=>by have:=le c; omega) (fun c hc=>absurd rfl hc) (fun c hc=>absurd rfl hc) hrest hp
  cases t with
  | rf q=>
   obtain ⟨n,o,path⟩:=q;simp only [ct] at hK;cases hr:aa s.m n with
   | none=>rw [hr] at hK; exact hK.elim
   | some rr=>
    rw [hr] at hK;obtain ⟨blk,cells⟩:=rr
    match blk,cells,hK,hr with
    | false,[.ow sub l],hK2,hr2=>
     obtain ⟨hp,hne,hnm,hK3⟩:=hK2
     try dsimp only at hp hne hnm hK3
     subst hp;obtain ⟨u,f,hg,hT,h1,htot⟩:=Ao h hr2;have huv:u=v:=by
      obtain ⟨_,hrf,hpv⟩:=ht;simp only [plV,ao,hg] at hpv;split at hpv
      ·simpa using hpv
      ·simp at hpv
     subst huv;have hown:∀ c,f c≠0->tot F s.m c≠0:=fun c hc=>by have:=htot c; omega
     have hone:gc u=true:=pj h.mem (hT s.m) rfl
     refine go (s.drop n) F (.ow sub l) f K h1 (fun j hj=>?_) (hT _) hone (fun c=>by have:=htot c; have:=le c; omega) (fun c hc=>⟨h.mem.lt c (hown c hc),h.mem.nofz c (hown c hc)⟩) (fun c hc=>h.fr.tt c (hown c hc)) ?_ hK3
     ·obtain ⟨q1,q2⟩:=hok j hj;have hroot:(p.add j).root=p.root:=by
       unfold Pl.add; cases p.path <;> rfl
      obtain ⟨q3,q4⟩:=(db (w:=w) (γ:=γ) (m:=s.m) (n:=n)).pl (p.add j) (by simp [bv,hroot]; exact fun e=>hne e.symm) q1;exact ⟨q3,by rw [q4]; exact q2⟩
     ·have:=pB (db (w:=w) (γ:=γ) (m:=s.m) (n:=n)) (fun _ _ _ h=>h) (fun _ hb=>absurd rfl hb) hrest
      have e:ts.map (·.kill (bv n))=ts:=by
       rw [S1 (g:=id)]
       ·simp
       ·intro t' ht';have:=(SQ.1 hnm) t' ht'
        exact Bw (by simpa using this)
      rw [e] at this; exact this
  | any=>exact hK.elim
  | d x=>
   cases x with
   | any=>exact hK.elim
   | _=>exact plain rfl rfl (fun q h=>by simp at h) hK
  | nil=>exact plain rfl rfl (fun q h=>by simp at h) hK
  | ow sub l=>
   refine go s F (.ow sub l) (fun _=>0) K h hok ht (pj h.mem ht rfl) (fun c=>by have:=le c; omega) (fun c hc=>absurd rfl hc) (fun c hc=>absurd rfl hc) hrest hK
  | mp l=>obtain ⟨b',_,_,_,_,_,_,_,h5⟩:=ht; exact absurd (h5 b') (by simp)
  | el row off=>exact plain rfl rfl (fun q h=>by simp at h) hK
  | pl q=>exact plain rfl rfl (fun q h=>by simp at h) hK
theorem Iw (h:RX g s a w H γ F) {t:TypeId} {x v:AV} {k:S->Prop} {ux uv:Value} (hK:qJ P s t x v k) (hx:AR w H γ s.m x ux) (hv:AR w H γ s.m v uv) :
  ∃ s' w' γ' F',(Instr.storeAt t ux uv).run P w=.ok () w'/\k s'/\RX g s' a w' H γ' F':=by
 unfold qJ at hK
 match x,hK with
 | .one (.c (.pl p)),hK=>
  cases hc:dx v with
  | none=>rw [hc] at hK; exact hK.elim
  | some ts=>
   rw [hc] at hK;obtain ⟨hok,hlen,hroom,hK⟩:=hK;obtain ⟨it,d,hit,_⟩:=cV hok;obtain ⟨hz,hokp,ad,hA,rfl⟩:=hx;obtain ⟨b,k0,rfl⟩:=mu h.mem hokp hA;have hcells:uv.cells.size=ts.length/\Ts (TR w H γ s.m) ts (fun _=>0) uv.cells.toList:=by
    match v,hc with
    | .one (.c t'),hc=>
     simp only [dx,SJ] at hc;subst hc;have hs:t'.sure=true:=by
      cases t' with
      | any=>exact hK.elim
      | d x=>cases x <;> first | rfl | exact hK.elim
      | _=>rfl
     exact tM h.mem (x:=.one (.c t')) hv rfl (by simp [hs])
    | .one (.agg ts'),hc=>
     simp only [dx,SJ] at hc;subst hc;obtain ⟨cs',rfl,h1,h2⟩:=hv;exact ⟨h1,h2⟩
   have hrm:∀ j,j<ts.length->gn s.m p j:=by
    intro j hj;unfold gn at hroom ⊢;cases hr:room s.m p with
    | none=>rw [hr] at hroom; exact hroom.elim
    | some n=>rw [hr] at hroom; dsimp only at hroom ⊢; omega
   obtain ⟨s',w',γ',F',e1,e2,e3⟩:=Fb (P:=P) ts uv.cells.toList s w γ F p b k0 0 k h (fun j hj=>⟨vo hokp (hrm j hj),by rw [sI hA]; rfl⟩) (by simpa using hcells.1) hcells.2 hK;refine ⟨s',w',γ',F',?_,e2,e3⟩;simp only [Instr.storeAt,Instr.sureAddr,Sem.run_bind,Sem.run_pure,Result.andThen_ok,storeVar,bc hit];rw [if_neg (by rw [hcells.1,hlen,eK hok]; simp)];exact e1
end
end Go.Am
end
