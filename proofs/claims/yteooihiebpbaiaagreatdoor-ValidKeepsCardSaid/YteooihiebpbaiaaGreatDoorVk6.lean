/-
  Part 6: AmIndex · AmBuild · AmMake · AmAlloc · AmWrite · AmStoreOp.
-/
import Derived.Test.YteooihiebpbaiaaGreatDoorVk5
import Derived.Laws.Tables
set_option linter.unusedSimpArgs false
set_option linter.unusedVariables false
set_option linter.unusedSectionVars false
set_option linter.unnecessarySimpa false
section
namespace Go.Am
section
variable {P:Program} {w:World} {H:FH} {γ:Gam} {m:Mm}
theorem GL:∀(p:List Step)(y:Value)(st:Step)(b k:Nat)(v:Value),aO w y p=some ⟨b,k,none⟩->w.cell? ⟨b,k,none⟩=some v->aO w y (p++[st])=aO w v [st]:=by
 intro p;induction p with
 |nil=>intro y st b k v h;cases y<;>simp[aO]at h
 |cons s r ih=>
  intro y st b k v h hv;cases y with
  |slice a len c=>
   cases a with
   |none=>cases r<;>simp[aO]at h
   |some a=>
    obtain⟨b0,o,sp⟩:=a;cases sp with
    |some _=>cases r<;>simp[aO]at h
    |none=>
     cases r with
     |nil=>
      simp only[aO,WG,Addr.mk.injEq,and_true]at h;obtain⟨rfl,rfl⟩:=h;simp only[Xu,X2,aO,hv]
     |cons t u=>
      simp only[aO]at h;simp only[Xu,aO];cases hc:w.cell? ⟨b0,o+s.idx*s.esz+s.off,none⟩with
      |none=>rw[hc]at h;simp at h
      |some v'=>
       rw[hc]at h;have:=ih v' st b k v h hv
       simpa only[Xu]using this
  |_=>cases r<;>simp[aO]at h
theorem O8:∀(p:List Step)(sub0 sub:List Sh)(l0 l:List (List D))(st:Step),okO sub0 l0 p->aY sub0 l0 p=some (.ow sub,.li l)->okO sub l [st]->okO sub0 l0 (p++[st]):=by
 intro p;induction p with
 |nil=>intro sub0 sub l0 l st h;exact h.elim
 |cons s r ih=>
  intro sub0 sub l0 l st h hl hst;cases r with
  |nil=>
   simp only[aY,WW,Prod.mk.injEq]at hl;obtain⟨s',hs,rfl,hd⟩:=hl;simp only[Xu,X2,okO,hs,hd];exact⟨h,hst⟩
  |cons t u=>
   obtain⟨h1,h2⟩:=h;simp only[Xu,okO];refine⟨h1,?_⟩;cases hs:sub0[s.off]? with
   |none=>rw[hs]at h2;exact h2.elim
   |some s'=>
    rw[hs]at h2;cases s' with
    |fr=>exact h2.elim
    |ow s'=>
     cases hd:(l0.getD s.idx []).getD s.off default with
     |li l'=>
      rw[hd]at h2;simp only[aY,hs,hd]at hl;dsimp only;have:=ih s' sub l' l st h2 hl hst
      simpa only[Xu]using this
     |_=>rw[hd]at h2;exact h2.elim
theorem Sq{F:Nm->Fp}(hm:Mem w H γ m F){p:Pl}(hok:bD m p){st:Step}{u:Value}(hv:plV w γ p=some u):plA w γ { p with path:=p.path++[st] }=aO w u [st]:=by
 obtain⟨n,off,path⟩:=p;cases path with
 |nil=>
  simp only[plV]at hv;simp only[plA,X2,hv,W6]
 |cons s r=>
  simp only[plV]at hv;simp only[plA,Xu];cases hc:aq w (γ n) off with
  |none=>rw[hc]at hv;simp at hv
  |some v=>
   rw[hc]at hv;simp only[W6]at hv⊢;cases hw:aO w v (s::r)with
   |none=>rw[hw]at hv;simp at hv
   |some a=>
    rw[hw]at hv;simp only[W6]at hv;have ha:plA w γ ⟨n,off,s::r⟩=some a:=by simp only[plA,hc,W6,hw]
    obtain⟨b,k,rfl⟩:=mM hm hok ha;have:=GL (s::r) v st b k u hw hv
    simpa only[Xu]using this
theorem Sb{p:Pl}{sub:List Sh}{l:List (List D)}{i:Nat}(hok:bD m p)(hg:aQ m p=some (.ow sub l))(hi:i<l.length)(h0:sub.length≠0):bD m (p.at i sub.length):=by
 obtain⟨r,h1,h2⟩:=ap.1 hok;obtain⟨n,off,path⟩:=p;dsimp only at h1 h2;unfold aQ at hg;rw[h1]at hg;rw[ap];refine⟨r,h1,?_⟩;have hst:okO sub l [⟨i,sub.length,0⟩]:=⟨hi,rfl,by dsimp only;omega⟩
 cases path with
 |nil=>
  dsimp only at hg;simp only[Pl.at,X2,aF,hg];exact hst
 |cons st u=>
  dsimp only at hg;dsimp only[aF]at h2;cases ht:r.cells[off]? with
  |none=>rw[ht]at h2;exact h2.elim
  |some t=>
   rw[ht]at h2 hg;cases t with
   |ow sub0 l0=>
    dsimp only at hg h2;cases hlo:aY sub0 l0 (st::u)with
    |none=>rw[hlo]at hg;simp at hg
    |some x=>
     obtain⟨s,d⟩:=x;rw[hlo]at hg;cases s with
     |fr=>simp at hg
     |ow s=>cases d with
      |li l'=>
       simp only[WG,T.ow.injEq]at hg;obtain⟨rfl,rfl⟩:=hg;have:=O8 (st::u) sub0 s l0 l' _ h2 hlo hst
       simp only[Pl.at,Xu,aF,ht];simpa only[Xu]using this
      |_=>simp at hg
   |_=>exact h2.elim
theorem wL{F:Nm->Fp}(hm:Mem w H γ m F){t:TypeId}{x i:AV}{k:AV->Prop}{u v:Value}(h:eV P m t x i k)(hx:AR w H γ m x u)(hi:AR w H γ m i v) :
  ∃z d,(∀w:World,(Instr.indexAt t u v).run P w=.ok z w)/\AR w H γ m d z/\k d:=by
 match i,h with
 |.one (.c (.d (.int κ n))),h=>
 obtain⟨rfl,_⟩:=ld hi;simp only[eV]at h;cases hk:(ty P t).k with
 |sl e=>
  rw[hk]at h;obtain⟨_,d,_,hd,he,_⟩:=aP hk (by simp);obtain rfl:=lZ he;have hel:P.elem t=e:=by simp[Program.elem,hd]
  match x,h with
  |.one (.c (.d (.li l))),h=>
   obtain⟨hok,h0,h⟩:=h;obtain⟨it,_,hit,_⟩:=eE hok;have hn:n.toNat<l.length:=by
    rcases W4 n.toNat l.length with h'|h'
    ·exact h'
    ·rw[W8 h']at h;exact h.elim
   have h:∀row,l[n.toNat]? = some row->row.length=(ty P e).size/\k (.one (.c (.el row 0))):=fun row hr=>by rw[hr]at h;exact h
   have hrow:l[n.toNat]? = some l[n.toNat]:=WH hn
   obtain⟨hlen,hk⟩:=h _ hrow;obtain⟨a,c,rfl,hc,hb,hd2⟩:=eK hx.2;rcases hd2 with hd2|⟨b,o,e',q,rfl,hfe⟩
   ·rw[hd2]at hn;simp at hn
   ·have hg:l.getD n.toNat []=l[n.toNat]:=by simp[List.getD,hn]
    obtain⟨g1,g2⟩:=hfe n.toNat hn;rw[hg]at g1 g2;have hee:e'=P.cellsOf e:=by rw[<- g1,hlen,iv hok]
    refine⟨.pointer (some ⟨b,o+n.toNat*P.cellsOf e,none⟩),.one (.c (.el l[n.toNat] 0)),?_,⟨fun _=>rfl,b,o+n.toNat*P.cellsOf e,q,by simp,fun j hj=>?_⟩,hk⟩
    ·intro w;rw[run_indexAt_slice w t _ _ _ _ _ (by rw[hel];exact hd),if_pos ⟨h0,(show n<l.length by omega)⟩,hel,bM hit,Result.andThen_ok,cH]
    ·rw[<- hee];exact g2 j Z1
  |.one (.c (.rf p)),h=>
   obtain⟨hok,hs0,h⟩:=h;obtain⟨it,_,hit,_⟩:=eE hok;obtain⟨tt,h1,h2,h3,h4,f,h5⟩:=PH hm hx h;cases tt with
   |ow sub l=>
    obtain⟨⟨q1,q2⟩,q3,q4⟩:=h1;have hn:n.toNat<l.length:=by omega
    obtain⟨j,h5⟩:=h5;cases j with
    |zero=>simp[OD]at h5
    |succ j=>
     obtain⟨a,c,_,_,rfl,_,_,_,_,_,hd2⟩:=kl h5;rcases hd2 with⟨hl,_⟩|⟨b,cs,tt,fz,rfl,_⟩
     ·rw[hl]at hn;simp at hn
     ·refine⟨.pointer (some ⟨b,0+n.toNat*P.cellsOf e,none⟩),.one (.c (.pl (p.at n.toNat (ty P e).size))),?_,⟨fun _=>rfl,?_,⟨b,0+n.toNat*P.cellsOf e,none⟩,?_,rfl⟩,q4⟩
      ·intro w;rw[run_indexAt_slice w t _ _ _ _ _ (by rw[hel];exact hd),if_pos ⟨q1,q2⟩,hel,bM hit,Result.andThen_ok,cH]
      ·rw[<- q3];exact Sb h3 h2 hn (by rw[q3];exact hs0)
      ·rw[Pl.at,Sq hm h3 h4,<- iv hok];simp[aO]
   |_=>exact h1.elim
 |ar N e=>
  rw[hk]at h;obtain⟨_,d,_,hd,he,_⟩:=aP hk (by simp);obtain rfl:=TM he;have hel:P.elem t=e:=by simp[Program.elem,hd]
  have hal:P.arrayLen t=N:=by simp[Program.arrayLen,hd]
  match x,h with
  |.one (.c (.pl p)),h=>
   obtain⟨hok,⟨h0,h1⟩,hr,h⟩:=h;obtain⟨it,_,hit,_⟩:=eE hok;obtain⟨hz,hokp,a,ha,rfl⟩:=hx;obtain⟨b,o,rfl⟩:=mM hm hokp ha;refine⟨.pointer (some ⟨b,o+n.toNat*P.cellsOf e,none⟩),.one (.c (.pl (p.add (n.toNat*(ty P e).size)))),?_,⟨fun _=>rfl,vC hokp hr,_,tA ha,by rw[iv hok]⟩,h⟩;intro w;rw[run_indexAt_array w t _ _ _ (by rw[hel,hal];exact hd),if_pos ⟨h0,by rw[hal];exact h1⟩,hel,bM hit,Result.andThen_ok,cH]
  |.one (.c (.el row o)),h=>
   obtain⟨hok,⟨h0,h1⟩,h⟩:=h;obtain⟨it,_,hit,_⟩:=eE hok;obtain⟨hz,b,o',q,rfl,hrow⟩:=hx;refine⟨.pointer (some ⟨b,o'+o+n.toNat*P.cellsOf e,none⟩),.one (.c (.el row (o+n.toNat*(ty P e).size))),?_,⟨fun _=>rfl,b,o',q,by rw[iv hok,Yy],hrow⟩,h⟩;intro w;rw[run_indexAt_array w t _ _ _ (by rw[hel,hal];exact hd),if_pos ⟨h0,by rw[hal];exact h1⟩,hel,bM hit,Result.andThen_ok,cH]
 |_=>rw[hk]at h;exact h.elim
theorem zL{x:AV}{k:AV->Prop}{u:Value}(h:kM x k)(hx:AR w H γ m x u):(∃a,u=.pointer (some a))/\k x:=by
 match x,h with
 |.one (.c (.pl p)),h=>obtain⟨_,_,a,_,rfl⟩:=hx;exact⟨⟨a,rfl⟩,h⟩
 |.one (.c (.el row o)),h=>obtain⟨_,b,o',q,rfl,_⟩:=hx;exact⟨⟨_,rfl⟩,h⟩
end
theorem L1{p:Pl}{ts:List T}{j:Nat}{t:T}(h:(qq p ts)[j]? = some t):∃t',ts[j]? = some t'/\t=xa (p.add j) t':=by
 simp only[qq,WK,List.getElem?_zipIdx,Option.map_map]at h;cases ht:ts[j]? with
 |none=>rw[ht]at h;simp at h
 |some t'=>
  rw[ht]at h;simp only[Option.map_some,Function.comp_apply,WG,Xy]at h;exact⟨t',rfl,h.symm⟩
theorem qs{p:Pl}{ts:List T}:(qq p ts).length=ts.length:=by simp[qq]
def Cu:AV->Bool
 |.one (.c (.el _ _))=>true
 |_=>false
section
variable {P:Program} {w:World} {H:FH} {γ:Gam} {m:Mm}
theorem Jf{t:T}{f:Fp}{y:Value}(h:TR w H γ m t f y):Pa t:=by
 cases t with
 |d x=>exact F7 h.2
 |_=>trivial
theorem Df:∀{ts:List T},(∀(i:Nat)(t:T),ts[i]? = some t->Pa t)->Jg ts
 |[],_=>trivial
 |t::ts,h=>⟨h 0 t rfl,Df (fun i t' ht=>h (i+1) t' (by simpa using ht))⟩
theorem Jh:∀{ds:List D},(∀(i:Nat)(x:D),ds[i]? = some x->okv x)->okvs ds
 |[],_=>trivial
 |x::ds,h=>⟨h 0 x rfl,Jh (fun i x' hx=>h (i+1) x' (by simpa using hx))⟩
theorem js{p:Nat->Value->Prop}:∀n,(∀j,j<n->∃v,p j v)->∃l:List Value,l.length=n/\∀(j:Nat)(v:Value),l[j]? = some v->p j v
 |0,_=>⟨[],rfl,fun j v h=>by simp at h⟩
 |n+1,h=>by
  obtain⟨l,h1,h2⟩:=js n (fun j hj=>h j Z1);obtain⟨v,hv⟩:=h n Z1;refine⟨l++[v],by simp[h1],fun j v' hj=>?_⟩;by_cases hjn:j<n
  ·rw[X9 Z1]at hj;exact h2 j v' hj
  ·have:=ah hj
   simp at this;obtain rfl:j=n:=by omega
   rw[XT Z1,h1]at hj;simp at hj;subst hj;exact hv
theorem vh{F:Nm->Fp}(hm:Mem w H γ m F){t:TypeId}{x:AV}{k:AV->Prop}{u:Value}(h:p5 P m t x k)(hx:AR w H γ m x u) :
  ∃z d,∃B:Nat->Prop,(Cu x=true->∀b,B b->∃o y,H b o=some y)/\(∀w2:World,(∀b,B b->w2.heap[b]? = w.heap[b]?)->(Instr.loadAt t u).run P w2=.ok z w2)/\AR w H γ m d z/\k d:=by
 obtain⟨hok,h⟩:=h;obtain⟨it,d,hit,hd,hag,hsz,_⟩:=eE hok;have hsize:(ty P t).size=P.cellsOf t:=iv hok
 match x,h with
 |.one (.c (.el row o)),h=>
  obtain⟨hz,b,o',q,rfl,hrow⟩:=hx;have cell:∀j,j<row.length->∃y,w.cell? ⟨b,o'+j,none⟩=some y/\FD H q (row.getD j default) y:=fun j hj=>by
   obtain⟨y,h1,h2⟩:=hrow j hj;exact⟨y,hm.agree _ _ _ h1,h2⟩
  have inB:∀j,j<row.length->b=b/\∃o y,H b o=some y:=fun j hj=>by
   obtain⟨y,h1,h2⟩:=hrow j hj;exact⟨rfl,_,y,h1⟩
  have hBB:Cu (.one (.c (.el row o)))=true->∀c,(c=b/\∃o y,H b o=some y)->∃o y,H c o=some y:=fun _ c⟨e,h⟩=>by subst e;exact h
  dsimp only at h;split at h
  ·rename_i ha;rw[ha]at hag;obtain⟨hl,h⟩:=h;obtain⟨us,hu1,hu2⟩:=js (p:=fun j v=>w.cell? ⟨b,o'+o+j,none⟩=some v/\FD H q (row.getD (o+j) default) v) (ty P t).size (fun j hj=>by
    obtain⟨y,h1,h2⟩:=cell (o+j) Z1;exact⟨y,by rw[Yy];exact h1,h2⟩)
   have hlen:((row.drop o).take (ty P t).size).length=(ty P t).size:=by simp;omega
   have hcell:∀(j:Nat)(x:D),((row.drop o).take (ty P t).size)[j]? = some x->∃v,us[j]? = some v/\FDx H x v:=by
    intro j x hj;have hjn:j < (ty P t).size:=by have:=ah hj;rw[hlen]at this;exact this
    rw[W3 hjn,Xc]at hj;have hju:us[j]? = some (us[j]' Z1):=WH Z1
    refine⟨_,hju,q,?_⟩;have:=(hu2 j _ hju).2
    rw[List.getD,hj]at this;exact this
   refine⟨.agg us.toArray,.one (.agg (((row.drop o).take (ty P t).size).map T.d)),fun c=>c=b/\∃o y,H b o=some y,hBB,?_,⟨us.toArray,rfl,by simp[hu1];omega,?_⟩,h (Jh (fun i x hx=>?_))⟩
   ·intro w2 hw2;exact kV hd (by rw[<- hag]) hit (by rw[hu1,hsize]) (fun j v hv=>(b9 (hw2 b (inB (o+j) (by have:=ah hv;omega)))).trans (hu2 j v hv).1)
   ·refine pH (by simp[hu1];omega) (fun i t' ht=>?_);simp only[WK,WW]at ht;obtain⟨x,hx,rfl⟩:=ht;obtain⟨v,hv1,hv2⟩:=hcell i x hx;exact⟨v,by simpa using hv1,fun _=>rfl,hv2⟩
   ·obtain⟨v,_,hv2⟩:=hcell i x hx;exact F7 hv2
  ·rename_i ha;have ha':pJ d=false:=by rw[<- hag];simpa using ha
   cases hr:row[o]? with
   |none=>rw[hr]at h;exact h.elim
   |some x=>
    rw[hr]at h;obtain⟨y,h1,h2⟩:=cell o (ah hr);rw[List.getD,hr]at h2;exact⟨y,sc x,fun c=>c=b/\∃o y,H b o=some y,hBB,fun w2 hw2=>kW hd ha' ((b9 (hw2 b (inB o (ah hr)))).trans h1),⟨fun _=>rfl,q,h2⟩,h (F7 ⟨q,h2⟩)⟩
 |.one (.c (.pl p)),h=>
  obtain⟨hz,hokp,a,ha,rfl⟩:=hx;obtain⟨b,o,rfl⟩:=mM hm hokp ha;dsimp only at h;split at h
  ·rename_i hagg;rw[hagg]at hag;obtain⟨ts,e1,e2,e3⟩:=EI hm hokp h;obtain⟨us,hu1,hu2⟩:=js (p:=fun j v=>w.cell? ⟨b,o+j,none⟩=some v/\∀t',ts[j]? = some t'->TR w H γ m (xa (p.add j) t') (fun _=>0) v/\∃f,TR w H γ m t' f v) (ty P t).size (fun j hj=>by
    have hjt:ts[j]? = some (ts[j]' Z1):=WH Z1
    obtain⟨g1,g2⟩:=e3 j _ hjt;obtain⟨v,v1,v2,v3,v4⟩:=nP hm g2 g1;refine⟨v,v2 _ (tA ha),fun t' ht'=>?_⟩;rw[hjt]at ht';simp only[WG]at ht';subst ht';exact⟨v3,v4⟩)
   refine⟨.agg us.toArray,.one (.agg (qq p ts)),fun c=>c=b,fun h=>(by simp[Cu]at h),?_,⟨us.toArray,rfl,by simp[hu1,qs,e1],?_⟩,e2 (Df (fun i t' ht=>?_))⟩
   ·intro w2 hw2;exact kV hd (by rw[<- hag]) hit (by rw[hu1,hsize]) (fun j v hv=>(b9 (hw2 b rfl)).trans (hu2 j v hv).1)
   ·refine pH (by simp[hu1,qs,e1]) (fun i t' ht=>?_);obtain⟨t2,h2,rfl⟩:=L1 ht;have hi:i<us.length:=by have:=ah h2;omega
    have hiu:us[i]? = some us[i]:=WH hi
    exact⟨us[i],by simpa using hiu,((hu2 i _ hiu).2 t2 h2).1⟩
   ·have hi:i<us.length:=by have:=ah ht;omega
    have hiu:us[i]? = some us[i]:=WH hi
    obtain⟨f,hf⟩:=((hu2 i _ hiu).2 t' ht).2;exact Jf hf
  ·rename_i hagg;have ha':pJ d=false:=by rw[<- hag];simpa using hagg
   obtain⟨ts,e1,e2,e3⟩:=EI hm hokp h
   match ts,e1 with
   |[t'],_=>
    obtain⟨g1,g2⟩:=e3 0 t' rfl;rw[add_zero]at g1 g2;obtain⟨v,v1,v2,v3,f,v4⟩:=nP hm g2 g1;exact⟨v,.one (.c (xa p t')),fun c=>c=b,fun h=>(by simp[Cu]at h),fun w2 hw2=>kW hd ha' ((b9 (hw2 b rfl)).trans (v2 _ ha)),v3,e2 (Jf v4)⟩
theorem K3{t:TypeId}{x:AV}{i:Nat}{k:AV->Prop}{u:Value}(h:rz P t x i k)(hx:AR w H γ m x u) :
  ∃z d,(∀w:World,(Instr.field t u i).run P w=.ok z w)/\AR w H γ m d z/\k d:=by
 unfold rz at h;cases hk:(ty P t).k with
 |st fs=>
  rw[hk]at h
  match x,h with
  |.one (.agg ts),h=>
   obtain⟨_,d,_,hd,he,_⟩:=aP hk (by simp);obtain⟨fs',rfl,rfl⟩:=TN he;obtain⟨us,rfl,hu,hts⟩:=hx;dsimp only at h;cases hf:(fs'.toList.map fun f=>(f.offset,P.cellsOf f.type,Nr P f.type))[i]? with
   |none=>rw[hf]at h;exact h.elim
   |some q=>
    obtain⟨off,size,ag⟩:=q;rw[hf]at h;simp only[WK,WW,Prod.mk.injEq]at hf;obtain⟨f,hf1,rfl,rfl,hag⟩:=hf;have hf2:fs'[i]? = some f:=by simpa using hf1
    have hpart:∀w:World,(Instr.field t (.agg us) i).run P w=(part f.type us f.offset).run P w:=by
     intro w;simp only[Instr.field,Sem.run_bind,run_underlying hd,Result.andThen_ok,hf2];rfl
    simp only[hpart];have hus:us=us.toList.toArray:=by simp
    cases ag with
    |none=>exact h.elim
    |some ag=>
    simp only[Nr,WW]at hag;obtain⟨d',h1,h2⟩:=hag;cases ag with
    |false=>
     dsimp only at h;cases ht:ts[f.offset]? with
     |none=>rw[ht]at h;exact h.elim
     |some t'=>
      rw[ht]at h;obtain⟨v,hv,htr⟩:=th hts ht;refine⟨v,.one (.c t'),?_,htr,h⟩;intro w;rw[hus];exact eB h1 h2 hv
    |true=>
     obtain⟨hl,h⟩:=h;obtain⟨it,h3⟩:=zt h1;refine⟨.agg ((us.toList.drop f.offset).take (P.cellsOf f.type)).toArray,.one (.agg ((ts.drop f.offset).take (P.cellsOf f.type))),?_,⟨_,rfl,?_,?_⟩,h⟩
     ·intro w;rw[hus];exact j9 h1 h2 h3 us.toList f.offset
     ·simp;omega
     ·refine pH (by simp;omega) (fun j t' ht=>?_);have hj:j<P.cellsOf f.type:=by have:=ah ht;simp at this;omega
      rw[W3 hj,Xc]at ht;obtain⟨v,hv,htr⟩:=th hts ht;exact⟨v,by simp only[W3 hj,Xc];exact hv,htr⟩
 |_=>rw[hk]at h;exact h.elim
end
def T.sure:T->Bool
 |.any=>false
 |.d .any=>false
 |_=>true
def dx:AV->Option (List T)
 |.one (.c t)=>some [t]
 |.one (.agg ts)=>some ts
 |_=>none
def overw{α:Type}(ts:List α)(off:Nat)(cs:List α):List α:=ts.take off++cs++ts.drop (off+cs.length)
def ic(pl:Nat->Option (Nat×Nat)):List T->List (Nat×AV)->Option (List T)
 |ts,[]=>some ts
 |ts,(i,x)::r=>match pl i,dx x with
  |some (off,size),some cs=>if cs.length=size/\off+cs.length<=ts.length/\cs.all T.sure=true then ic pl (overw ts off cs) r else none
  |_,_=>none
def zst(P:Program)(t:TypeId):Option (List Value×List (Nat×Nat)):=
 match P.info? t,P.underlying t with
 |some it,some (.struct fields)=>match it.zero,fields.toList.mapM (fun f=>(P.info? f.type).map fun i=>(f.offset,i.size))with
  |some z,some places=>if z.cells.all okT=true then some (z.cells.toList,places)else none
  |_,_=>none
 |some it,some (.array N e)=>match it.zero,P.info? e with
  |some z,some ie=>if z.cells.all okT=true then some (z.cells.toList,(List.range N).map fun i=>(i*ie.size,ie.size))else none
  |_,_=>none
 |_,_=>none
theorem xS{f g:Nat->Option (Nat×Nat)}(hfg:∀i q,f i=some q->g i=some q):∀{ps:List (Nat×Value)}{cs r:Array Value},Instr.fill f cs ps=some r->Instr.fill g cs ps=some r
 |[],_,_,h=>h
 |(i,v)::ps,cs,r,h=>by
  simp only[Instr.fill]at h⊢;cases hf:f i with
  |none=>rw[hf]at h;cases h
  |some q=>
   rw[hf]at h;rw[hfg _ _ hf];dsimp only at h⊢;split at h
   ·cases h
   ·rename_i hc;rw[if_neg hc];exact xS hfg h
def oJ(P:Program)(t:TypeId)(parts:List (Nat×AV))(k:AV->Prop):Prop:=
 match zst P t with
 |some (zs,places)=>match ic (places[·]?) (zs.map nW) parts with
  |some ts=>k (.one (.agg ts))
  |none=>False
 |none=>False
theorem xU:∀(cs:List Value)(j:Nat)(off:Nat)(arr:Array Value)(i:Nat),
  ((cs.zipIdx j).foldl (fun a(x:Value×Nat)=>a.setIfInBounds (off+x.2) x.1) arr)[i]? =
   if off+j<=i/\i<off+j+cs.length/\i<arr.size then cs[i-off-j]? else arr[i]?
 |[],j,off,arr,i=>by
  simp only[List.zipIdx_nil,List.foldl_nil,WQ];rw[if_neg Z1]
 |c::cs,j,off,arr,i=>by
  rw[List.zipIdx_cons,List.foldl_cons,xU cs (j+1) off _ i];simp only[Array.size_setIfInBounds,WL];by_cases h1:off+(j+1)<=i/\i<off+(j+1)+cs.length/\i<arr.size
  ·rw[if_pos h1,if_pos Z1];have:i-off-j=(i-off - (j+1))+1:=by omega
   rw[this,Xx]
  ·rw[if_neg h1];by_cases h2:i=off+j
   ·subst h2;by_cases h3:off+j<arr.size
    ·rw[if_pos Z1];have:off+j-off-j=0:=by omega
     rw[this];simp[h3]
    ·rw[if_neg Z1,XL (by simp;omega),XL Z1]
   ·rw[if_neg Z1,Array.getElem?_setIfInBounds_ne Z1]
theorem uT:∀(cs:List Value)(j:Nat)(off:Nat)(arr:Array Value),
  ((cs.zipIdx j).foldl (fun a(x:Value×Nat)=>a.setIfInBounds (off+x.2) x.1) arr).size=arr.size
 |[],j,off,arr=>rfl
 |c::cs,j,off,arr=>by
  rw[List.zipIdx_cons,List.foldl_cons,uT cs (j+1) off _];simp
section
variable {P:Program} {w:World} {H:FH} {γ:Gam} {m:Mm}
theorem qz{F:Nm->Fp}(hm:Mem w H γ m F){t:T}{f:Fp}{y:Value}(h:TR w H γ m t f y)(hs:t.sure=true):l4 y=true:=by
 have ow:∀{k:Nat}{sub:List Sh}{l:List (List D)}{g:Fp},OD w H k (.ow sub) (.li l) g y->l4 y=true:=by
  intro k sub l g h;cases k with
  |zero=>simp[OD]at h
  |succ k=>obtain⟨a,c,_,_,rfl,_⟩:=kl h;rfl
 cases t with
 |d x=>
  cases x with
  |int k n=>obtain⟨rfl,_⟩:=dL h.2;rfl
  |bool b=>obtain rfl:=gu h.2;rfl
  |str l=>obtain⟨rfl,_⟩:=fm h.2;rfl
  |li l=>obtain⟨a,c,rfl,_⟩:=eK h.2;rfl
  |mp l=>obtain⟨b,rfl⟩:=Eg h.2;rfl
  |fn f l=>obtain⟨b,rfl⟩:=MK h.2;rfl
  |v z=>obtain⟨_,q,h⟩:=h;cases q<;>(obtain⟨rfl,h⟩:=h;exact h)
  |any=>simp[T.sure]at hs
 |nil=>obtain⟨_,rfl⟩:=h;rfl
 |ow sub l=>obtain⟨k,h⟩:=h;exact ow h
 |mp l=>obtain⟨b,es,ck,_,rfl,_⟩:=h;rfl
 |it cur rest=>obtain⟨r,m,a,s,c,rfl,_⟩:=h;rfl
 |el row off=>obtain⟨_,b,o,q,rfl,_⟩:=h;rfl
 |pl p=>obtain⟨_,_,a,_,rfl⟩:=h;rfl
 |rf p=>
  obtain⟨_,hr,hv⟩:=h;have hok:=dH hr
  have hg:∃x,aQ m p=some x/\((∃s l,x=.ow s l)\/(∃l,x=.mp l)\/∃c l,x=.it c l):=by
   obtain⟨r,hr',hc⟩:=bx.1 hr;unfold bf at hc;unfold aQ;rw[hr'];cases ht:r.cells[p.off]? with
   |none=>rw[ht]at hc;cases hpq:p.path<;>(rw[hpq]at hc;exact hc.elim)
   |some tt=>
    cases hpq:p.path with
    |nil=>
     rw[ht,hpq]at hc;cases tt with
     |ow sub l=>exact⟨_,by dsimp only;exact ht,.inl ⟨_,_,rfl⟩⟩
     |mp l=>exact⟨_,by dsimp only;exact ht,.inr (.inl ⟨_,rfl⟩)⟩
     |it c l=>exact⟨_,by dsimp only;exact ht,.inr (.inr ⟨_,_,rfl⟩)⟩
     |_=>exact hc.elim
    |cons st u=>
     rw[ht,hpq]at hc;cases tt with
     |ow sub l=>
      obtain⟨s,l',e⟩:=gm (P:=True) hc.2;exact⟨.ow s l',by simp only[ht,e],.inl ⟨_,_,rfl⟩⟩
     |_=>exact hc.elim
  obtain⟨x,hg,hx⟩:=hg;obtain⟨v,v1,_,_,f',v4⟩:=nP hm hok hg;rw[hv]at v1;simp only[WG]at v1;subst v1;rcases hx with⟨s,l,rfl⟩|⟨l,rfl⟩|⟨c,l,rfl⟩
  ·obtain⟨k,v4⟩:=v4;exact ow v4
  ·obtain⟨b,es,ck,_,rfl,_⟩:=v4;rfl
  ·obtain⟨r,m,a,s,c,rfl,_⟩:=v4;rfl
 |any=>simp[T.sure]at hs
theorem KS{y:Value}(h:l4 y=true):y.cells=#[y]:=by
 cases y<;>first|rfl|(simp[l4]at h)
theorem tM{F:Nm->Fp}(hm:Mem w H γ m F){x:AV}{v:Value}{cs:List T}(hx:AR w H γ m x v)(hc:dx x=some cs)(hs:cs.all T.sure=true) :
  v.cells.size=cs.length/\Ts (TR w H γ m) cs (fun _=>0) v.cells.toList:=by
 match x,hc with
 |.one (.c t),hc=>
  simp only[dx,WG]at hc;subst hc;have hone:l4 v=true:=qz hm hx (by simpa using hs)
  rw[KS hone];exact⟨rfl,v,[],fun _=>0,fun _=>0,rfl,fun _=>rfl,hx,fun _=>rfl⟩
 |.one (.agg ts),hc=>
  simp only[dx,WG]at hc;subst hc;obtain⟨cs',rfl,h1,h2⟩:=hx;exact⟨h1,h2⟩
def PR(w:World)(H:FH)(γ:Gam)(m:Mm):List (Nat×AV)->List (Nat×Value)->Prop
 |[],[]=>True
 |(i,x)::xs,(j,v)::vs=>i=j/\AR w H γ m x v/\PR w H γ m xs vs
 |_,_=>False
theorem LN{α:Type}{ts cs:List α}{off i:Nat}(h:off+cs.length<=ts.length):(overw ts off cs)[i]? = if off<=i/\i<off+cs.length then cs[i-off]? else ts[i]? := by
 unfold overw;have hl:(ts.take off).length=off:=by simp;omega
 by_cases h1:i<off
 ·rw[if_neg Z1,Xm,X9 Z1,W3 h1]
 ·rw[Xm,XT Z1,hl];by_cases h2:i<off+cs.length
  ·rw[if_pos Z1,X9 Z1]
  ·rw[if_neg Z1,XT Z1,Xc]
   congr 1;omega
theorem rR{α:Type}{ts cs:List α}{off:Nat}(h:off+cs.length<=ts.length):(overw ts off cs).length=ts.length:=by
 unfold overw;simp;omega
theorem tx{F:Nm->Fp}(hm:Mem w H γ m F){pl:Nat->Option (Nat×Nat)}:∀(parts:List (Nat×AV))(vs:List (Nat×Value))(ts:List T)(us:Array Value)(ts':List T),
  PR w H γ m parts vs->us.size=ts.length->Ts (TR w H γ m) ts (fun _=>0) us.toList->ic pl ts parts=some ts' ->
  ∃us',Instr.fill pl us vs=some us'/\us'.size=ts'.length/\Ts (TR w H γ m) ts' (fun _=>0) us'.toList:=by
 intro parts;induction parts with
 |nil=>
  intro vs ts us ts' hp hl hu hf;cases vs with
  |cons _ _=>exact hp.elim
  |nil=>
   simp only[ic,WG]at hf;subst hf;exact⟨us,rfl,hl,hu⟩
 |cons z parts ih=>
  obtain⟨i,x⟩:=z;intro vs ts us ts' hp hl hu hf;cases vs with
  |nil=>exact hp.elim
  |cons z vs=>
   obtain⟨j,v⟩:=z;obtain⟨rfl,hx,hp⟩:=hp;simp only[ic]at hf;cases hpl:pl i with
   |none=>rw[hpl]at hf;simp at hf
   |some q=>
    obtain⟨off,size⟩:=q;rw[hpl]at hf;cases hcs:dx x with
    |none=>rw[hcs]at hf;simp at hf
    |some cs=>
     rw[hcs]at hf;dsimp only at hf;split at hf
     ·rename_i hcond;obtain⟨h1,h2,h3⟩:=hcond;obtain⟨c1,c2⟩:=tM hm hx hcs h3;have hfold:v.cells.zipIdx.foldl (fun cs(c,j)=>cs.setIfInBounds (off+j) c) us=(v.cells.toList.zipIdx.foldl (fun a(x:Value×Nat)=>a.setIfInBounds (off+x.2) x.1) us):=by
       rw[<- Array.foldl_toList,Array.toList_zipIdx]
      have hget:=xU v.cells.toList 0 off us
      have hsize:=uT v.cells.toList 0 off us
      generalize hus:v.cells.toList.zipIdx.foldl (fun a(x:Value×Nat)=>a.setIfInBounds (off+x.2) x.1) us=us2 at hfold hget hsize;have hcl:v.cells.toList.length=cs.length:=by simpa using c1
      have hts2:Ts (TR w H γ m) (overw ts off cs) (fun _=>0) us2.toList:=by
       refine pH (by rw[rR h2];simpa[hl]using hsize) (fun i t ht=>?_);rw[LN h2]at ht;have hgi:=hget i
       by_cases hr:off<=i/\i<off+cs.length
       ·rw[if_pos hr]at ht;obtain⟨u,hu1,hu2⟩:=th c2 ht;refine⟨u,?_,hu2⟩;rw[if_pos (by rw[hcl];omega)]at hgi;rw[Array.getElem?_toList,hgi];exact hu1
       ·rw[if_neg hr]at ht;obtain⟨u,hu1,hu2⟩:=th hu ht;refine⟨u,?_,hu2⟩;rw[if_neg (by rw[hcl];omega)]at hgi;rw[Array.getElem?_toList,hgi];simpa using hu1
      obtain⟨us',e1,e2,e3⟩:=ih vs (overw ts off cs) us2 ts' hp (by rw[rR h2,hsize,hl]) hts2 hf;refine⟨us',?_,e2,e3⟩;simp only[Instr.fill,hpl];rw[if_neg (by simp only[c1,h1,ne_eq,not_true_eq_false,XG,decide_false];simp;omega),hfold];exact e1
     ·simp at hf
end
theorem Fr.trans{w0 w w':World}{H0 H H':FH}{own0 tt tt':Fp}(h:Fr w0 H0 own0 w H tt)(k:Fr w H tt w' H' tt'):Fr w0 H0 own0 w' H' tt':=by
 refine⟨Xo h.size k.size,k.os.trans h.os,k.tape.trans h.tape,k.output.trans h.output,fun i hi h0=>?_,fun b o y hy=>k.hold _ _ _ (h.hold _ _ _ hy),fun b o h1 h2=>?_,fun b hb=>?_,fun b hb=>k.nz.1 b (h.nz.1 b hb),fun b o x l c h1 h2=>?_⟩
 ·have:tt i=0:=by
   rcases W7 (tt i)with h'|h'
   ·exact h'
   ·rcases h.tt i Z1 with h1|h1<;>omega
  rw[k.block i (by have:=h.size;omega) this];exact h.block i hi h0
 ·by_cases hH:H b o=none
  ·rcases k.hnew b o h1 hH with h3|h3
   ·exact h.tt b h3
   ·right;have:=h.size;omega
  ·exact h.hnew b o hH h2
 ·rcases k.tt b hb with h1|h1
  ·exact h.tt b h1
  ·right;have:=h.size;omega
 ·cases hH:H b o with
  |none=>exact k.nz.2 b o x l c h1 hH
  |some y=>
   have:=(k.hold b o y hH).symm.trans h1
   cases this;exact k.nz.1 b (h.nz.2 b o x l c hH h2)
theorem Fr.refl'{w w':World}{H:FH}{tt tt':Fp}(h1:w'.heap=w.heap)(h2:w'.os=w.os)(h3:w'.tape=w.tape)(h4:w'.output=w.output)(h5:∀b,tt' b≠0->tt b≠0):Fr w H tt w' H tt':=
 ⟨by rw[h1];exact WN _,h2,h3,h4,fun _ _ _=>by rw[h1],fun _ _ _ h=>h,fun b o h1 h2=>absurd h2 h1,fun b hb=>.inl (h5 b hb),fun b hb=>hb.of_block (by rw[h1]),fun b o x l c h1 h2=>by rw[h2]at h1;cases h1⟩
section
variable {P:Program} {g:G} {s:S} {a:Act} {w:World} {H:FH} {γ:Gam} {F:Nm->Fp}
theorem fp(h:RX g s a w H γ F){w':World}{H':FH}{γ':Gam}{m':Mm}{F':Nm->Fp}(hm:Mem w' H' γ' m' F')(hf:Fr w H (tot F s.m) w' H' (tot F' m')){t':List (Nat×AV)}
  (ht:∀i,AR w' H' γ' m' (aL t' i) (g.tv a i)) (hγ:∀j,γ' (.out j)=γ (.out j)):RX g ⟨t',m'⟩ a w' H' γ' F':=⟨hm,h.fr.trans hf,h.nt,⟨h.df.1,fun j b e=>(hγ j).trans (h.df.2.1 j b e),h.df.2.2⟩,ht⟩
theorem Jy{γ:Gam}{n:Nm}{x:RC}(hno:n.isOut=false)(j:Nat):upd γ n x (.out j)=γ (.out j):=by
 unfold upd;rw[if_neg];intro e;subst e;simp[Nm.isOut]at hno
theorem bU{w:World}{o:Obj}{k:Nat}(h:k<w.heap.size):(w.alloc o).heap[k]? = w.heap[k]? := by
 show(w.heap.push o)[k]? = _
 rw[Array.getElem?_push,if_neg Z1]
theorem bi{w:World}{o:Obj}:(w.alloc o).heap[w.heap.size]? = some o:=by
 show(w.heap.push o)[w.heap.size]? = _
 rw[Array.getElem?_push,if_pos rfl]
theorem ni{m:Mm}(hm:Mem w H γ m F)(cs:Array Value)(ty:TypeId)(fz:Bool) :
  let w':=w.alloc (.cells cs ty)
  let H':FH:=fun b o=>if fz=true/\b=w.heap.size then cs[o]?.map HV.c else H b o
  Mem w' H' γ m F/\Fr w H (tot F m) w' H' (tot F m)/\Keeps w γ m w' γ m/\(∀b o y,H b o=some y->H' b o=some y):=by
 intro w' H';have hHb:∀b o y,H b o=some y->b<w.heap.size:=fun b o y h=>(hm.agree b o y h).lt
 have hH:∀b o y,H b o=some y->H' b o=some y:=by
  intro b o y h;have:=hHb b o y h
  simp only[H'];rw[if_neg Z1];exact h
 have hold:∀k,k<w.heap.size->w'.heap[k]? = w.heap[k]? := fun k hk=>bU hk
 have hK:=cD (w':=w') hm (fun b hb=>hold b (hm.lt b hb))
 have hin:∀x∈m,∀b,F x.1 b≠0->b<w.heap.size:=fun x hx b hb=>hm.lt b (by have:=aW (F:=F) hx b;omega)
 refine⟨⟨?_,?_,hm.keys,hm.le1,?_,?_⟩,⟨by simp[w'],rfl,rfl,rfl,fun k hk _=>hold k hk,hH,?_,fun b hb=>.inl hb,fun b hb=>hb.of_block (hold b hb.lt),fun b o x l c h1 h2=>?_⟩,hK,hH⟩
 ·intro b o y hy;simp only[H']at hy;split at hy
  ·rename_i hc;obtain⟨z,hz,rfl⟩:=WW.1 hy;rw[hc.2];show w'.cell? ⟨w.heap.size,o,none⟩=some z
   simp only[World.cell?,w',bi,XJ,WP,if_false];exact hz
  ·exact(hm.agree b o y hy).frame (hold b (hHb b o y hy))
 ·intro x hx;exact aN hK hH rfl (fun b hb=>hold b (hin x hx b hb)) (hm.roots x hx)
 ·intro b hb;have:=hm.lt b hb;simp only[w',World.size_alloc];omega
 ·intro b hb o;have:=hm.lt b hb
  simp only[H'];rw[if_neg Z1];exact hm.nofz b hb o
 ·intro b o h1 h2;simp only[H']at h1;split at h1
  ·rename_i hc;right;omega
  ·exact absurd h2 h1
 ·simp only[H']at h1;split at h1
  ·rename_i hc;rw[hc.2];exact⟨cs,ty,bi⟩
  ·rw[h2]at h1;cases h1
theorem M5(h:RX g s a w H γ F){n:Nm}(hno:n.isOut=false)(hn:ab s.m n=none){ts:List T}{cs:Array Value}(hl:cs.size=ts.length)(hts:Ts (TR w H γ s.m) ts (fun _=>0) cs.toList)(ty:TypeId)(hty:∀t,n.tyd=some t->ty=t) :
  ∃γ' F',RX g ⟨s.t,(n,⟨true,ts⟩)::s.m⟩ a (w.alloc (.cells cs ty)) H γ' F'/\γ' n=.blk w.heap.size:=by
 obtain⟨hm,hf,hK,hH⟩:=ni h.mem cs ty false;simp only[WP,false_and,if_false]at hm hf hK hH;have hK2:=kj (w:=w.alloc (.cells cs ty)) (γ:=γ) (rc:=.blk w.heap.size) (r:=⟨true,ts⟩) hn
 have hz:tot F s.m w.heap.size=0:=by
  rcases W7 (tot F s.m w.heap.size)with h'|h'
  ·exact h'
  ·have:=h.mem.lt w.heap.size Z1;omega
 have hHz:∀o,H w.heap.size o=none:=by
  intro o;cases hc:H w.heap.size o with
  |none=>rfl
  |some y=>have:=(h.mem.agree _ _ _ hc).lt;simp at this
 obtain⟨hm2,ht2⟩:=tf hm (n:=n) (rc:=.blk w.heap.size) (r:=⟨true,ts⟩) (f:=fun b=>0+if b=w.heap.size then 1 else 0) hn (by
   unfold a8;rw[if_pos rfl];refine⟨w.heap.size,cs,ty,(0,0),fun _=>0,cQ,bi,⟨rfl,hty⟩,hl,?_,fun _=>rfl⟩;exact mi hK2 (fun _ _ _ h=>h) (fun _ hb=>absurd rfl hb) (mi hK (fun _ _ _ h=>h) (fun _ hb=>absurd rfl hb) hts))
  (fun b=>by
   by_cases hb:b=w.heap.size
   ·subst hb;rw[hz];simp
   ·rw[if_neg hb];have:=h.mem.le1 b;omega)
  (fun b hb=>by
   have hb':b=w.heap.size:=by
    by_cases hb':b=w.heap.size
    ·exact hb'
    ·rw[if_neg hb']at hb;simp at hb
   subst hb';exact⟨by simp,hHz⟩)
 refine⟨_,_,fp h hm2 ?_ (fun i=>bV hK2 (fun _ _ _ h=>h) (bV hK (fun _ _ _ h=>h) (h.t i))) (Jy hno),cQ⟩;refine⟨hf.size,hf.os,hf.tape,hf.output,hf.block,hf.hold,hf.hnew,fun b hb=>?_,hf.nz⟩;rw[ht2]at hb;by_cases hb':b=w.heap.size
 ·right;omega
 ·rw[if_neg hb']at hb;left;omega
theorem cG(h:RX g s a w H γ F){n:Nm}(hno:n.isOut=false)(hn:ab s.m n=none){v:Value}{t:T}{f:Fp}(ht:TR w H γ s.m t f v)(hd:∀b,tot F s.m b+f b<=1)(hl:∀b,f b≠0->b<w.heap.size/\∀o,H b o=none)
  (hnew:∀b,f b≠0->g.own0 b≠0\/g.w0.heap.size<=b) :
  ∃γ' F',RX g ⟨s.t,(n,⟨false,[t]⟩)::s.m⟩ a w H γ' F'/\γ' n=.gh v:=by
 have hK2:=kj (w:=w) (γ:=γ) (rc:=.gh v) (r:=⟨false,[t]⟩) hn
 obtain⟨hm2,ht2⟩:=tf h.mem (n:=n) (rc:=.gh v) (r:=⟨false,[t]⟩) (f:=f) hn (by
   unfold a8;rw[if_neg (by simp)];exact⟨v,t,cQ,rfl,gy hK2 (fun _ _ _ h=>h) (fun _ _=>rfl) ht⟩) hd hl
 refine⟨_,_,⟨hm2,?_,h.nt,⟨h.df.1,fun j b e=>(Jy hno j).trans (h.df.2.1 j b e),h.df.2.2⟩,fun i=>bV hK2 (fun _ _ _ h=>h) (h.t i)⟩,cQ⟩;refine⟨h.fr.size,h.fr.os,h.fr.tape,h.fr.output,h.fr.block,h.fr.hold,h.fr.hnew,fun b hb=>?_,h.fr.nz⟩;rw[ht2]at hb;by_cases hf:f b=0
 ·exact h.fr.tt b Z1
 ·exact hnew b hf
end
def fF(sub:List Sh)(l:List (List D))(t:T):List Step->(List (List D)->Prop)->Prop
 |[],_=>False
 |[st],k=>match l[st.idx]? with
  |some x=>match sub[st.off]?,x[st.off]? with
   |some .fr,some _=>mB .fr t/\k (l.set st.idx (x.set st.off t.toD))
   |some (.ow s),some .any=>mB (.ow s) t/\k (l.set st.idx (x.set st.off t.toD))
   |_,_=>False
  |none=>False
 |st::st'::r,k=>match l[st.idx]? with
  |some x=>match sub[st.off]?,x[st.off]? with
   |some (.ow s),some (.li l')=>fF s l' t (st'::r) fun l''=>k (l.set st.idx (x.set st.off (.li l'')))
   |_,_=>False
  |none=>False
def o7(m:Mm)(p:Pl)(t:T)(k:Mm->Prop):Prop:=
 match ab m p.root with
 |none=>False
 |some r=>match p.path,r.cells[p.off]? with
  |[],some t0=>t0.owned=false/\k (bE m p.root { r with cells:=r.cells.set p.off t })
  |st::q,some (.ow sub l)=>fF sub l t (st::q) fun l'=>k (bE m p.root { r with cells:=r.cells.set p.off (.ow sub l') })
  |_,_=>False
def T.ment(n:Nm):T->Bool
 |.pl p=>decide (p.root=n)
 |.rf p=>decide (p.root=n)
 |_=>false
def S.drop(s:S)(n:Nm):S:=⟨kG (aX n) s.t,aC (aX n) (bz s.m n)⟩
def cz(s:S)(p:Pl):List T->(S->Prop)->Prop
 |[],k=>k s
 |.rf q::ts,k=>match ab s.m q.root with
  |some ⟨false,[.ow sub l]⟩=>q.path=[]/\q.root≠p.root/\(ts.all fun t=>!t.ment q.root)=true/\o7 (s.drop q.root).m p (.ow sub l) fun m'=>cz ⟨(s.drop q.root).t,m'⟩ (p.add 1) ts k
  |_=>False
 |.any::_,_=>False
 |.d .any::_,_=>False
 |t::ts,k=>o7 s.m p t fun m'=>cz ⟨s.t,m'⟩ (p.add 1) ts k
theorem PN:∀(p:List Step)(sub:List Sh)(l:List (List D))(t:T)(k:List (List D)->Prop),(∀N,wfO N sub l)->okO sub l p->fF sub l t p k ->
  k (bF sub l t.toD p)/\∃s x,aY sub l p=some (s,x)/\mB s t/\∀s' l',(s,x)≠(.ow s',.li l'):=by
 intro p;induction p with
 |nil=>intro sub l t k _ h;exact h.elim
 |cons st r ih=>
  intro sub l t k hwf hok hin;cases r with
  |nil=>
   obtain⟨h1,h2,h3⟩:=hok;have hx:l[st.idx]? = some l[st.idx]:=WH h1
   have hg:l.getD st.idx []=l[st.idx]:=by simp[List.getD,h1]
   unfold fF at hin;rw[hx]at hin;dsimp only at hin;cases hs:sub[st.off]? with
   |none=>rw[hs]at hin;exact hin.elim
   |some s=>
    rw[hs]at hin;cases hd:(l[st.idx])[st.off]? with
    |none=>rw[hd]at hin;cases s<;>exact hin.elim
    |some d=>
     rw[hd]at hin;have hd':(l.getD st.idx []).getD st.off default=d:=by rw[hg,List.getD,hd];rfl
     cases s with
     |fr=>
      refine⟨by simp only[bF,hg];exact hin.2,.fr,d,by simp only[aY,hs,hd',Option.map_some],hin.1,fun s' l' h=>by simp at h⟩
     |ow s=>
      cases d with
      |any=>exact⟨by simp only[bF,hg];exact hin.2,.ow s,.any,by simp only[aY,hs,hd',Option.map_some],hin.1,fun s' l' h=>by simp at h⟩
      |_=>exact hin.elim
  |cons st' u=>
   obtain⟨⟨h1,h2,h3⟩,hok⟩:=hok;have hx:l[st.idx]? = some l[st.idx]:=WH h1
   have hg:l.getD st.idx []=l[st.idx]:=by simp[List.getD,h1]
   unfold fF at hin;rw[hx]at hin;dsimp only at hin;cases hs:sub[st.off]? with
   |none=>rw[hs]at hok;exact hok.elim
   |some s=>
    rw[hs]at hok hin;cases s with
    |fr=>exact hok.elim
    |ow s=>
     cases hd:(l[st.idx])[st.off]? with
     |none=>rw[hd]at hin;exact hin.elim
     |some d=>
      have hd':(l.getD st.idx []).getD st.off default=d:=by rw[hg,List.getD,hd];rfl
      rw[hd']at hok;rw[hd]at hin;cases d with
      |li l'=>
       dsimp only at hin hok;obtain⟨k1,s1,x1,k2,k3,k4⟩:=ih s l' t _ (fun N=>(hwf (N+1)).2 st.idx st.off s l' hs hd') hok hin;refine⟨by simp only[bF,hs,hd'];rw[hg];exact k1,s1,x1,by simp only[aY,hs,hd'];exact k2,k3,k4⟩
      |_=>exact hok.elim
section
variable {P:Program} {g:G} {s:S} {a:Act} {w:World} {H:FH} {γ:Gam} {F:Nm->Fp}
theorem Su{m:Mm}(hm:Mem w H γ m F){p:Pl}(hok:bD m p){t:T}{k:Mm->Prop}(h:o7 m p t k) :
  k (aZ m p t)/\∃t0,aQ m p=some t0/\t0.owned=false/\(p.path=[]\/∃s,SJ m p=some s/\mB s t):=by
 obtain⟨r,h1,h2⟩:=ap.1 hok;obtain⟨nm,off,path⟩:=p;dsimp only at h1 h2;unfold o7 at h;rw[h1]at h;dsimp only at h;cases path with
 |nil=>
  cases ht:r.cells[off]? with
  |none=>rw[ht]at h;exact h.elim
  |some t0=>
   rw[ht]at h;refine⟨by simp only[aZ,h1];exact h.2,t0,by simp only[aQ,h1,ht],h.1,.inl rfl⟩
 |cons st u=>
  dsimp only[aF]at h2;cases ht:r.cells[off]? with
  |none=>rw[ht]at h2;exact h2.elim
  |some t0=>
   rw[ht]at h2 h;cases t0 with
   |ow sub l=>
    dsimp only at h2 h;have hwf:∀N,wfO N sub l:=by
     intro N;obtain⟨v,g,_,⟨k,c2⟩,_⟩:=da (hm.roots _ (ae h1)) ht;exact yL N k sub l g v c2
    obtain⟨k1,s,x,k2,k3,k4⟩:=PN (st::u) sub l t _ hwf h2 h;refine⟨by simp only[aZ,h1,ht];exact k1,mkT s x,?_,?_,.inr ⟨s,by simp only[SJ,h1,ht,k2,Option.map_some],k3⟩⟩
    ·simp only[aQ,h1,ht,k2];cases s with
     |fr=>rfl
     |ow s'=>cases x<;>rfl
    ·cases s with
     |fr=>rfl
     |ow s'=>cases x with
      |li l'=>exact absurd rfl (k4 s' l')
      |_=>rfl
   |_=>exact h2.elim
theorem x6{n:Nm}{i:Nat}:aL (s.drop n).t i=(aL s.t i).kill (aX n):=lE _ _ _
theorem SS{m:Mm}{n:Nm}{r:Root}(hn:ab m n=some r)(b:Nat):tot F (bz m n) b+F n b=tot F m b:=by
 induction m with
 |nil=>simp[ab]at hn
 |cons x m ih=>
  obtain⟨k,y⟩:=x;simp only[ab]at hn;simp only[bz];split
  ·rename_i e;subst e;rw[be];dsimp only;omega
  ·rename_i e;rw[if_neg e]at hn;rw[be,be];have:=ih hn;omega
theorem Bc(h:RX g s a w H γ F){n:Nm}{sub:List Sh}{l:List (List D)}(hn:ab s.m n=some ⟨false,[.ow sub l]⟩) :
  ∃v f,γ n=.gh v/\(∀m',TR w H γ m' (.ow sub l) f v)/\RX g (s.drop n) a w H γ F/\(∀b,tot F (s.drop n).m b+f b<=tot F s.m b):=by
 have hr:=h.mem.roots _ (ae hn)
 unfold a8 at hr;dsimp only at hr;rw[if_neg (by simp)]at hr;obtain⟨v,t,h1,h2,h3⟩:=hr;simp only[List.cons.injEq,and_true]at h2;subst h2;have htot:∀b,tot F (s.drop n).m b+F n b<=tot F s.m b:=by
  intro b;have:tot F (s.drop n).m b=tot F (bz s.m n) b:=aV
  rw[this,SS hn b];exact WN _
 refine⟨v,F n,h1,fun _=>h3,⟨yJ h.mem n,?_,h.nt,h.df,fun i=>?_⟩,htot⟩
 ·refine⟨h.fr.size,h.fr.os,h.fr.tape,h.fr.output,h.fr.block,h.fr.hold,h.fr.hnew,fun b hb=>h.fr.tt b ?_,h.fr.nz⟩;have:=htot b;omega
 ·rw[x6];exact pq cZ (fun _ _ _ h=>h) (h.t i)
theorem pE(h:RX g s a w H γ F)(n:Nm):RX g (s.drop n) a w H γ F:=by
 refine⟨yJ h.mem n,?_,h.nt,h.df,fun i=>?_⟩
 ·refine⟨h.fr.size,h.fr.os,h.fr.tape,h.fr.output,h.fr.block,h.fr.hold,h.fr.hnew,fun b hb=>h.fr.tt b ?_,h.fr.nz⟩;have e:tot F (s.drop n).m b=tot F (bz s.m n) b:=aV
  have:=eD (F:=F) (m:=s.m) (n:=n) (b:=b);omega
 ·rw[x6];exact pq cZ (fun _ _ _ h=>h) (h.t i)
theorem Nc(h:RX g s a w H γ F){p:Pl}(hok:bD s.m p){b k:Nat}(hA:plA w γ p=some ⟨b,k,none⟩){t:T}{K:Mm->Prop}(hK:o7 s.m p t K)
  {ft:Fp} {y:Value} (ht:TR w H γ s.m t ft y) (hone:l4 y=true) (hd:∀c,tot F s.m c+ft c<=1) (hl:∀c,ft c≠0->c<w.heap.size/\∀o,H c o=none)
  (hnew:∀c,ft c≠0->g.own0 c≠0\/g.w0.heap.size<=c) :
  (∃z,w.cell? ⟨b,k,none⟩=some z)/\w.frozen? ⟨b,k,none⟩=false/\∃m' F',K m'/\RX g ⟨s.t,m'⟩ a (w.setCell ⟨b,k,none⟩ y) H γ F'/\Keeps w γ s.m (w.setCell ⟨b,k,none⟩ y) γ m' /\
   (∀c,tot F' m' c=tot F s.m c+ft c):=by
 obtain⟨k1,t0,k2,k3,k4⟩:=Su h.mem hok hK;obtain⟨m1,m2,m3⟩:=JK h.mem hok k2 k3 hA ht hone k4 hd hl;have hw:∀a,a≠(⟨b,k,none⟩:Addr)->(w.setCell ⟨b,k,none⟩ y).cell? a=w.cell? a:=fun a ha=>World.cell?_setCell_other _ _ _ _ (fun e=>ha e.symm)
 have hKs:=sx h.mem hok k2 k3 (t:=t) hA hw
 obtain⟨rp,hrp,_⟩:=ap.1 hok;have hin:=(vK h.mem hok hA).1
 dsimp only at hin;have htot:∀c,tot (fun n c=>F n c+if n=p.root then ft c else 0) (aZ s.m p t) c=tot F s.m c+ft c:=by
  intro c;have:aZ s.m p t=bE s.m p.root { rp with cells:=match p.path with
    |[]=>rp.cells.set p.off t
    |st::q=>match rp.cells[p.off]? with
     |some (.ow sub l)=>rp.cells.set p.off (.ow sub (bF sub l t.toD (st::q)))
     |_=>rp.cells }:=by unfold aZ;rw[hrp];try rfl
  rw[this,cC,Ao h.mem.keys hrp]
 have htb:tot F s.m b≠0:=by have:=aW (F:=F) (ae hrp) b;dsimp only at this;omega
 refine⟨m1,m2,aZ s.m p t,_,k1,⟨m3,?_,h.nt,h.df,fun i=>bV hKs (fun _ _ _ h=>h) (h.t i)⟩,hKs,htot⟩;refine⟨by simp only[World.size_setCell];exact h.fr.size,h.fr.os,h.fr.tape,h.fr.output,fun j hj h0=>?_,h.fr.hold,h.fr.hnew,fun c hc=>?_,fun c h0=>(h.fr.nz.1 c h0).setCell,fun c o x l d h1 h2=>(h.fr.nz.2 c o x l d h1 h2).setCell⟩
 ·rw[gV]
  ·exact h.fr.block j hj h0
  ·intro e;subst e;rcases h.fr.tt j htb with h1|h1
   ·exact h1 h0
   ·omega
 ·rw[htot]at hc;by_cases hf:ft c=0
  ·exact h.fr.tt c Z1
  ·exact hnew c hf
end
theorem sX:∀(p:List Step)(i j:Nat),aI (aI p i) j=aI p (i+j):=by
 intro p;induction p with
 |nil=>intros;rfl
 |cons a b ih=>
  intro i j;cases b with
  |nil=>simp[aI,Yy]
  |cons c d=>
   have:=ih i j
   simp only[aI]at this⊢;cases hd:aI (c::d) i with
   |nil=>exact absurd hd (gz _ _ (by simp))
   |cons e f=>rw[hd]at this;simp only[aI];rw[this]
theorem Qu(p:Pl)(i j:Nat):(p.add i).add j=p.add (i+j):=by
 obtain⟨n,o,path⟩:=p;cases path with
 |nil=>simp[Pl.add,Yy]
 |cons a b=>
  simp only[Pl.add];have:=sX (a::b) i j
  cases hd:aI (a::b) i with
  |nil=>exact absurd hd (gz _ _ (by simp))
  |cons e f=>rw[hd]at this;simp only;rw[this]
theorem Cx{n:Nm}{t:T}(h:t.ment n=false):t.kill (aX n)=t:=by
 cases t with
 |pl p=>simp only[T.ment,decide_eq_false_iff_not]at h;simp[T.kill,aX,h]
 |rf p=>simp only[T.ment,decide_eq_false_iff_not]at h;simp[T.kill,aX,h]
 |_=>rfl
def r7(P:Program)(s:S)(t:TypeId)(x v:AV)(k:S->Prop):Prop:=
 match x,dx v with
 |.one (.c (.pl p)),some ts=>(ty P t).ok=true/\ts.length=(ty P t).size/\gk s.m p (ts.length - 1)/\cz s p ts k
 |_,_=>False
section
variable {P:Program} {g:G} {s:S} {a:Act} {w:World} {H:FH} {γ:Gam} {F:Nm->Fp}
theorem Gw{b k:Nat}{v z:Value}(hv:l4 v=true)(hc:w.cell? ⟨b,k,none⟩=some z)(hf:w.frozen? ⟨b,k,none⟩=false) :
  (store ⟨b,k,none⟩ v).run P w=.ok () (w.setCell ⟨b,k,none⟩ v):=by
 cases v<;>first|(simp[l4]at hv;done)|(simp[store,Sem.run,hc,hf])
theorem GC:∀(ts:List T)(vs:List Value)(s:S)(w:World)(γ:Gam)(F:Nm->Fp)(p:Pl)(b k0 i:Nat)(K:S->Prop),RX g s a w H γ F ->
  (∀j,j<ts.length->bD s.m (p.add j)/\plA w γ (p.add j)=some ⟨b,k0+i+j,none⟩)->vs.length=ts.length->Ts (TR w H γ s.m) ts (fun _=>0) vs->cz s p ts K ->
  ∃s' w' γ' F',(storeCells ⟨b,k0,none⟩ vs i).run P w=.ok () w'/\K s'/\RX g s' a w' H γ' F':=by
 intro ts;induction ts with
 |nil=>
  intro vs s w γ F p b k0 i K h _ hl _ hK;cases vs with
  |nil=>exact⟨s,w,γ,F,rfl,hK,h⟩
  |cons _ _=>simp at hl
 |cons t ts ih=>
  intro vs s w γ F p b k0 i K h hok hl hts hK;cases vs with
  |nil=>simp at hl
  |cons v vs=>
  obtain⟨v',r,f1,f2,hv,hf,ht,hrest⟩:=hts;simp only[List.cons.injEq]at hv;obtain⟨rfl,rfl⟩:=hv;have hf1:f1=fun _=>0:=by funext b;have:=hf b;dsimp only at this;omega
  have hf2:f2=fun _=>0:=by funext b;have:=hf b;dsimp only at this;omega
  subst hf1;subst hf2;obtain⟨hok0,hA0⟩:=hok 0 (by simp);rw[add_zero]at hok0 hA0;simp only[Yn]at hA0;have go:∀(s1:S)(F1:Nm->Fp)(t1:T)(ft:Fp)(K1:S->Prop),RX g s1 a w H γ F1->(∀j,j < (t::ts).length->bD s1.m (p.add j)/\plA w γ (p.add j)=some ⟨b,k0+i+j,none⟩) ->
    TR w H γ s1.m t1 ft v->l4 v=true->(∀c,tot F1 s1.m c+ft c<=1)->(∀c,ft c≠0->c<w.heap.size/\∀o,H c o=none)->(∀c,ft c≠0->g.own0 c≠0\/g.w0.heap.size<=c) ->
    Ts (TR w H γ s1.m) ts (fun _=>0) vs->o7 s1.m p t1 (fun m'=>cz ⟨s1.t,m'⟩ (p.add 1) ts K1) ->
    ∃s' w' γ' F',(storeCells ⟨b,k0,none⟩ (v::vs) i).run P w=.ok () w'/\K1 s'/\RX g s' a w' H γ' F':=by
   intro s1 F1 t1 ft K1 h1 hok1 ht1 hone hd hl1 hnew hts1 hp;obtain⟨hok10,hA10⟩:=hok1 0 (by simp);rw[add_zero]at hok10 hA10;simp only[Yn]at hA10;obtain⟨⟨z,c1⟩,c2,m',F',c3,c4,c5,_⟩:=Nc h1 hok10 hA10 hp ht1 hone hd hl1 hnew;obtain⟨s',w',γ',F'',e1,e2,e3⟩:=ih vs ⟨s1.t,m'⟩ (w.setCell ⟨b,k0+i,none⟩ v) γ F' (p.add 1) b k0 (i+1) K1 c4 (fun j hj=>by
     rw[Qu];obtain⟨q1,q2⟩:=hok1 (1+j) (by simp;omega);obtain⟨q3,q4⟩:=c5.pl _ q1;refine⟨q3,?_⟩;rw[q4,q2];congr 2;omega) (by simpa using hl) (mi c5 (fun _ _ _ h=>h) (fun _ hb=>absurd rfl hb) hts1) c3
   refine⟨s',w',γ',F'',?_,e2,e3⟩;simp only[storeCells,Sem.run_bind,cH];rw[Gw hone c1 c2,Result.andThen_ok];exact e1
  have le:=fun c=>h.mem.le1 c
  have plain:t.sure=true->t.owned=false->(∀q,t≠.rf q)->o7 s.m p t (fun m'=>cz ⟨s.t,m'⟩ (p.add 1) ts K)->∃s' w' γ' F',(storeCells ⟨b,k0,none⟩ (v::vs) i).run P w=.ok () w'/\K s'/\RX g s' a w' H γ' F':=by
   intro hs _ _ hp;exact go s F t (fun _=>0) K h hok ht (qz h.mem ht hs) (fun c=>by have:=le c;omega) (fun c hc=>absurd rfl hc) (fun c hc=>absurd rfl hc) hrest hp
  cases t with
  |rf q=>
   obtain⟨n,o,path⟩:=q;simp only[cz]at hK;cases hr:ab s.m n with
   |none=>rw[hr]at hK;exact hK.elim
   |some rr=>
    rw[hr]at hK;obtain⟨blk,cells⟩:=rr
    match blk,cells,hK,hr with
    |false,[.ow sub l],hK2,hr2=>
     obtain⟨hp,hne,hnm,hK3⟩:=hK2
     try dsimp only at hp hne hnm hK3
     subst hp;obtain⟨u,f,hg,hT,h1,htot⟩:=Bc h hr2;have huv:u=v:=by
      obtain⟨_,hrf,hpv⟩:=ht;simp only[plV,aq,hg]at hpv;split at hpv
      ·simpa using hpv
      ·simp at hpv
     subst huv;have hown:∀c,f c≠0->tot F s.m c≠0:=fun c hc=>by have:=htot c;omega
     have hone:l4 u=true:=qz h.mem (hT s.m) rfl
     refine go (s.drop n) F (.ow sub l) f K h1 (fun j hj=>?_) (hT _) hone (fun c=>by have:=htot c;have:=le c;omega) (fun c hc=>⟨h.mem.lt c (hown c hc),h.mem.nofz c (hown c hc)⟩) (fun c hc=>h.fr.tt c (hown c hc)) ?_ hK3
     ·obtain⟨q1,q2⟩:=hok j hj;have hroot:(p.add j).root=p.root:=by
       unfold Pl.add;cases p.path<;>rfl
      obtain⟨q3,q4⟩:=(cZ (w:=w) (γ:=γ) (m:=s.m) (n:=n)).pl (p.add j) (by simp[aX,hroot];exact fun e=>hne e.symm) q1;exact⟨q3,by rw[q4];exact q2⟩
     ·have:=pG (cZ (w:=w) (γ:=γ) (m:=s.m) (n:=n)) (fun _ _ _ h=>h) (fun _ hb=>absurd rfl hb) hrest
      have e:ts.map (·.kill (aX n))=ts:=by
       rw[W1 (g:=id)]
       ·simp
       ·intro t' ht';have:=(WY.1 hnm) t' ht'
        exact Cx (by simpa using this)
      rw[e]at this;exact this
  |any=>exact hK.elim
  |d x=>
   cases x with
   |any=>exact hK.elim
   |_=>exact plain rfl rfl (fun q h=>by simp at h) hK
  |nil=>exact plain rfl rfl (fun q h=>by simp at h) hK
  |ow sub l=>
   refine go s F (.ow sub l) (fun _=>0) K h hok ht (qz h.mem ht rfl) (fun c=>by have:=le c;omega) (fun c hc=>absurd rfl hc) (fun c hc=>absurd rfl hc) hrest hK
  |mp l=>obtain⟨b',_,_,_,_,_,_,_,h5⟩:=ht;exact absurd (h5 b') (by simp)
  |it c l=>obtain⟨b',_,_,_,_,_,_,_,h5⟩:=ht;exact absurd (h5 b') (by simp)
  |el row off=>exact plain rfl rfl (fun q h=>by simp at h) hK
  |pl q=>exact plain rfl rfl (fun q h=>by simp at h) hK
theorem Ma(h:RX g s a w H γ F){t:TypeId}{x v:AV}{k:S->Prop}{ux uv:Value}(hK:r7 P s t x v k)(hx:AR w H γ s.m x ux)(hv:AR w H γ s.m v uv) :
  ∃s' w' γ' F',(Instr.storeAt t ux uv).run P w=.ok () w'/\k s'/\RX g s' a w' H γ' F':=by
 unfold r7 at hK
 match x,hK with
 |.one (.c (.pl p)),hK=>
  cases hc:dx v with
  |none=>rw[hc]at hK;exact hK.elim
  |some ts=>
   rw[hc]at hK;obtain⟨hok,hlen,hroom,hK⟩:=hK;obtain⟨it,d,hit,_⟩:=eE hok;obtain⟨hz,hokp,ad,hA,rfl⟩:=hx;obtain⟨b,k0,rfl⟩:=mM h.mem hokp hA;have hcells:uv.cells.size=ts.length/\Ts (TR w H γ s.m) ts (fun _=>0) uv.cells.toList:=by
    match v,hc with
    |.one (.c t'),hc=>
     simp only[dx,WG]at hc;subst hc;have hs:t'.sure=true:=by
      cases t' with
      |any=>exact hK.elim
      |d x=>cases x<;>first|rfl|exact hK.elim
      |_=>rfl
     exact tM h.mem (x:=.one (.c t')) hv rfl (by simp[hs])
    |.one (.agg ts'),hc=>
     simp only[dx,WG]at hc;subst hc;obtain⟨cs',rfl,h1,h2⟩:=hv;exact⟨h1,h2⟩
   have hrm:∀j,j<ts.length->gk s.m p j:=by
    intro j hj;unfold gk at hroom⊢;cases hr:room s.m p with
    |none=>rw[hr]at hroom;exact hroom.elim
    |some n=>rw[hr]at hroom;dsimp only at hroom⊢;omega
   obtain⟨s',w',γ',F',e1,e2,e3⟩:=GC (P:=P) ts uv.cells.toList s w γ F p b k0 0 k h (fun j hj=>⟨vC hokp (hrm j hj),by rw[tA hA];rfl⟩) (by simpa using hcells.1) hcells.2 hK;refine⟨s',w',γ',F',?_,e2,e3⟩;simp only[Instr.storeAt,Instr.sureAddr,Sem.run_bind,Sem.run_pure,Result.andThen_ok,storeVar,bM hit];rw[if_neg (by rw[hcells.1,hlen,iv hok];simp)];exact e1
end
end Go.Am
end
