/-
  Part 6: AmIndex · AmBuild · AmMake · AmAlloc · AmWrite · AmStoreOp.
-/
import Derived.Test.YthhkhcolidkemaaGreatDoorCs5
import Derived.Laws.Tables
set_option linter.unusedSimpArgs false
set_option linter.unusedVariables false
set_option linter.unusedSectionVars false
set_option linter.unnecessarySimpa false
section
namespace Go.Am
variable{i:Nat}{k:AV->Prop}{l:List (List D)}{p:Pl}{sub:List Sh}{t:TypeId}{u v:Value}{x:AV}
section
variable {P:Program} {w:World} {H:FH} {γ:Gam} {m:Mm}
theorem OE:∀(p:List Step)(y:Value)(st:Step)(b k:Nat)(v:Value),bu w y p=some ⟨b,k,none⟩->w.cell? ⟨b,k,none⟩=some v->bu w y (p++[st])=bu w v [st]:=by
 intro p;induction p with
 |nil=>grind [bu]
 |cons s r ih=>
  intro y st b k v h hv;cases y with
  |slice a len c=>
   cases a with
   |none=>grind [bu]
   |some a=>
    obtain⟨b0,o,sp⟩:=a;cases sp with
    |some _=>grind [bu]
    |none=>
     cases r<;>grind [bu]
  |_=>grind [bu]
theorem XG:∀(p:List Step)(a sub:List Sh)(b l:List (List D))(st:Step),okO a b p->bF a b p=some (.ow sub,.li l)->okO sub l [st]->okO a b (p++[st]):=by
 intro p;induction p with
 |nil=>intro a sub b l st h;exact h.elim
 |cons s r ih=>
  intro a sub b l st h hl c;cases r<;>grind [bF,okO]
theorem ab0{F:Nm->Fp}(hm:Mem w H γ m F)(a:bU m p){st:Step}(hv:plV w γ p=some u):plA w γ { p with path:=p.path++[st] }=bu w u [st]:=by
 obtain⟨n,off,path⟩:=p;cases path with
 |nil=>
  grind [plV,plA]
 |cons s r=>
  simp only[plV]at hv;simp only[plA,ak2];cases hc:aB w (γ n) off with
  |none=>grind
  |some v=>
   rw[hc]at hv;simp only[Option.bind_some]at hv⊢;cases hw:bu w v (s::r)<;>grind [plA,p7,OE]
theorem abP(a:bU m p)(b:aT m p=some (.ow sub l))(hi:i<l.length)(h0:sub.length≠0):bU m (p.at i sub.length):=by
 obtain⟨r,h1,h2⟩:=ax.1 a;obtain⟨n,off,path⟩:=p;dsimp only at h1 h2;unfold aT at b
 grind [ax,okO,Pl.at,aR,XG]
theorem BP{F:Nm->Fp}(hm:Mem w H γ m F){i:AV}(h:gA P m t x i k)(hx:AR w H γ m x u)(hi:AR w H γ m i v) :
  ∃z d,(∀w:World,(Instr.indexAt t u v).run P w=.ok z w)/\AR w H γ m d z/\k d:=by
 match i,h with
 |.one (.c (.d (.int κ n))),h=>
 obtain⟨rfl,_⟩:=nM hi;simp only[gA]at h;cases hk:(ty P t).k with
 |sl e=>
  rw[hk]at h;obtain⟨_,d,_,hd,A,_⟩:=aS hk (by simp);obtain rfl:=oX A;have hel:P.elem t=e:=by simp[Program.elem,hd]
  match x,h with
  |.one (.c (.d (.li l))),h=>
   obtain⟨g,h0,h⟩:=h;obtain⟨it,_,hit,_⟩:=jx g;have hn:n.toNat<l.length:=by
    grind
   have h:∀row,l[n.toNat]? = some row->row.length=(ty P e).size/\k (.one (.c (.el row 0))):=fun row hr=>by grind
   have r:l[n.toNat]? = some l[n.toNat]:=ajA hn
   obtain⟨C,hk⟩:=h _ r;obtain⟨a,c,rfl,hc,hb,s⟩:=gq hx.2;rcases s with s|⟨b,o,e',q,rfl,B⟩
   ·grind
   have J:l.getD n.toNat []=l[n.toNat]:=by grind
   obtain⟨g1,g2⟩:=B n.toNat hn;rw[J]at g1 g2;have G:e'=P.cellsOf e:=by grind [mn]
   refine⟨.pointer (some ⟨b,o+n.toNat*P.cellsOf e,none⟩),.one (.c (.el l[n.toNat] 0)),?_,⟨fun _=>rfl,b,o+n.toNat*P.cellsOf e,q,by simp,fun j hj=>?_⟩,hk⟩
   all_goals grind [run_indexAt_slice,cq,Result.andThen_ok,eH]
  |.one (.c (.rf p)),h=>
   obtain⟨g,E,h⟩:=h;obtain⟨it,_,hit,_⟩:=jx g;obtain⟨tt,h1,h2,h3,h4,f,h5⟩:=Ym hm hx h;cases tt with
   |ow sub l=>
    obtain⟨⟨O,q2⟩,M,I⟩:=h1;have hn:n.toNat<l.length:=by omega
    obtain⟨j,h5⟩:=h5;cases j with
    |zero=>simp[OD]at h5
    |succ j=>
     obtain⟨a,c,_,_,rfl,_,_,_,_,_,s⟩:=mR h5;rcases s with⟨hl,_⟩|⟨b,cs,tt,fz,rfl,_⟩
     ·omega
     refine⟨.pointer (some ⟨b,0+n.toNat*P.cellsOf e,none⟩),.one (.c (.pl (p.at n.toNat (ty P e).size))),?_,⟨fun _=>rfl,?_,⟨b,0+n.toNat*P.cellsOf e,none⟩,?_,rfl⟩,I⟩
     ·grind [run_indexAt_slice,cq,Result.andThen_ok,eH]
     ·grind [abP]
     rw[Pl.at,ab0 hm h3 h4,<- mn g];rfl
   |_=>grind
 |ar N e=>
  rw[hk]at h;obtain⟨_,d,_,hd,A,_⟩:=aS hk (by simp);obtain rfl:=ad4 A;have hel:P.elem t=e:=by simp[Program.elem,hd]
  have L:P.arrayLen t=N:=by simp[Program.arrayLen,hd]
  match x,h with
  |.one (.c (.pl p)),h=>
   obtain⟨g,⟨h0,h1⟩,hr,h⟩:=h;obtain⟨it,_,hit,_⟩:=jx g;obtain⟨K,y,a,D,rfl⟩:=hx;obtain⟨b,o,rfl⟩:=p7 hm y D;refine⟨.pointer (some ⟨b,o+n.toNat*P.cellsOf e,none⟩),.one (.c (.pl (p.add (n.toNat*(ty P e).size)))),?_,⟨fun _=>rfl,AE y hr,_,yf D,by rw[mn g]⟩,h⟩
   grind [run_indexAt_array,cq,Result.andThen_ok,eH]
  |.one (.c (.el row o)),h=>
   obtain⟨g,⟨h0,h1⟩,h⟩:=h;obtain⟨it,_,hit,_⟩:=jx g;obtain⟨K,b,o',q,rfl,r⟩:=hx;refine⟨.pointer (some ⟨b,o'+o+n.toNat*P.cellsOf e,none⟩),.one (.c (.el row (o+n.toNat*(ty P e).size))),?_,⟨fun _=>rfl,b,o',q,by grind [mn],r⟩,h⟩
   grind [run_indexAt_array,cq,Result.andThen_ok,eH]
 |_=>grind
theorem Fe(h:nv x k)(hx:AR w H γ m x u):(∃a,u=.pointer (some a))/\k x:=by
 match x,h with
 |.one (.c (.pl p)),h=>obtain⟨_,_,a,_,rfl⟩:=hx;exact⟨⟨a,rfl⟩,h⟩
 |.one (.c (.el row o)),h=>obtain⟨_,b,o',q,rfl,_⟩:=hx;exact⟨⟨_,rfl⟩,h⟩
end
theorem TO{ts:List T}{j:Nat}{t:T}(h:(uU p ts)[j]? = some t):∃t',ts[j]? = some t'/\t=Cc (p.add j) t':=by
 grind [uU]
theorem uV{ts:List T}:(uU p ts).length=ts.length:=by simp[uU]
def Jp:AV->Bool
 |.one (.c (.el _ _))=>true
 |_=>false
variable{y:Value}
section
variable {P:Program} {w:World} {H:FH} {γ:Gam} {m:Mm}
theorem P9{t:T}{f:Fp}(h:TR w H γ m t f y):XI t:=by
 cases t with
 |d x=>exact NP h.2
 |_=>trivial
theorem Kr:∀{ts:List T},(∀(i:Nat)(t:T),ts[i]? = some t->XI t)->Qa ts
 |[],_=>trivial
 |t::ts,h=>⟨h 0 t rfl,Kr (fun i t' a=>h (i+1) t' (by grind))⟩
theorem Qb:∀{ds:List D},(∀(i:Nat)(x:D),ds[i]? = some x->okv x)->okvs ds
 |[],_=>trivial
 |x::ds,h=>⟨h 0 x rfl,Qb (fun i x' hx=>h (i+1) x' (by grind))⟩
theorem lQ{p:Nat->Value->Prop}:∀n,(∀j,j<n->∃v,p j v)->∃l:List Value,l.length=n/\∀(j:Nat)(v:Value),l[j]? = some v->p j v
 |0,_=>⟨[],rfl,fun j v h=>by simp at h⟩
 |n+1,h=>by
  obtain⟨l,h1,h2⟩:=lQ n (fun j hj=>h j kQ1);obtain⟨v,hv⟩:=h n kQ1;refine⟨l++[v],by simp[h1],fun j a hj=>?_⟩
  grind
theorem Aq{F:Nm->Fp}(hm:Mem w H γ m F)(h:uu P m t x k)(hx:AR w H γ m x u) :
  ∃z d,∃B:Nat->Prop,(Jp x=true->∀b,B b->∃o y,H b o=some y)/\(∀w2:World,(∀b,B b->w2.heap[b]? = w.heap[b]?)->(Instr.loadAt t u).run P w2=.ok z w2)/\AR w H γ m d z/\k d:=by
 obtain⟨G,h⟩:=h;obtain⟨it,d,hit,hd,J,ac,_⟩:=jx G;have R:(ty P t).size=P.cellsOf t:=mn G
 match x,h with
 |.one (.c (.el row o)),h=>
  obtain⟨hz,b,o',q,rfl,r⟩:=hx;have cell:∀j,j<row.length->∃y,w.cell? ⟨b,o'+j,none⟩=some y/\FD H q (row.getD j default) y:=fun j hj=>by
   obtain⟨y,h1,h2⟩:=r j hj;exact⟨y,hm.agree _ _ _ h1,h2⟩
  have K:∀j,j<row.length->b=b/\∃o y,H b o=some y:=fun j hj=>by
   obtain⟨y,h1,h2⟩:=r j hj;grind
  have I:Jp (.one (.c (.el row o)))=true->∀c,(c=b/\∃o y,H b o=some y)->∃o y,H c o=some y:=fun _ c⟨e,h⟩=>by grind
  dsimp only at h;split at h
  ·rename_i E;rw[E]at J;obtain⟨hl,h⟩:=h;obtain⟨us,S,s⟩:=lQ (p:=fun j v=>w.cell? ⟨b,o'+o+j,none⟩=some v/\FD H q (row.getD (o+j) default) v) (ty P t).size (fun j hj=>by
    grind)
   have Y:((row.drop o).take (ty P t).size).length=(ty P t).size:=by grind
   have C:∀(j:Nat)(x:D),((row.drop o).take (ty P t).size)[j]? = some x->∃v,us[j]? = some v/\FDx H x v:=by
    intro j x hj;have N:j < (ty P t).size:=by grind
    rw[List.getElem?_take_of_lt N,ak3]at hj;have V:us[j]? = some (us[j]' kQ1):=ajA kQ1
    refine⟨_,V,q,?_⟩
    grind
   refine⟨.agg us.toArray,.one (.agg (((row.drop o).take (ty P t).size).map T.d)),fun c=>c=b/\∃o y,H b o=some y,I,?_,⟨us.toArray,rfl,by grind,?_⟩,h (Qb (fun i x hx=>?_))⟩
   ·intro w2 g;exact nE hd (by grind) hit kQ1 (fun j v hv=>(dG (g b (K (o+j) (by grind)))).trans (s j v hv).1)
   ·refine tS (by grind) (fun i t' L=>?_);simp only[ajD,ajL]at L;obtain⟨x,hx,rfl⟩:=L;obtain⟨v,ab,U⟩:=C i x hx;exact⟨v,by omega,fun _=>rfl,U⟩
   grind [NP]
  rename_i E;have A:tU d=false:=by grind
  cases hr:row[o]? with
  |none=>grind
  |some x=>
   rw[hr]at h;obtain⟨y,h1,h2⟩:=cell o (bT hr);rw[List.getD,hr]at h2;exact⟨y,sc x,fun c=>c=b/\∃o y,H b o=some y,I,fun w2 g=>nF hd A ((dG (g b (K o (bT hr)))).trans h1),⟨fun _=>rfl,q,h2⟩,h (NP ⟨q,h2⟩)⟩
 |.one (.c (.pl p)),h=>
  obtain⟨hz,l,a,E,rfl⟩:=hx;obtain⟨b,o,rfl⟩:=p7 hm l E;dsimp only at h;split at h
  ·rename_i n;rw[n]at J;obtain⟨ts,X,W,M⟩:=L2 hm l h;obtain⟨us,S,s⟩:=lQ (p:=fun j v=>w.cell? ⟨b,o+j,none⟩=some v/\∀t',ts[j]? = some t'->TR w H γ m (Cc (p.add j) t') (fun _=>0) v/\∃f,TR w H γ m t' f v) (ty P t).size (fun j hj=>by
    have Q:ts[j]? = some (ts[j]' kQ1):=ajA kQ1
    obtain⟨g1,g2⟩:=M j _ Q;obtain⟨v,v1,O,v3,v4⟩:=rj hm g2 g1;refine⟨v,O _ (yf E),fun t' aa=>?_⟩
    grind)
   refine⟨.agg us.toArray,.one (.agg (uU p ts)),fun c=>c=b,fun h=>(by simp[Jp]at h),?_,⟨us.toArray,rfl,by grind [uV],?_⟩,W (Kr (fun i t' L=>?_))⟩
   ·intro w2 g;exact nE hd (by grind) hit kQ1 (fun j v hv=>(dG (g b rfl)).trans (s j v hv).1)
   ·refine tS (by grind [uV]) (fun i t' L=>?_);obtain⟨t2,h2,rfl⟩:=TO L;have hi:i<us.length:=by grind
    simp_all
   have hi:i<us.length:=by grind
   have Z:us[i]? = some us[i]:=ajA hi
   grind [P9]
  rename_i n;have A:tU d=false:=by grind
  obtain⟨ts,X,W,M⟩:=L2 hm l h
  match ts,X with
  |[t'],_=>
   obtain⟨g1,g2⟩:=M 0 t' rfl;rw[add_zero]at g1 g2;obtain⟨v,v1,O,v3,f,v4⟩:=rj hm g2 g1;exact⟨v,.one (.c (Cc p t')),fun c=>c=b,fun h=>(by simp[Jp]at h),fun w2 g=>nF hd A ((dG (g b rfl)).trans (O _ E)),v3,W (P9 v4)⟩
theorem Sq(h:vS P t x i k)(hx:AR w H γ m x u) :
  ∃z d,(∀w:World,(Instr.field t u i).run P w=.ok z w)/\AR w H γ m d z/\k d:=by
 unfold vS at h;cases hk:(ty P t).k with
 |st fs=>
  rw[hk]at h
  match x,h with
  |.one (.agg ts),h=>
   obtain⟨_,d,_,hd,p,_⟩:=aS hk (by simp);obtain⟨b,rfl,rfl⟩:=ad5 p;obtain⟨us,rfl,y,n⟩:=hx;dsimp only at h;cases hf:(b.toList.map fun f=>(f.offset,P.cellsOf f.type,Vx P f.type))[i]? with
   |none=>grind
   |some q=>
    obtain⟨off,size,g⟩:=q;rw[hf]at h;simp only[ajD,ajL,Prod.mk.injEq]at hf;obtain⟨f,r,rfl,rfl,e⟩:=hf;have l:b[i]? = some f:=by grind
    have a:∀w:World,(Instr.field t (.agg us) i).run P w=(part f.type us f.offset).run P w:=by
     intro w;simp only[Instr.field,Sem.run_bind,run_underlying hd,Result.andThen_ok,l];rfl
    simp only[a];have hus:us=us.toList.toArray:=by simp
    cases g with
    |none=>grind
    |some g=>
    simp only[Vx,ajL]at e;obtain⟨s,h1,h2⟩:=e;cases g with
    |false=>
     dsimp only at h;cases o:ts[f.offset]? with
     |none=>grind
     |some t'=>
      rw[o]at h;obtain⟨v,hv,j⟩:=Ef n o;refine⟨v,.one (.c t'),?_,j,h⟩;intro w;rw[hus];grind [i9]
    |true=>
     obtain⟨hl,h⟩:=h;obtain⟨it,h3⟩:=EL h1;refine⟨.agg ((us.toList.drop f.offset).take (P.cellsOf f.type)).toArray,.one (.agg ((ts.drop f.offset).take (P.cellsOf f.type))),?_,⟨_,rfl,?_,?_⟩,h⟩
     ·intro w;rw[hus];grind [mH]
     all_goals grind [tS,Ef]
 |_=>grind
end
def T.sure:T->Bool
 |.any=>false
 |.d .any=>false
 |_=>true
def eT:AV->Option (List T)
 |.one (.c t)=>some [t]
 |.one (.agg ts)=>some ts
 |_=>none
variable{α:Type}
def overw(ts:List α)(off:Nat)(cs:List α):List α:=ts.take off++cs++ts.drop (off+cs.length)
def jP(pl:Nat->Option (Nat×Nat)):List T->List (Nat×AV)->Option (List T)
 |ts,[]=>some ts
 |ts,(i,x)::r=>match pl i,eT x with
  |some (off,size),some cs=>if cs.length=size/\off+cs.length<=ts.length/\cs.all T.sure=true then jP pl (overw ts off cs) r else none
  |_,_=>none
def zst(P:Program)(t:TypeId):Option (List Value×List (Nat×Nat)):=
 match P.info? t,P.underlying t with
 |some it,some (.struct b)=>match it.zero,b.toList.mapM (fun f=>(P.info? f.type).map fun i=>(f.offset,i.size))with
  |some z,some a=>if z.cells.all okT=true then some (z.cells.toList,a)else none
  |_,_=>none
 |some it,some (.array N e)=>match it.zero,P.info? e with
  |some z,some c=>if z.cells.all okT=true then some (z.cells.toList,(List.range N).map fun i=>(i*c.size,c.size))else none
  |_,_=>none
 |_,_=>none
theorem C8{f g:Nat->Option (Nat×Nat)}(a:∀i q,f i=some q->g i=some q):∀{ps:List (Nat×Value)}{cs r:Array Value},Instr.fill f cs ps=some r->Instr.fill g cs ps=some r
 |[],_,_,h=>h
 |(i,v)::ps,cs,r,h=>by
  simp only[Instr.fill]at h⊢;cases hf:f i with
  |none=>grind
  |some q=>
   rw[hf]at h;rw[a _ _ hf];dsimp only at h⊢;split at h
   ·cases h
   rename_i hc;rw[if_neg hc];exact C8 a h
def sw(P:Program)(t:TypeId)(b:List (Nat×AV))(k:AV->Prop):Prop:=
 match zst P t with
 |some (zs,a)=>match jP (a[·]?) (zs.map rH) b with
  |some ts=>k (.one (.agg ts))
  |none=>False
 |none=>False
theorem Da:∀(cs:List Value)(j:Nat)(off:Nat)(b:Array Value)(i:Nat),
  ((cs.zipIdx j).foldl (fun a(x:Value×Nat)=>a.setIfInBounds (off+x.2) x.1) b)[i]? =
   if off+j<=i/\i<off+j+cs.length/\i<b.size then cs[i-off-j]? else b[i]?
 |[],j,off,b,i=>by
  grind [List.zipIdx_nil]
 |c::cs,j,off,b,i=>by
  rw[List.zipIdx_cons,alI,Da cs (j+1) off _ i]
  grind
theorem zS:∀(cs:List Value)(j:Nat)(off:Nat)(b:Array Value),
  ((cs.zipIdx j).foldl (fun a(x:Value×Nat)=>a.setIfInBounds (off+x.2) x.1) b).size=b.size
 |[],j,off,b=>rfl
 |c::cs,j,off,b=>by
  rw[List.zipIdx_cons,alI,zS cs (j+1) off _];simp
variable{cs ts:List α}
section
variable {P:Program} {w:World} {H:FH} {γ:Gam} {m:Mm}
theorem vd{F:Nm->Fp}(hm:Mem w H γ m F){t:T}{f:Fp}(h:TR w H γ m t f y)(hs:t.sure=true):oY y=true:=by
 have ow:∀{k:Nat}{sub:List Sh}{l:List (List D)}{g:Fp},OD w H k (.ow sub) (.li l) g y->oY y=true:=by
  intro k sub l g h;cases k with
  |zero=>simp[OD]at h
  |succ k=>obtain⟨a,c,_,_,rfl,_⟩:=mR h;rfl
 cases t with
 |d x=>
  cases x with
  |int k n=>obtain⟨rfl,_⟩:=fC h.2;rfl
  |bool b=>obtain rfl:=ja h.2;rfl
  |str l=>obtain⟨rfl,_⟩:=gZ h.2;rfl
  |li l=>obtain⟨a,c,rfl,_⟩:=gq h.2;rfl
  |mp l=>obtain⟨b,rfl⟩:=LA h.2;rfl
  |fn f l=>obtain⟨b,rfl⟩:=UH h.2;rfl
  |v z=>obtain⟨_,q,h⟩:=h;cases q<;>(obtain⟨rfl,h⟩:=h;exact h)
  |any=>grind [T.sure]
 |nil=>obtain⟨_,rfl⟩:=h;rfl
 |ow sub l=>obtain⟨k,h⟩:=h;grind
 |mp l=>obtain⟨b,es,ck,_,rfl,_⟩:=h;rfl
 |it cur rest=>obtain⟨r,m,a,s,c,rfl,_⟩:=h;rfl
 |el row off=>obtain⟨_,b,o,q,rfl,_⟩:=h;rfl
 |pl p=>obtain⟨_,_,a,_,rfl⟩:=h;rfl
 |rf p=>
  obtain⟨_,hr,hv⟩:=h;have j:=fj hr
  have i:∃x,aT m p=some x/\((∃s l,x=.ow s l)\/(∃l,x=.mp l)\/∃c l,x=.it c l):=by
   obtain⟨r,u,hc⟩:=bV.1 hr;unfold bz at hc
   grind [aT]
  obtain⟨x,i,hx⟩:=i;obtain⟨v,e,_,_,f',v4⟩:=rj hm j i;rw[hv]at e;simp only[ai8]at e;subst e;rcases hx with⟨s,l,rfl⟩|⟨l,rfl⟩|⟨c,l,rfl⟩
  ·obtain⟨k,v4⟩:=v4
   grind
  ·obtain⟨b,es,ck,_,rfl,_⟩:=v4;rfl
  obtain⟨r,m,a,s,c,rfl,_⟩:=v4;rfl
 |any=>grind [T.sure]
theorem Sa(h:oY y=true):y.cells=#[y]:=by
 cases y<;>first|rfl|grind [oY]
theorem yq{F:Nm->Fp}(hm:Mem w H γ m F){cs:List T}(hx:AR w H γ m x v)(hc:eT x=some cs)(hs:cs.all T.sure=true) :
  v.cells.size=cs.length/\Ts (TR w H γ m) cs (fun _=>0) v.cells.toList:=by
 match x,hc with
 |.one (.c t),hc=>
  simp only[eT,ai8]at hc;subst hc;have a:oY v=true:=vd hm hx (by grind)
  rw[Sa a];exact⟨rfl,v,[],fun _=>0,fun _=>0,rfl,fun _=>rfl,hx,fun _=>rfl⟩
 |.one (.agg ts),hc=>
  simp only[eT,ai8]at hc;subst hc;obtain⟨b,rfl,h1,h2⟩:=hx;exact⟨h1,h2⟩
def PR(w:World)(H:FH)(γ:Gam)(m:Mm):List (Nat×AV)->List (Nat×Value)->Prop
 |[],[]=>True
 |(i,x)::xs,(j,v)::vs=>i=j/\AR w H γ m x v/\PR w H γ m xs vs
 |_,_=>False
theorem Tu{off:Nat}(h:off+cs.length<=ts.length):(overw ts off cs)[i]? = if off<=i/\i<off+cs.length then cs[i-off]? else ts[i]? := by
 unfold overw;have hl:(ts.take off).length=off:=by grind
 grind
theorem wm{off:Nat}(h:off+cs.length<=ts.length):(overw ts off cs).length=ts.length:=by
 grind [overw]
theorem yb{F:Nm->Fp}(hm:Mem w H γ m F){pl:Nat->Option (Nat×Nat)}:∀(b:List (Nat×AV))(vs:List (Nat×Value))(ts:List T)(us:Array Value)(ts':List T),
  PR w H γ m b vs->us.size=ts.length->Ts (TR w H γ m) ts (fun _=>0) us.toList->jP pl ts b=some ts' ->
  ∃g,Instr.fill pl us vs=some g/\g.size=ts'.length/\Ts (TR w H γ m) ts' (fun _=>0) g.toList:=by
 intro b;induction b with
 |nil=>
  intro vs ts us ts' hp hl n hf;cases vs with
  |cons _ _=>exact hp.elim
  |nil=>
   simp only[jP,ai8]at hf;subst hf;exact⟨us,rfl,hl,n⟩
 |cons z b ih=>
  obtain⟨i,x⟩:=z;intro vs ts us ts' hp hl n hf;cases vs with
  |nil=>exact hp.elim
  |cons z vs=>
   obtain⟨j,v⟩:=z;obtain⟨rfl,hx,hp⟩:=hp;simp only[jP]at hf;cases k:pl i with
   |none=>grind
   |some q=>
    obtain⟨off,size⟩:=q;rw[k]at hf;cases h:eT x with
    |none=>grind
    |some cs=>
     rw[h]at hf;dsimp only at hf;split at hf
     ·rename_i f;obtain⟨h1,h2,h3⟩:=f;obtain⟨r,u⟩:=yq hm hx h h3;have d:v.cells.zipIdx.foldl (fun cs(c,j)=>cs.setIfInBounds (off+j) c) us=(v.cells.toList.zipIdx.foldl (fun a(x:Value×Nat)=>a.setIfInBounds (off+x.2) x.1) us):=by
       grind [Array.toList_zipIdx]
      have hget:=Da v.cells.toList 0 off us
      have e:=zS v.cells.toList 0 off us
      generalize hus:v.cells.toList.zipIdx.foldl (fun a(x:Value×Nat)=>a.setIfInBounds (off+x.2) x.1) us=l at d hget e;have p:v.cells.toList.length=cs.length:=by omega
      have o:Ts (TR w H γ m) (overw ts off cs) (fun _=>0) l.toList:=by
       refine tS (by grind [wm]) (fun i t s=>?_)
       grind [Tu,Ef]
      grind [wm,Instr.fill]
     grind
end
variable{w':World}
theorem Fr.trans{w0 w:World}{H0 H H':FH}{own0 tt tt':Fp}(h:Fr w0 H0 own0 w H tt)(k:Fr w H tt w' H' tt'):Fr w0 H0 own0 w' H' tt':=by
 refine⟨akQ h.size k.size,k.os.trans h.os,k.tape.trans h.tape,k.output.trans h.output,fun i hi h0=>?_,fun b o y hy=>k.hold _ _ _ (h.hold _ _ _ hy),fun b o h1 h2=>?_,fun b hb=>?_,fun b hb=>k.nz.1 b (h.nz.1 b hb),fun b o x l c h1 h2=>?_⟩
 ·have:tt i=0:=by
   rcases aj5 (tt i)with h'|h'
   ·exact h'
   rcases h.tt i kQ1 with h1|h1<;>omega
  rw[k.block i (by have:=h.size;omega) this];grind [block]
 ·by_cases hH:H b o=none
  ·rcases k.hnew b o h1 hH with h3|h3
   ·exact h.tt b h3
   right;have:=h.size;omega
  exact h.hnew b o hH h2
 ·rcases k.tt b hb with h1|h1
  ·exact h.tt b h1
  right;have:=h.size;omega
 cases hH:H b o with
 |none=>grind [nz]
 |some y=>
  have:=(k.hold b o y hH).symm.trans h1
  grind [nz,nz]
theorem Fr.refl'{w:World}{H:FH}{tt tt':Fp}(h1:w'.heap=w.heap)(h2:w'.os=w.os)(h3:w'.tape=w.tape)(h4:w'.output=w.output)(h5:∀b,tt' b≠0->tt b≠0):Fr w H tt w' H tt':=
 ⟨by grind,h2,h3,h4,fun _ _ _=>by rw[h1],fun _ _ _ h=>h,fun b o h1 h2=>absurd h2 h1,fun b hb=>.inl (h5 b hb),fun b hb=>hb.of_block (by rw[h1]),fun b o x l c h1 h2=>by grind⟩
variable{n:Nm}
section
variable {P:Program} {g:G} {s:S} {a:Act} {w:World} {H:FH} {γ:Gam} {F:Nm->Fp}
theorem jS(h:RX g s a w H γ F){H':FH}{γ':Gam}{m':Mm}{F':Nm->Fp}(hm:Mem w' H' γ' m' F')(hf:Fr w H (tot F s.m) w' H' (tot F' m')){t':List (Nat×AV)}
  (d:∀i,AR w' H' γ' m' (aV t' i) (g.tv a i)) (c:∀j,γ' (.out j)=γ (.out j)):RX g ⟨t',m'⟩ a w' H' γ' F':=⟨hm,h.fr.trans hf,h.nt,⟨h.df.1,fun j b e=>(c j).trans (h.df.2.1 j b e),h.df.2.2⟩,d⟩
theorem Qz{γ:Gam}{x:RC}(hno:n.isOut=false)(j:Nat):upd γ n x (.out j)=γ (.out j):=by
 grind [upd,Nm.isOut]
theorem cP{w:World}{o:Obj}{k:Nat}(h:k<w.heap.size):(w.alloc o).heap[k]? = w.heap[k]? := by
 show(w.heap.push o)[k]? = _
 grind
theorem bw{w:World}{o:Obj}:(w.alloc o).heap[w.heap.size]? = some o:=by
 show(w.heap.push o)[w.heap.size]? = _
 grind
theorem qA{m:Mm}(hm:Mem w H γ m F)(cs:Array Value)(ty:TypeId)(fz:Bool) :
  let w':=w.alloc (.cells cs ty)
  let H':FH:=fun b o=>if fz=true/\b=w.heap.size then cs[o]?.map HV.c else H b o
  Mem w' H' γ m F/\Fr w H (tot F m) w' H' (tot F m)/\Keeps w γ m w' γ m/\(∀b o y,H b o=some y->H' b o=some y):=by
 intro w' H';have a:∀b o y,H b o=some y->b<w.heap.size:=fun b o y h=>(hm.agree b o y h).lt
 have d:∀b o y,H b o=some y->H' b o=some y:=by
  grind
 have hold:∀k,k<w.heap.size->w'.heap[k]? = w.heap[k]? := fun k hk=>cP hk
 have f:=fa (w':=w') hm (fun b hb=>hold b (hm.lt b hb))
 have e:∀x∈m,∀b,F x.1 b≠0->b<w.heap.size:=fun x hx b hb=>hm.lt b (by grind [bC])
 refine⟨⟨?_,?_,hm.keys,hm.le1,?_,?_⟩,⟨by simp[w'],rfl,rfl,rfl,fun k hk _=>hold k hk,d,?_,fun b hb=>.inl hb,fun b hb=>hb.of_block (hold b hb.lt),fun b o x l c h1 h2=>?_⟩,f,d⟩
 ·intro b o y hy;simp only[H']at hy;split at hy
  ·rename_i hc;obtain⟨z,g,rfl⟩:=ajL.1 hy;rw[hc.2];show w'.cell? ⟨w.heap.size,o,none⟩=some z
   grind [World.cell?,bw]
  exact(hm.agree b o y hy).frame (hold b (a b o y hy))
 ·intro x hx;exact aZ f d rfl (fun b hb=>hold b (e x hx b hb)) (hm.roots x hx)
 ·intro b hb;have:=hm.lt b hb;grind
 ·intro b hb o;have:=hm.lt b hb
  simp only[H'];rw[if_neg kQ1];exact hm.nofz b hb o
 ·grind
 simp only[H']at h1;split at h1
 ·rename_i hc;rw[hc.2];exact⟨cs,ty,bw⟩
 grind
theorem Vc(h:RX g s a w H γ F){n:Nm}(hno:n.isOut=false)(hn:af s.m n=none){ts:List T}{cs:Array Value}(hl:cs.size=ts.length)(e:Ts (TR w H γ s.m) ts (fun _=>0) cs.toList)(ty:TypeId)(d:∀t,n.tyd=some t->ty=t) :
  ∃γ' F',RX g ⟨s.t,(n,⟨true,ts⟩)::s.m⟩ a (w.alloc (.cells cs ty)) H γ' F'/\γ' n=.blk w.heap.size:=by
 obtain⟨hm,hf,k,p⟩:=qA h.mem cs ty false;simp only[ajC,false_and,if_false]at hm hf k p;have c:=mQ (w:=w.alloc (.cells cs ty)) (γ:=γ) (rc:=.blk w.heap.size) (r:=⟨true,ts⟩) hn
 have u:tot F s.m w.heap.size=0:=by
  rcases aj5 (tot F s.m w.heap.size)with h'|h'
  ·exact h'
  have:=h.mem.lt w.heap.size kQ1;omega
 have l:∀o,H w.heap.size o=none:=by
  intro o;cases hc:H w.heap.size o with
  |none=>rfl
  |some y=>have:=(h.mem.agree _ _ _ hc).lt;omega
 obtain⟨j,q⟩:=xS hm (n:=n) (rc:=.blk w.heap.size) (r:=⟨true,ts⟩) (f:=fun b=>0+if b=w.heap.size then 1 else 0) hn (by
   unfold bv;rw[if_pos rfl];refine⟨w.heap.size,cs,ty,(0,0),fun _=>0,dT,bw,⟨rfl,d⟩,hl,?_,fun _=>rfl⟩;exact pi c (fun _ _ _ h=>h) (fun _ hb=>absurd rfl hb) (pi k (fun _ _ _ h=>h) (fun _ hb=>absurd rfl hb) e))
  (fun b=>by
   grind [Mem.le1])
  (fun b hb=>by
   simp_all)
 refine⟨_,_,jS h j ?_ (fun i=>dp c (fun _ _ _ h=>h) (dp k (fun _ _ _ h=>h) (h.t i))) (Qz hno),dT⟩;refine⟨hf.size,hf.os,hf.tape,hf.output,hf.block,hf.hold,hf.hnew,fun b hb=>?_,hf.nz⟩
 grind
theorem dN(h:RX g s a w H γ F){n:Nm}(hno:n.isOut=false)(hn:af s.m n=none){t:T}{f:Fp}(l:TR w H γ s.m t f v)(hd:∀b,tot F s.m b+f b<=1)(hl:∀b,f b≠0->b<w.heap.size/\∀o,H b o=none)
  (hnew:∀b,f b≠0->g.own0 b≠0\/g.w0.heap.size<=b) :
  ∃γ' F',RX g ⟨s.t,(n,⟨false,[t]⟩)::s.m⟩ a w H γ' F'/\γ' n=.gh v:=by
 have c:=mQ (w:=w) (γ:=γ) (rc:=.gh v) (r:=⟨false,[t]⟩) hn
 obtain⟨d,k⟩:=xS h.mem (n:=n) (rc:=.gh v) (r:=⟨false,[t]⟩) (f:=f) hn (by
   unfold bv;rw[if_neg (by simp)];exact⟨v,t,dT,rfl,jc c (fun _ _ _ h=>h) (fun _ _=>rfl) l⟩) hd hl
 refine⟨_,_,⟨d,?_,h.nt,⟨h.df.1,fun j b e=>(Qz hno j).trans (h.df.2.1 j b e),h.df.2.2⟩,fun i=>dp c (fun _ _ _ h=>h) (h.t i)⟩,dT⟩;refine⟨h.fr.size,h.fr.os,h.fr.tape,h.fr.output,h.fr.block,h.fr.hold,h.fr.hnew,fun b hb=>?_,h.fr.nz⟩;rw[k]at hb;by_cases hf:f b=0
 ·exact h.fr.tt b kQ1
 grind
end
def iv(sub:List Sh)(l:List (List D))(t:T):List Step->(List (List D)->Prop)->Prop
 |[],_=>False
 |[st],k=>match l[st.idx]? with
  |some x=>match sub[st.off]?,x[st.off]? with
   |some .fr,some _=>pH .fr t/\k (l.set st.idx (x.set st.off t.toD))
   |some (.ow s),some .any=>pH (.ow s) t/\k (l.set st.idx (x.set st.off t.toD))
   |_,_=>False
  |none=>False
 |st::b::r,k=>match l[st.idx]? with
  |some x=>match sub[st.off]?,x[st.off]? with
   |some (.ow s),some (.li l')=>iv s l' t (b::r) fun a=>k (l.set st.idx (x.set st.off (.li a)))
   |_,_=>False
  |none=>False
def sX(m:Mm)(p:Pl)(t:T)(k:Mm->Prop):Prop:=
 match af m p.root with
 |none=>False
 |some r=>match p.path,r.cells[p.off]? with
  |[],some t0=>t0.owned=false/\k (cv m p.root { r with cells:=r.cells.set p.off t })
  |st::q,some (.ow sub l)=>iv sub l t (st::q) fun l'=>k (cv m p.root { r with cells:=r.cells.set p.off (.ow sub l') })
  |_,_=>False
def T.ment(n:Nm):T->Bool
 |.pl p=>decide (p.root=n)
 |.rf p=>decide (p.root=n)
 |_=>false
def S.drop(s:S)(n:Nm):S:=⟨nj (bq n) s.t,aJ (bq n) (bP s.m n)⟩
def dD(s:S)(p:Pl):List T->(S->Prop)->Prop
 |[],k=>k s
 |.rf q::ts,k=>match af s.m q.root with
  |some ⟨false,[.ow sub l]⟩=>q.path=[]/\q.root≠p.root/\(ts.all fun t=>!t.ment q.root)=true/\sX (s.drop q.root).m p (.ow sub l) fun m'=>dD ⟨(s.drop q.root).t,m'⟩ (p.add 1) ts k
  |_=>False
 |.any::_,_=>False
 |.d .any::_,_=>False
 |t::ts,k=>sX s.m p t fun m'=>dD ⟨s.t,m'⟩ (p.add 1) ts k
theorem Yt:∀(p:List Step)(sub:List Sh)(l:List (List D))(t:T)(k:List (List D)->Prop),(∀N,wfO N sub l)->okO sub l p->iv sub l t p k ->
  k (bX sub l t.toD p)/\∃s x,bF sub l p=some (s,x)/\pH s t/\∀s' l',(s,x)≠(.ow s',.li l'):=by
 intro p;induction p with
 |nil=>intro sub l t k _ h;exact h.elim
 |cons st r ih=>
  intro sub l t k e b a;cases r with
  |nil=>
   obtain⟨h1,h2,h3⟩:=b;have hx:l[st.idx]? = some l[st.idx]:=ajA h1
   have g:l.getD st.idx []=l[st.idx]:=by grind
   unfold iv at a;rw[hx]at a;dsimp only at a;cases hs:sub[st.off]? with
   |none=>grind
   |some s=>
    rw[hs]at a;cases hd:(l[st.idx])[st.off]? with
    |none=>grind
    |some d=>
     rw[hd]at a;have c:(l.getD st.idx []).getD st.off default=d:=by grind
     cases s with
     |fr=>
      refine⟨by grind [bX],.fr,d,by grind [bF],a.1,fun s' l' h=>by simp at h⟩
     |ow s=>
      cases d with
      |any=>exact⟨by grind [bX],.ow s,.any,by grind [bF],a.1,fun s' l' h=>by simp at h⟩
      |_=>grind
  |cons f u=>
   obtain⟨⟨h1,h2,h3⟩,b⟩:=b;have hx:l[st.idx]? = some l[st.idx]:=ajA h1
   have g:l.getD st.idx []=l[st.idx]:=by grind
   unfold iv at a;rw[hx]at a;dsimp only at a;cases hs:sub[st.off]? with
   |none=>grind
   |some s=>
    rw[hs]at b a;cases s with
    |fr=>grind
    |ow s=>
     cases hd:(l[st.idx])[st.off]? with
     |none=>grind
     |some d=>
      have c:(l.getD st.idx []).getD st.off default=d:=by grind
      rw[c]at b;rw[hd]at a;cases d with
      |li l'=>
       dsimp only at a b;obtain⟨k1,s1,i,k2,k3,k4⟩:=ih s l' t _ (fun N=>(e (N+1)).2 st.idx st.off s l' hs c) b a
       grind [bX,bF]
      |_=>grind
section
variable {P:Program} {g:G} {s:S} {a:Act} {w:World} {H:FH} {γ:Gam} {F:Nm->Fp}
theorem ab3{m:Mm}(hm:Mem w H γ m F)(c:bU m p){t:T}{k:Mm->Prop}(h:sX m p t k) :
  k (bk m p t)/\∃t0,aT m p=some t0/\t0.owned=false/\(p.path=[]\/∃s,acH m p=some s/\pH s t):=by
 obtain⟨r,h1,h2⟩:=ax.1 c;obtain⟨nm,off,path⟩:=p;dsimp only at h1 h2;unfold sX at h;rw[h1]at h;dsimp only at h;cases path with
 |nil=>
  grind [bk,aT]
 |cons st u=>
  dsimp only[aR]at h2;cases a:r.cells[off]? with
  |none=>grind
  |some t0=>
   rw[a]at h2 h;cases t0 with
   |ow sub l=>
    dsimp only at h2 h;have b:∀N,wfO N sub l:=by
     intro N;obtain⟨v,g,_,⟨k,d⟩,_⟩:=eh (hm.roots _ (ah h1)) a
     grind [D9]
    obtain⟨k1,s,x,k2,k3,k4⟩:=Yt (st::u) sub l t _ b h2 h;refine⟨by grind [bk],mkT s x,?_,?_,.inr ⟨s,by grind [acH],k3⟩⟩
    ·simp only[aT,h1,a,k2];cases s with
     |fr=>rfl
     |ow s'=>cases x<;>rfl
    cases s with
    |fr=>rfl
    |ow s'=>cases x with
     |li l'=>grind
     |_=>rfl
   |_=>grind
theorem Dh:aV (s.drop n).t i=(aV s.t i).kill (bq n):=oq _ _ _
theorem acQ{m:Mm}{r:Root}(hn:af m n=some r)(b:Nat):tot F (bP m n) b+F n b=tot F m b:=by
 induction m<;>grind [af,bP,eK]
theorem G0(h:RX g s a w H γ F)(hn:af s.m n=some ⟨false,[.ow sub l]⟩) :
  ∃v f,γ n=.gh v/\(∀m',TR w H γ m' (.ow sub l) f v)/\RX g (s.drop n) a w H γ F/\(∀b,tot F (s.drop n).m b+f b<=tot F s.m b):=by
 have hr:=h.mem.roots _ (ah hn)
 unfold bv at hr;dsimp only at hr;rw[if_neg (by simp)]at hr;obtain⟨v,t,h1,h2,h3⟩:=hr;simp only[List.cons.injEq,and_true]at h2;subst h2;have c:∀b,tot F (s.drop n).m b+F n b<=tot F s.m b:=by
  intro b;have:tot F (s.drop n).m b=tot F (bP s.m n) b:=bh
  grind [acQ]
 refine⟨v,F n,h1,fun _=>h3,⟨D7 h.mem n,?_,h.nt,h.df,fun i=>?_⟩,c⟩
 ·refine⟨h.fr.size,h.fr.os,h.fr.tape,h.fr.output,h.fr.block,h.fr.hold,h.fr.hnew,fun b hb=>h.fr.tt b ?_,h.fr.nz⟩
  grind
 rw[Dh];exact tu ea (fun _ _ _ h=>h) (h.t i)
theorem tK(h:RX g s a w H γ F)(n:Nm):RX g (s.drop n) a w H γ F:=by
 refine⟨D7 h.mem n,?_,h.nt,h.df,fun i=>?_⟩
 ·refine⟨h.fr.size,h.fr.os,h.fr.tape,h.fr.output,h.fr.block,h.fr.hold,h.fr.hnew,fun b hb=>h.fr.tt b ?_,h.fr.nz⟩;have e:tot F (s.drop n).m b=tot F (bP s.m n) b:=bh
  grind [gi]
 rw[Dh];exact tu ea (fun _ _ _ h=>h) (h.t i)
theorem Vj(h:RX g s a w H γ F)(f:bU s.m p){b k:Nat}(D:plA w γ p=some ⟨b,k,none⟩){t:T}{K:Mm->Prop}(L:sX s.m p t K)
  {ft:Fp} {y:Value} (G:TR w H γ s.m t ft y) (B:oY y=true) (hd:∀c,tot F s.m c+ft c<=1) (hl:∀c,ft c≠0->c<w.heap.size/\∀o,H c o=none)
  (hnew:∀c,ft c≠0->g.own0 c≠0\/g.w0.heap.size<=c) :
  (∃z,w.cell? ⟨b,k,none⟩=some z)/\w.frozen? ⟨b,k,none⟩=false/\∃m' F',K m'/\RX g ⟨s.t,m'⟩ a (w.setCell ⟨b,k,none⟩ y) H γ F'/\Keeps w γ s.m (w.setCell ⟨b,k,none⟩ y) γ m' /\
   (∀c,tot F' m' c=tot F s.m c+ft c):=by
 obtain⟨k1,t0,k2,k3,k4⟩:=ab3 h.mem f L;obtain⟨J,M,N⟩:=QQ h.mem f k2 k3 D G B k4 hd hl;have hw:∀a,a≠(⟨b,k,none⟩:Addr)->(w.setCell ⟨b,k,none⟩ y).cell? a=w.cell? a:=fun a I=>World.cell?_setCell_other _ _ _ _ (fun e=>I e.symm)
 have v:=wW h.mem f k2 k3 (t:=t) D hw
 obtain⟨A,u,_⟩:=ax.1 f;have E:=(AP h.mem f D).1
 dsimp only at E;have r:∀c,tot (fun n c=>F n c+if n=p.root then ft c else 0) (bk s.m p t) c=tot F s.m c+ft c:=by
  intro c;have:bk s.m p t=cv s.m p.root { A with cells:=match p.path with
    |[]=>A.cells.set p.off t
    |st::q=>match A.cells[p.off]? with
     |some (.ow sub l)=>A.cells.set p.off (.ow sub (bX sub l t.toD (st::q)))
     |_=>A.cells }:=by grind [bk]
  rw[this,dE,FQ h.mem.keys u]
 have C:tot F s.m b≠0:=by have:=bC (F:=F) (ah u) b;grind
 refine⟨J,M,bk s.m p t,_,k1,⟨N,?_,h.nt,h.df,fun i=>dp v (fun _ _ _ h=>h) (h.t i)⟩,v,r⟩;refine⟨by simp only[World.size_setCell];exact h.fr.size,h.fr.os,h.fr.tape,h.fr.output,fun j hj h0=>?_,h.fr.hold,h.fr.hnew,fun c hc=>?_,fun c h0=>(h.fr.nz.1 c h0).setCell,fun c o x l d h1 h2=>(h.fr.nz.2 c o x l d h1 h2).setCell⟩
 ·rw[jC]
  ·exact h.fr.block j hj h0
  intro e;subst e;rcases h.fr.tt j C with h1|h1
  all_goals omega
 rw[r]at hc;by_cases hf:ft c=0
 ·exact h.fr.tt c kQ1
 grind
end
theorem xF:∀(p:List Step)(i j:Nat),aU (aU p i) j=aU p (i+j):=by
 intro p;induction p with
 |nil=>intros;rfl
 |cons a b ih=>
  intro i j;cases b with
  |nil=>grind [aU]
  |cons c d=>
   have:=ih i j
   simp only[aU]at this⊢;cases hd:aU (c::d) i<;>grind [aU,lK]
theorem Zj(p:Pl)(i j:Nat):(p.add i).add j=p.add (i+j):=by
 obtain⟨n,o,path⟩:=p;cases path<;>grind [Pl.add,xF,lK]
theorem Jt{t:T}(h:t.ment n=false):t.kill (bq n)=t:=by
 cases t<;>grind [T.ment,T.kill,bq]
def wE(P:Program)(s:S)(t:TypeId)(x v:AV)(k:S->Prop):Prop:=
 match x,eT v with
 |.one (.c (.pl p)),some ts=>(ty P t).ok=true/\ts.length=(ty P t).size/\iZ s.m p (ts.length - 1)/\dD s p ts k
 |_,_=>False
section
variable {P:Program} {g:G} {s:S} {a:Act} {w:World} {H:FH} {γ:Gam} {F:Nm->Fp}
theorem Oe{b k:Nat}{z:Value}(hv:oY v=true)(hc:w.cell? ⟨b,k,none⟩=some z)(hf:w.frozen? ⟨b,k,none⟩=false) :
  (store ⟨b,k,none⟩ v).run P w=.ok () (w.setCell ⟨b,k,none⟩ v):=by
 cases v<;>first|(simp[oY]at hv;done)|grind [store,Sem.run]
theorem Ov:∀(ts:List T)(vs:List Value)(s:S)(w:World)(γ:Gam)(F:Nm->Fp)(p:Pl)(b k0 i:Nat)(K:S->Prop),RX g s a w H γ F ->
  (∀j,j<ts.length->bU s.m (p.add j)/\plA w γ (p.add j)=some ⟨b,k0+i+j,none⟩)->vs.length=ts.length->Ts (TR w H γ s.m) ts (fun _=>0) vs->dD s p ts K ->
  ∃s' w' γ' F',(storeCells ⟨b,k0,none⟩ vs i).run P w=.ok () w'/\K s'/\RX g s' a w' H γ' F':=by
 intro ts;induction ts with
 |nil=>
  intro vs s w γ F p b k0 i K h _ hl _ A;cases vs with
  |nil=>exact⟨s,w,γ,F,rfl,A,h⟩
  |cons _ _=>grind
 |cons t ts ih=>
  intro vs s w γ F p b k0 i K h G hl ad A;cases vs with
  |nil=>grind
  |cons v vs=>
  obtain⟨v',r,f1,f2,hv,hf,I,y⟩:=ad;simp only[List.cons.injEq]at hv;obtain⟨rfl,rfl⟩:=hv;have V:f1=fun _=>0:=by grind
  have R:f2=fun _=>0:=by grind
  subst V;subst R;obtain⟨J,O⟩:=G 0 (by simp);rw[add_zero]at J O;simp only[alO]at O;have Y:∀(s1:S)(F1:Nm->Fp)(Z:T)(ft:Fp)(Q:S->Prop),RX g s1 a w H γ F1->(∀j,j < (t::ts).length->bU s1.m (p.add j)/\plA w γ (p.add j)=some ⟨b,k0+i+j,none⟩) ->
    TR w H γ s1.m Z ft v->oY v=true->(∀c,tot F1 s1.m c+ft c<=1)->(∀c,ft c≠0->c<w.heap.size/\∀o,H c o=none)->(∀c,ft c≠0->g.own0 c≠0\/g.w0.heap.size<=c) ->
    Ts (TR w H γ s1.m) ts (fun _=>0) vs->sX s1.m p Z (fun m'=>dD ⟨s1.t,m'⟩ (p.add 1) ts Q) ->
    ∃s' w' γ' F',(storeCells ⟨b,k0,none⟩ (v::vs) i).run P w=.ok () w'/\Q s'/\RX g s' a w' H γ' F':=by
   intro s1 F1 Z ft Q h1 M ae C hd W hnew L hp;obtain⟨B,E⟩:=M 0 (by simp);rw[add_zero]at B E;simp only[alO]at E;obtain⟨⟨z,c1⟩,c2,m',F',c3,c4,c5,_⟩:=Vj h1 B E hp ae C hd W hnew;obtain⟨s',w',γ',ak,e1,e2,e3⟩:=ih vs ⟨s1.t,m'⟩ (w.setCell ⟨b,k0+i,none⟩ v) γ F' (p.add 1) b k0 (i+1) Q c4 (fun j hj=>by
     grind [Zj,Keeps.pl]) (by grind) (pi c5 (fun _ _ _ h=>h) (fun _ hb=>absurd rfl hb) L) c3
   grind [storeCells,Sem.run_bind,eH,Oe,Result.andThen_ok]
  have le:=fun c=>h.mem.le1 c
  have k:t.sure=true->t.owned=false->(∀q,t≠.rf q)->sX s.m p t (fun m'=>dD ⟨s.t,m'⟩ (p.add 1) ts K)->∃s' w' γ' F',(storeCells ⟨b,k0,none⟩ (v::vs) i).run P w=.ok () w'/\K s'/\RX g s' a w' H γ' F':=by
   intro hs _ _ hp;exact Y s F t (fun _=>0) K h G I (vd h.mem I hs) (fun c=>by grind) (fun c hc=>absurd rfl hc) (fun c hc=>absurd rfl hc) y hp
  cases t with
  |rf q=>
   obtain⟨n,o,path⟩:=q;simp only[dD]at A;cases hr:af s.m n with
   |none=>grind
   |some rr=>
    rw[hr]at A;obtain⟨blk,cells⟩:=rr
    match blk,cells,A,hr with
    |false,[.ow sub l],ag,ac=>
     obtain⟨hp,ab,U,N⟩:=ag
     try dsimp only at hp ab U N
     subst hp;obtain⟨u,f,hg,hT,h1,ah⟩:=G0 h ac;have aa:u=v:=by
      obtain⟨_,ai,aj⟩:=I
      grind [plV,aB]
     subst aa;have D:∀c,f c≠0->tot F s.m c≠0:=fun c hc=>by grind
     have C:oY u=true:=vd h.mem (hT s.m) rfl
     refine Y (s.drop n) F (.ow sub l) f K h1 (fun j hj=>?_) (hT _) C (fun c=>by grind) (fun c hc=>⟨h.mem.lt c (D c hc),h.mem.nofz c (D c hc)⟩) (fun c hc=>h.fr.tt c (D c hc)) ?_ N
     ·obtain⟨q1,q2⟩:=G j hj;have X:(p.add j).root=p.root:=by
       grind [Pl.add]
      obtain⟨q3,q4⟩:=(ea (w:=w) (γ:=γ) (m:=s.m) (n:=n)).pl (p.add j) (by grind [bq]) q1;exact⟨q3,by omega⟩
     have:=tR (ea (w:=w) (γ:=γ) (m:=s.m) (n:=n)) (fun _ _ _ h=>h) (fun _ hb=>absurd rfl hb) y
     have e:ts.map (·.kill (bq n))=ts:=by
      rw[ajN (g:=id)]
      ·simp
      grind [Jt]
     rw[e]at this;exact this
  |any=>exact A.elim
  |d x=>
   cases x with
   |any=>exact A.elim
   |_=>exact k rfl rfl (fun q h=>by simp at h) A
  |nil=>exact k rfl rfl (fun q h=>by simp at h) A
  |ow sub l=>
   refine Y s F (.ow sub l) (fun _=>0) K h G I (vd h.mem I rfl) (fun c=>by grind) (fun c hc=>absurd rfl hc) (fun c hc=>absurd rfl hc) y A
  |mp l=>obtain⟨b',_,_,_,_,_,_,_,h5⟩:=I;exact absurd (h5 b') (by simp)
  |it c l=>obtain⟨b',_,_,_,_,_,_,_,h5⟩:=I;exact absurd (h5 b') (by simp)
  |el row off=>exact k rfl rfl (fun q h=>by simp at h) A
  |pl q=>exact k rfl rfl (fun q h=>by simp at h) A
theorem T4(h:RX g s a w H γ F){x v:AV}{k:S->Prop}{u l:Value}(e:wE P s t x v k)(hx:AR w H γ s.m x u)(hv:AR w H γ s.m v l) :
  ∃s' w' γ' F',(Instr.storeAt t u l).run P w=.ok () w'/\k s'/\RX g s' a w' H γ' F':=by
 unfold wE at e
 match x,e with
 |.one (.c (.pl p)),e=>
  cases hc:eT v with
  |none=>grind
  |some ts=>
   rw[hc]at e;obtain⟨o,r,n,e⟩:=e;obtain⟨it,d,hit,_⟩:=jx o;obtain⟨B,i,ad,y,rfl⟩:=hx;obtain⟨b,k0,rfl⟩:=p7 h.mem i y;have f:l.cells.size=ts.length/\Ts (TR w H γ s.m) ts (fun _=>0) l.cells.toList:=by
    match v,hc with
    |.one (.c t'),hc=>
     simp only[eT,ai8]at hc;subst hc;have hs:t'.sure=true:=by
      cases t' with
      |any=>exact e.elim
      |d x=>cases x<;>first|rfl|exact e.elim
      |_=>rfl
     exact yq h.mem (x:=.one (.c t')) hv rfl (by simp[hs])
    |.one (.agg ts'),hc=>
     simp only[eT,ai8]at hc;subst hc;obtain⟨z,rfl,h1,h2⟩:=hv;exact⟨h1,h2⟩
   have q:∀j,j<ts.length->iZ s.m p j:=by
    grind [iZ]
   obtain⟨s',w',γ',F',D,C,A⟩:=Ov (P:=P) ts l.cells.toList s w γ F p b k0 0 k h (fun j hj=>⟨AE i (q j hj),by rw[yf y];rfl⟩) (by grind) f.2 e
   grind [Instr.storeAt,Instr.sureAddr,Sem.run_bind,Result.andThen_ok,storeVar,cq,mn]
end
end Go.Am
end
