/-
  Part 6: AmIndex · AmBuild · AmMake · AmAlloc · AmWrite · AmStoreOp.
-/
import Derived.Test.YtgpedlcblhiklaaGreatDoorVo5
import Derived.Laws.Tables
set_option linter.unusedSimpArgs false
set_option linter.unusedVariables false
set_option linter.unusedSectionVars false
set_option linter.unnecessarySimpa false
section
namespace Go.Am
variable{i:Nat}{k:AV->Prop}{l:List (List D)}{p:Pl}{sub:List Sh}{t:TypeId}{u v:Value}{x:AV}
section
variable {P:Program} {w:World} {H:FH} {γ:Gam} {m:Mm}
theorem OJ:∀(p:List Step)(y:Value)(st:Step)(b k:Nat)(v:Value),bv w y p=some ⟨b,k,none⟩->w.cell? ⟨b,k,none⟩=some v->bv w y (p++[st])=bv w v [st]:=by
 intro p;induction p with
 |nil=>grind [bv]
 |cons s r ih=>
  intro y st b k v h hv;cases y with
  |slice a len c=>
   cases a with
   |none=>grind [bv]
   |some a=>
    obtain⟨b0,o,sp⟩:=a;cases sp with
    |some _=>grind [bv]
    |none=>
     cases r<;>grind [bv]
  |_=>grind [bv]
theorem XX:∀(p:List Step)(a sub:List Sh)(b l:List (List D))(st:Step),okO a b p->bJ a b p=some (.ow sub,.li l)->okO sub l [st]->okO a b (p++[st]):=by
 intro p;induction p with
 |nil=>intro a sub b l st h;exact h.elim
 |cons s r ih=>
  intro a sub b l st h hl c;cases r<;>grind [bJ,okO]
theorem abZ{F:Nm->Fp}(b:Mem w H γ m F)(a:cj m p){st:Step}(hv:plV w γ p=some u):plA w γ { p with path:=p.path++[st] }=bv w u [st]:=by
 obtain⟨n,off,path⟩:=p;cases path with
 |nil=>
  grind [plV,plA]
 |cons s r=>
  simp only[plV]at hv;simp only[plA,akV];cases hc:aI w (γ n) off with
  |none=>grind
  |some v=>
   rw[hc]at hv;simp only[Option.bind_some]at hv⊢;cases hw:bv w v (s::r)<;>grind [plA,pT,OJ]
theorem abQ(a:cj m p)(b:aZ m p=some (.ow sub l))(hi:i<l.length)(h0:sub.length≠0):cj m (p.at i sub.length):=by
 obtain⟨r,h1,h2⟩:=aA.1 a;obtain⟨n,off,path⟩:=p;dsimp only at h1 h2;unfold aZ at b
 grind [aA,okO,Pl.at,aT,XX]
theorem BW{F:Nm->Fp}(A:Mem w H γ m F){i:AV}(h:gO P m t x i k)(hx:AR w H γ m x u)(hi:AR w H γ m i v) :
  ∃z d,(∀w:World,(Instr.indexAt t u v).run P w=.ok z w)/\AR w H γ m d z/\k d:=by
 match i,h with
 |.one (.c (.d (.int κ n))),h=>
 obtain⟨rfl,_⟩:=nl hi;simp only[gO]at h;cases hk:(ty P t).k with
 |sl e=>
  rw[hk]at h;obtain⟨_,d,_,hd,he,_⟩:=aY hk (by simp);obtain rfl:=oS he;have hel:P.elem t=e:=by simp[Program.elem,hd]
  match x,h with
  |.one (.c (.d (.li l))),h=>
   obtain⟨g,h0,h⟩:=h;obtain⟨it,_,hit,_⟩:=jE g;have hn:n.toNat<l.length:=by
    grind
   have h:∀row,l[n.toNat]? = some row->row.length=(ty P e).size/\k (.one (.c (.el row 0))):=fun row hr=>by grind
   have r:l[n.toNat]? = some l[n.toNat]:=aiY hn
   obtain⟨D,hk⟩:=h _ r;obtain⟨a,c,rfl,hc,hb,s⟩:=gG hx.2;rcases s with s|⟨b,o,e',q,rfl,B⟩
   ·grind
   ·have I:l.getD n.toNat []=l[n.toNat]:=by grind
    obtain⟨g1,g2⟩:=B n.toNat hn;rw[I]at g1 g2;have G:e'=P.cellsOf e:=by grind [lN]
    refine⟨.pointer (some ⟨b,o+n.toNat*P.cellsOf e,none⟩),.one (.c (.el l[n.toNat] 0)),?_,⟨fun _=>rfl,b,o+n.toNat*P.cellsOf e,q,by simp,fun j hj=>?_⟩,hk⟩
    all_goals grind [run_indexAt_slice,cG,Result.andThen_ok,dA]
  |.one (.c (.rf p)),h=>
   obtain⟨g,J,h⟩:=h;obtain⟨it,_,hit,_⟩:=jE g;obtain⟨tt,h1,h2,h3,h4,f,h5⟩:=Yx A hx h;cases tt with
   |ow sub l=>
    obtain⟨⟨M,q2⟩,L,E⟩:=h1;have hn:n.toNat<l.length:=by omega
    obtain⟨j,h5⟩:=h5;cases j with
    |zero=>simp[OD]at h5
    |succ j=>
     obtain⟨a,c,_,_,rfl,_,_,_,_,_,s⟩:=mm h5;rcases s with⟨hl,_⟩|⟨b,cs,tt,fz,rfl,_⟩
     ·omega
     ·refine⟨.pointer (some ⟨b,0+n.toNat*P.cellsOf e,none⟩),.one (.c (.pl (p.at n.toNat (ty P e).size))),?_,⟨fun _=>rfl,?_,⟨b,0+n.toNat*P.cellsOf e,none⟩,?_,rfl⟩,E⟩
      ·grind [run_indexAt_slice,cG,Result.andThen_ok,dA]
      ·grind [abQ]
      ·rw[Pl.at,abZ A h3 h4,<- lN g];rfl
   |_=>grind
 |ar N e=>
  rw[hk]at h;obtain⟨_,d,_,hd,he,_⟩:=aY hk (by simp);obtain rfl:=ad6 he;have hel:P.elem t=e:=by simp[Program.elem,hd]
  have K:P.arrayLen t=N:=by simp[Program.arrayLen,hd]
  match x,h with
  |.one (.c (.pl p)),h=>
   obtain⟨g,⟨h0,h1⟩,hr,h⟩:=h;obtain⟨it,_,hit,_⟩:=jE g;obtain⟨hz,y,a,C,rfl⟩:=hx;obtain⟨b,o,rfl⟩:=pT A y C;refine⟨.pointer (some ⟨b,o+n.toNat*P.cellsOf e,none⟩),.one (.c (.pl (p.add (n.toNat*(ty P e).size)))),?_,⟨fun _=>rfl,AT y hr,_,yA C,by rw[lN g]⟩,h⟩
   grind [run_indexAt_array,cG,Result.andThen_ok,dA]
  |.one (.c (.el row o)),h=>
   obtain⟨g,⟨h0,h1⟩,h⟩:=h;obtain⟨it,_,hit,_⟩:=jE g;obtain⟨hz,b,o',q,rfl,r⟩:=hx;refine⟨.pointer (some ⟨b,o'+o+n.toNat*P.cellsOf e,none⟩),.one (.c (.el row (o+n.toNat*(ty P e).size))),?_,⟨fun _=>rfl,b,o',q,by grind [lN],r⟩,h⟩
   grind [run_indexAt_array,cG,Result.andThen_ok,dA]
 |_=>grind
theorem FE(h:mV x k)(hx:AR w H γ m x u):(∃a,u=.pointer (some a))/\k x:=by
 match x,h with
 |.one (.c (.pl p)),h=>obtain⟨_,_,a,_,rfl⟩:=hx;exact⟨⟨a,rfl⟩,h⟩
 |.one (.c (.el row o)),h=>obtain⟨_,b,o',q,rfl,_⟩:=hx;exact⟨⟨_,rfl⟩,h⟩
end
theorem T4{ts:List T}{j:Nat}{t:T}(h:(uT p ts)[j]? = some t):∃t',ts[j]? = some t'/\t=Cl (p.add j) t':=by
 grind [uT]
theorem uU{ts:List T}:(uT p ts).length=ts.length:=by simp[uT]
def JG:AV->Bool
 |.one (.c (.el _ _))=>true
 |_=>false
variable{y:Value}
section
variable {P:Program} {w:World} {H:FH} {γ:Gam} {m:Mm}
theorem Qn{t:T}{f:Fp}(h:TR w H γ m t f y):XZ t:=by
 cases t with
 |d x=>exact NX h.2
 |_=>trivial
theorem KE:∀{ts:List T},(∀(i:Nat)(t:T),ts[i]? = some t->XZ t)->Qo ts
 |[],_=>trivial
 |t::ts,h=>⟨h 0 t rfl,KE (fun i t' a=>h (i+1) t' (by grind))⟩
theorem Qp:∀{ds:List D},(∀(i:Nat)(x:D),ds[i]? = some x->okv x)->okvs ds
 |[],_=>trivial
 |x::ds,h=>⟨h 0 x rfl,Qp (fun i x' hx=>h (i+1) x' (by grind))⟩
theorem lx{p:Nat->Value->Prop}:∀n,(∀j,j<n->∃v,p j v)->∃l:List Value,l.length=n/\∀(j:Nat)(v:Value),l[j]? = some v->p j v
 |0,_=>⟨[],rfl,fun j v h=>by simp at h⟩
 |n+1,h=>by
  obtain⟨l,h1,h2⟩:=lx n (fun j hj=>h j kQ1);obtain⟨v,hv⟩:=h n kQ1;refine⟨l++[v],by simp[h1],fun j a hj=>?_⟩
  grind
theorem AB{F:Nm->Fp}(E:Mem w H γ m F)(h:uC P m t x k)(hx:AR w H γ m x u) :
  ∃z d,∃B:Nat->Prop,(JG x=true->∀b,B b->∃o y,H b o=some y)/\(∀w2:World,(∀b,B b->w2.heap[b]? = w.heap[b]?)->(Instr.loadAt t u).run P w2=.ok z w2)/\AR w H γ m d z/\k d:=by
 obtain⟨I,h⟩:=h;obtain⟨it,d,hit,hd,J,ab,_⟩:=jE I;have W:(ty P t).size=P.cellsOf t:=lN I
 match x,h with
 |.one (.c (.el row o)),h=>
  obtain⟨hz,b,o',q,rfl,n⟩:=hx;have cell:∀j,j<row.length->∃y,w.cell? ⟨b,o'+j,none⟩=some y/\FD H q (row.getD j default) y:=fun j hj=>by
   obtain⟨y,h1,h2⟩:=n j hj;exact⟨y,E.agree _ _ _ h1,h2⟩
  have M:∀j,j<row.length->b=b/\∃o y,H b o=some y:=fun j hj=>by
   obtain⟨y,h1,h2⟩:=n j hj;grind
  have K:JG (.one (.c (.el row o)))=true->∀c,(c=b/\∃o y,H b o=some y)->∃o y,H c o=some y:=fun _ c⟨e,h⟩=>by grind
  dsimp only at h;split at h
  ·rename_i G;rw[G]at J;obtain⟨hl,h⟩:=h;obtain⟨us,R,C⟩:=lx (p:=fun j v=>w.cell? ⟨b,o'+o+j,none⟩=some v/\FD H q (row.getD (o+j) default) v) (ty P t).size (fun j hj=>by
    grind)
   have Z:((row.drop o).take (ty P t).size).length=(ty P t).size:=by grind
   have s:∀(j:Nat)(x:D),((row.drop o).take (ty P t).size)[j]? = some x->∃v,us[j]? = some v/\FDx H x v:=by
    intro j x hj;have X:j < (ty P t).size:=by grind
    rw[List.getElem?_take_of_lt X,ak7]at hj;have O:us[j]? = some (us[j]' kQ1):=aiY kQ1
    refine⟨_,O,q,?_⟩
    grind
   refine⟨.agg us.toArray,.one (.agg (((row.drop o).take (ty P t).size).map T.d)),fun c=>c=b/\∃o y,H b o=some y,K,?_,⟨us.toArray,rfl,by grind,?_⟩,h (Qp (fun i x hx=>?_))⟩
   ·intro w2 g;exact m6 hd (by grind) hit kQ1 (fun j v hv=>(dK (g b (M (o+j) (by grind)))).trans (C j v hv).1)
   ·refine tR (by grind) (fun i t' L=>?_);simp only[ai4,ajF]at L;obtain⟨x,hx,rfl⟩:=L;obtain⟨v,ad,S⟩:=s i x hx;exact⟨v,by omega,fun _=>rfl,S⟩
   grind [NX]
  ·rename_i G;have A:tU d=false:=by grind
   cases hr:row[o]? with
   |none=>grind
   |some x=>
    rw[hr]at h;obtain⟨y,h1,h2⟩:=cell o (cg hr);rw[List.getD,hr]at h2;exact⟨y,sc x,fun c=>c=b/\∃o y,H b o=some y,K,fun w2 g=>m7 hd A ((dK (g b (M o (cg hr)))).trans h1),⟨fun _=>rfl,q,h2⟩,h (NX ⟨q,h2⟩)⟩
 |.one (.c (.pl p)),h=>
  obtain⟨hz,l,a,G,rfl⟩:=hx;obtain⟨b,o,rfl⟩:=pT E l G;dsimp only at h;split at h
  ·rename_i r;rw[r]at J;obtain⟨ts,Y,N,V⟩:=Mp E l h;obtain⟨us,R,C⟩:=lx (p:=fun j v=>w.cell? ⟨b,o+j,none⟩=some v/\∀t',ts[j]? = some t'->TR w H γ m (Cl (p.add j) t') (fun _=>0) v/\∃f,TR w H γ m t' f v) (ty P t).size (fun j hj=>by
    have U:ts[j]? = some (ts[j]' kQ1):=aiY kQ1
    obtain⟨g1,g2⟩:=V j _ U;obtain⟨v,v1,Q,v3,v4⟩:=q8 E g2 g1;refine⟨v,Q _ (yA G),fun t' ac=>?_⟩
    grind)
   refine⟨.agg us.toArray,.one (.agg (uT p ts)),fun c=>c=b,fun h=>(by simp[JG]at h),?_,⟨us.toArray,rfl,by grind [uU],?_⟩,N (KE (fun i t' L=>?_))⟩
   ·intro w2 g;exact m6 hd (by grind) hit kQ1 (fun j v hv=>(dK (g b rfl)).trans (C j v hv).1)
   ·refine tR (by grind [uU]) (fun i t' L=>?_);obtain⟨t2,h2,rfl⟩:=T4 L;have hi:i<us.length:=by grind
    simp_all
   ·have hi:i<us.length:=by grind
    have aa:us[i]? = some us[i]:=aiY hi
    grind [Qn]
  ·rename_i r;have A:tU d=false:=by grind
   obtain⟨ts,Y,N,V⟩:=Mp E l h
   match ts,Y with
   |[t'],_=>
    obtain⟨g1,g2⟩:=V 0 t' rfl;rw[add_zero]at g1 g2;obtain⟨v,v1,Q,v3,f,v4⟩:=q8 E g2 g1;exact⟨v,.one (.c (Cl p t')),fun c=>c=b,fun h=>(by simp[JG]at h),fun w2 g=>m7 hd A ((dK (g b rfl)).trans (Q _ G)),v3,N (Qn v4)⟩
theorem SG(h:vW P t x i k)(hx:AR w H γ m x u) :
  ∃z d,(∀w:World,(Instr.field t u i).run P w=.ok z w)/\AR w H γ m d z/\k d:=by
 unfold vW at h;cases hk:(ty P t).k with
 |st fs=>
  rw[hk]at h
  match x,h with
  |.one (.agg ts),h=>
   obtain⟨_,d,_,hd,he,_⟩:=aY hk (by simp);obtain⟨e,rfl,rfl⟩:=ad7 he;obtain⟨us,rfl,s,l⟩:=hx;dsimp only at h;cases hf:(e.toList.map fun f=>(f.offset,P.cellsOf f.type,VI P f.type))[i]? with
   |none=>grind
   |some q=>
    obtain⟨off,size,g⟩:=q;rw[hf]at h;simp only[ai4,ajF,Prod.mk.injEq]at hf;obtain⟨f,p,rfl,rfl,b⟩:=hf;have n:e[i]? = some f:=by grind
    have a:∀w:World,(Instr.field t (.agg us) i).run P w=(part f.type us f.offset).run P w:=by
     intro w;simp only[Instr.field,Sem.run_bind,run_underlying hd,Result.andThen_ok,n];rfl
    simp only[a];have hus:us=us.toList.toArray:=by simp
    cases g with
    |none=>grind
    |some g=>
    simp only[VI,ajF]at b;obtain⟨r,h1,h2⟩:=b;cases g with
    |false=>
     dsimp only at h;cases o:ts[f.offset]? with
     |none=>grind
     |some t'=>
      rw[o]at h;obtain⟨v,hv,j⟩:=EF l o;refine⟨v,.one (.c t'),?_,j,h⟩;intro w;rw[hus];grind [jh]
    |true=>
     obtain⟨hl,h⟩:=h;obtain⟨it,h3⟩:=Fa h1;refine⟨.agg ((us.toList.drop f.offset).take (P.cellsOf f.type)).toArray,.one (.agg ((ts.drop f.offset).take (P.cellsOf f.type))),?_,⟨_,rfl,?_,?_⟩,h⟩
     ·intro w;rw[hus];grind [l8]
     all_goals grind [tR,EF]
 |_=>grind
end
def T.sure:T->Bool
 |.any=>false
 |.d .any=>false
 |_=>true
def fh:AV->Option (List T)
 |.one (.c t)=>some [t]
 |.one (.agg ts)=>some ts
 |_=>none
variable{α:Type}
def overw(ts:List α)(off:Nat)(cs:List α):List α:=ts.take off++cs++ts.drop (off+cs.length)
def jQ(pl:Nat->Option (Nat×Nat)):List T->List (Nat×AV)->Option (List T)
 |ts,[]=>some ts
 |ts,(i,x)::r=>match pl i,fh x with
  |some (off,size),some cs=>if cs.length=size/\off+cs.length<=ts.length/\cs.all T.sure=true then jQ pl (overw ts off cs) r else none
  |_,_=>none
def zst(P:Program)(t:TypeId):Option (List Value×List (Nat×Nat)):=
 match P.info? t,P.underlying t with
 |some it,some (.struct b)=>match it.zero,b.toList.mapM (fun f=>(P.info? f.type).map fun i=>(f.offset,i.size))with
  |some z,some a=>if z.cells.all okT=true then some (z.cells.toList,a)else none
  |_,_=>none
 |some it,some (.array N e)=>match it.zero,P.info? e with
  |some z,some c=>if z.cells.all okT=true then some (z.cells.toList,(List.range N).map fun i=>(i*c.size,c.size))else none
  |_,_=>none
 |_,_=>none
theorem Df{f g:Nat->Option (Nat×Nat)}(a:∀i q,f i=some q->g i=some q):∀{ps:List (Nat×Value)}{cs r:Array Value},Instr.fill f cs ps=some r->Instr.fill g cs ps=some r
 |[],_,_,h=>h
 |(i,v)::ps,cs,r,h=>by
  simp only[Instr.fill]at h⊢;cases hf:f i with
  |none=>grind
  |some q=>
   rw[hf]at h;rw[a _ _ hf];dsimp only at h⊢;split at h
   ·cases h
   ·rename_i hc;rw[if_neg hc];exact Df a h
def so(P:Program)(t:TypeId)(b:List (Nat×AV))(k:AV->Prop):Prop:=
 match zst P t with
 |some (zs,a)=>match jQ (a[·]?) (zs.map rG) b with
  |some ts=>k (.one (.agg ts))
  |none=>False
 |none=>False
theorem Dh:∀(cs:List Value)(j:Nat)(off:Nat)(b:Array Value)(i:Nat),
  ((cs.zipIdx j).foldl (fun a(x:Value×Nat)=>a.setIfInBounds (off+x.2) x.1) b)[i]? =
   if off+j<=i/\i<off+j+cs.length/\i<b.size then cs[i-off-j]? else b[i]?
 |[],j,off,b,i=>by
  grind [List.zipIdx_nil]
 |c::cs,j,off,b,i=>by
  rw[List.zipIdx_cons,akO,Dh cs (j+1) off _ i]
  grind
theorem zX:∀(cs:List Value)(j:Nat)(off:Nat)(b:Array Value),
  ((cs.zipIdx j).foldl (fun a(x:Value×Nat)=>a.setIfInBounds (off+x.2) x.1) b).size=b.size
 |[],j,off,b=>rfl
 |c::cs,j,off,b=>by
  rw[List.zipIdx_cons,akO,zX cs (j+1) off _];simp
variable{ts:List α}
section
variable {P:Program} {w:World} {H:FH} {γ:Gam} {m:Mm}
theorem ve{F:Nm->Fp}(u:Mem w H γ m F){t:T}{f:Fp}(h:TR w H γ m t f y)(hs:t.sure=true):oT y=true:=by
 have ow:∀{k:Nat}{sub:List Sh}{l:List (List D)}{g:Fp},OD w H k (.ow sub) (.li l) g y->oT y=true:=by
  intro k sub l g h;cases k with
  |zero=>simp[OD]at h
  |succ k=>obtain⟨a,c,_,_,rfl,_⟩:=mm h;rfl
 cases t with
 |d x=>
  cases x with
  |int k n=>obtain⟨rfl,_⟩:=fH h.2;rfl
  |bool b=>obtain rfl:=jl h.2;rfl
  |str l=>obtain⟨rfl,_⟩:=il h.2;rfl
  |li l=>obtain⟨a,c,rfl,_⟩:=gG h.2;rfl
  |mp l=>obtain⟨b,rfl⟩:=Eu h.2;rfl
  |fn f l=>obtain⟨b,rfl⟩:=UX h.2;rfl
  |v z=>obtain⟨_,q,h⟩:=h;cases q<;>(obtain⟨rfl,h⟩:=h;exact h)
  |any=>grind [T.sure]
 |nil=>obtain⟨_,rfl⟩:=h;rfl
 |ow sub l=>obtain⟨k,h⟩:=h;grind
 |mp l=>obtain⟨b,es,ck,_,rfl,_⟩:=h;rfl
 |it cur rest=>obtain⟨r,m,a,s,c,rfl,_⟩:=h;rfl
 |el row off=>obtain⟨_,b,o,q,rfl,_⟩:=h;rfl
 |pl p=>obtain⟨_,_,a,_,rfl⟩:=h;rfl
 |rf p=>
  obtain⟨_,hr,hv⟩:=h;have e:=fC hr
  have j:∃x,aZ m p=some x/\((∃s l,x=.ow s l)\/(∃l,x=.mp l)\/∃c l,x=.it c l):=by
   obtain⟨r,A,hc⟩:=cm.1 hr;unfold bF at hc
   grind [aZ]
  obtain⟨x,j,hx⟩:=j;obtain⟨v,i,_,_,f',v4⟩:=q8 u e j;rw[hv]at i;simp only[aiX]at i;subst i;rcases hx with⟨s,l,rfl⟩|⟨l,rfl⟩|⟨c,l,rfl⟩
  ·obtain⟨k,v4⟩:=v4
   grind
  ·obtain⟨b,es,ck,_,rfl,_⟩:=v4;rfl
  ·obtain⟨r,m,a,s,c,rfl,_⟩:=v4;rfl
 |any=>grind [T.sure]
theorem Sv(h:oT y=true):y.cells=#[y]:=by
 cases y<;>first|rfl|grind [oT]
theorem yM{F:Nm->Fp}(b:Mem w H γ m F){cs:List T}(hx:AR w H γ m x v)(hc:fh x=some cs)(hs:cs.all T.sure=true) :
  v.cells.size=cs.length/\Ts (TR w H γ m) cs (fun _=>0) v.cells.toList:=by
 match x,hc with
 |.one (.c t),hc=>
  simp only[fh,aiX]at hc;subst hc;have a:oT v=true:=ve b hx (by grind)
  rw[Sv a];exact⟨rfl,v,[],fun _=>0,fun _=>0,rfl,fun _=>rfl,hx,fun _=>rfl⟩
 |.one (.agg ts),hc=>
  simp only[fh,aiX]at hc;subst hc;obtain⟨d,rfl,h1,h2⟩:=hx;exact⟨h1,h2⟩
def PR(w:World)(H:FH)(γ:Gam)(m:Mm):List (Nat×AV)->List (Nat×Value)->Prop
 |[],[]=>True
 |(i,x)::xs,(j,v)::vs=>i=j/\AR w H γ m x v/\PR w H γ m xs vs
 |_,_=>False
theorem TN{cs:List α}{off:Nat}(h:off+cs.length<=ts.length):(overw ts off cs)[i]? = if off<=i/\i<off+cs.length then cs[i-off]? else ts[i]? := by
 unfold overw;have hl:(ts.take off).length=off:=by grind
 grind
theorem ww{cs:List α}{off:Nat}(h:off+cs.length<=ts.length):(overw ts off cs).length=ts.length:=by
 grind [overw]
theorem yu{F:Nm->Fp}(p:Mem w H γ m F){pl:Nat->Option (Nat×Nat)}:∀(b:List (Nat×AV))(vs:List (Nat×Value))(ts:List T)(us:Array Value)(ts':List T),
  PR w H γ m b vs->us.size=ts.length->Ts (TR w H γ m) ts (fun _=>0) us.toList->jQ pl ts b=some ts' ->
  ∃f,Instr.fill pl us vs=some f/\f.size=ts'.length/\Ts (TR w H γ m) ts' (fun _=>0) f.toList:=by
 intro b;induction b with
 |nil=>
  intro vs ts us ts' hp hl o hf;cases vs with
  |cons _ _=>exact hp.elim
  |nil=>
   simp only[jQ,aiX]at hf;subst hf;exact⟨us,rfl,hl,o⟩
 |cons z b ih=>
  obtain⟨i,x⟩:=z;intro vs ts us ts' hp hl o hf;cases vs with
  |nil=>exact hp.elim
  |cons z vs=>
   obtain⟨j,v⟩:=z;obtain⟨rfl,hx,hp⟩:=hp;simp only[jQ]at hf;cases l:pl i with
   |none=>grind
   |some q=>
    obtain⟨off,size⟩:=q;rw[l]at hf;cases h:fh x with
    |none=>grind
    |some cs=>
     rw[h]at hf;dsimp only at hf;split at hf
     ·rename_i g;obtain⟨h1,h2,h3⟩:=g;obtain⟨u,c2⟩:=yM p hx h h3;have e:v.cells.zipIdx.foldl (fun cs(c,j)=>cs.setIfInBounds (off+j) c) us=(v.cells.toList.zipIdx.foldl (fun a(x:Value×Nat)=>a.setIfInBounds (off+x.2) x.1) us):=by
       grind [Array.toList_zipIdx]
      have hget:=Dh v.cells.toList 0 off us
      have d:=zX v.cells.toList 0 off us
      generalize hus:v.cells.toList.zipIdx.foldl (fun a(x:Value×Nat)=>a.setIfInBounds (off+x.2) x.1) us=k at e hget d;have r:v.cells.toList.length=cs.length:=by omega
      have n:Ts (TR w H γ m) (overw ts off cs) (fun _=>0) k.toList:=by
       refine tR (by grind [ww]) (fun i t s=>?_)
       grind [TN,EF]
      grind [ww,Instr.fill]
     grind
end
variable{w':World}
theorem Fr.trans{w0 w:World}{H0 H H':FH}{own0 tt tt':Fp}(h:Fr w0 H0 own0 w H tt)(k:Fr w H tt w' H' tt'):Fr w0 H0 own0 w' H' tt':=by
 refine⟨ajJ h.size k.size,k.os.trans h.os,k.tape.trans h.tape,k.output.trans h.output,fun i hi h0=>?_,fun b o y hy=>k.hold _ _ _ (h.hold _ _ _ hy),fun b o h1 h2=>?_,fun b hb=>?_,fun b hb=>k.nz.1 b (h.nz.1 b hb),fun b o x l c h1 h2=>?_⟩
 ·have:tt i=0:=by
   rcases ajZ (tt i)with h'|h'
   ·exact h'
   ·rcases h.tt i kQ1 with h1|h1<;>omega
  rw[k.block i (by have:=h.size;omega) this];grind [block]
 ·by_cases hH:H b o=none
  ·rcases k.hnew b o h1 hH with h3|h3
   ·exact h.tt b h3
   ·right;have:=h.size;omega
  ·exact h.hnew b o hH h2
 ·rcases k.tt b hb with h1|h1
  ·exact h.tt b h1
  ·right;have:=h.size;omega
 ·cases hH:H b o with
  |none=>grind [nz]
  |some y=>
   have:=(k.hold b o y hH).symm.trans h1
   grind [nz,nz]
theorem Fr.refl'{w:World}{H:FH}{tt tt':Fp}(h1:w'.heap=w.heap)(h2:w'.os=w.os)(h3:w'.tape=w.tape)(h4:w'.output=w.output)(h5:∀b,tt' b≠0->tt b≠0):Fr w H tt w' H tt':=
 ⟨by grind,h2,h3,h4,fun _ _ _=>by rw[h1],fun _ _ _ h=>h,fun b o h1 h2=>absurd h2 h1,fun b hb=>.inl (h5 b hb),fun b hb=>hb.of_block (by rw[h1]),fun b o x l c h1 h2=>by grind⟩
variable{n:Nm}
section
variable {P:Program} {g:G} {s:S} {a:Act} {w:World} {H:FH} {γ:Gam} {F:Nm->Fp}
theorem jR(h:RX g s a w H γ F){H':FH}{γ':Gam}{m':Mm}{F':Nm->Fp}(d:Mem w' H' γ' m' F')(hf:Fr w H (tot F s.m) w' H' (tot F' m')){t':List (Nat×AV)}
  (f:∀i,AR w' H' γ' m' (bd t' i) (g.tv a i)) (c:∀j,γ' (.out j)=γ (.out j)):RX g ⟨t',m'⟩ a w' H' γ' F':=⟨d,h.fr.trans hf,h.nt,⟨h.df.1,fun j b e=>(c j).trans (h.df.2.1 j b e),h.df.2.2⟩,f⟩
theorem QP{γ:Gam}{x:RC}(hno:n.isOut=false)(j:Nat):upd γ n x (.out j)=γ (.out j):=by
 grind [upd,Nm.isOut]
theorem cU{w:World}{o:Obj}{k:Nat}(h:k<w.heap.size):(w.alloc o).heap[k]? = w.heap[k]? := by
 show(w.heap.push o)[k]? = _
 grind
theorem bC{w:World}{o:Obj}:(w.alloc o).heap[w.heap.size]? = some o:=by
 show(w.heap.push o)[w.heap.size]? = _
 grind
theorem qm{m:Mm}(a:Mem w H γ m F)(cs:Array Value)(ty:TypeId)(fz:Bool) :
  let w':=w.alloc (.cells cs ty)
  let H':FH:=fun b o=>if fz=true/\b=w.heap.size then cs[o]?.map HV.c else H b o
  Mem w' H' γ m F/\Fr w H (tot F m) w' H' (tot F m)/\Keeps w γ m w' γ m/\(∀b o y,H b o=some y->H' b o=some y):=by
 intro w' H';have e:∀b o y,H b o=some y->b<w.heap.size:=fun b o y h=>(a.agree b o y h).lt
 have d:∀b o y,H b o=some y->H' b o=some y:=by
  grind
 have hold:∀k,k<w.heap.size->w'.heap[k]? = w.heap[k]? := fun k hk=>cU hk
 have g:=gH (w':=w') a (fun b hb=>hold b (a.lt b hb))
 have f:∀x∈m,∀b,F x.1 b≠0->b<w.heap.size:=fun x hx b hb=>a.lt b (by grind [bX])
 refine⟨⟨?_,?_,a.keys,a.le1,?_,?_⟩,⟨by simp[w'],rfl,rfl,rfl,fun k hk _=>hold k hk,d,?_,fun b hb=>.inl hb,fun b hb=>hb.of_block (hold b hb.lt),fun b o x l c h1 h2=>?_⟩,g,d⟩
 ·intro b o y hy;simp only[H']at hy;split at hy
  ·rename_i hc;obtain⟨z,hz,rfl⟩:=ajF.1 hy;rw[hc.2];show w'.cell? ⟨w.heap.size,o,none⟩=some z
   grind [World.cell?,bC]
  ·exact(a.agree b o y hy).frame (hold b (e b o y hy))
 ·intro x hx;exact bh g d rfl (fun b hb=>hold b (f x hx b hb)) (a.roots x hx)
 ·intro b hb;have:=a.lt b hb;grind
 ·intro b hb o;have:=a.lt b hb
  simp only[H'];rw[if_neg kQ1];exact a.nofz b hb o
 ·grind
 ·simp only[H']at h1;split at h1
  ·rename_i hc;rw[hc.2];exact⟨cs,ty,bC⟩
  grind
theorem Vq(h:RX g s a w H γ F){n:Nm}(hno:n.isOut=false)(hn:af s.m n=none){ts:List T}{cs:Array Value}(hl:cs.size=ts.length)(k:Ts (TR w H γ s.m) ts (fun _=>0) cs.toList)(ty:TypeId)(e:∀t,n.tyd=some t->ty=t) :
  ∃γ' F',RX g ⟨s.t,(n,⟨true,ts⟩)::s.m⟩ a (w.alloc (.cells cs ty)) H γ' F'/\γ' n=.blk w.heap.size:=by
 obtain⟨l,hf,j,q⟩:=qm h.mem cs ty false;simp only[ai8,false_and,if_false]at l hf j q;have c:=ql (w:=w.alloc (.cells cs ty)) (γ:=γ) (rc:=.blk w.heap.size) (r:=⟨true,ts⟩) hn
 have hz:tot F s.m w.heap.size=0:=by
  rcases ajZ (tot F s.m w.heap.size)with h'|h'
  ·exact h'
  ·have:=h.mem.lt w.heap.size kQ1;omega
 have u:∀o,H w.heap.size o=none:=by
  intro o;cases hc:H w.heap.size o with
  |none=>rfl
  |some y=>have:=(h.mem.agree _ _ _ hc).lt;omega
 obtain⟨d,p⟩:=Ew l (n:=n) (rc:=.blk w.heap.size) (r:=⟨true,ts⟩) (f:=fun b=>0+if b=w.heap.size then 1 else 0) hn (by
   unfold bZ;rw[if_pos rfl];refine⟨w.heap.size,cs,ty,(0,0),fun _=>0,fF,bC,⟨rfl,e⟩,hl,?_,fun _=>rfl⟩;exact pb c (fun _ _ _ h=>h) (fun _ hb=>absurd rfl hb) (pb j (fun _ _ _ h=>h) (fun _ hb=>absurd rfl hb) k))
  (fun b=>by
   grind [Mem.le1])
  (fun b hb=>by
   simp_all)
 refine⟨_,_,jR h d ?_ (fun i=>dy c (fun _ _ _ h=>h) (dy j (fun _ _ _ h=>h) (h.t i))) (QP hno),fF⟩;refine⟨hf.size,hf.os,hf.tape,hf.output,hf.block,hf.hold,hf.hnew,fun b hb=>?_,hf.nz⟩
 grind
theorem dQ(h:RX g s a w H γ F){n:Nm}(hno:n.isOut=false)(hn:af s.m n=none){t:T}{f:Fp}(l:TR w H γ s.m t f v)(hd:∀b,tot F s.m b+f b<=1)(hl:∀b,f b≠0->b<w.heap.size/\∀o,H b o=none)
  (hnew:∀b,f b≠0->g.own0 b≠0\/g.w0.heap.size<=b) :
  ∃γ' F',RX g ⟨s.t,(n,⟨false,[t]⟩)::s.m⟩ a w H γ' F'/\γ' n=.gh v:=by
 have c:=ql (w:=w) (γ:=γ) (rc:=.gh v) (r:=⟨false,[t]⟩) hn
 obtain⟨d,k⟩:=Ew h.mem (n:=n) (rc:=.gh v) (r:=⟨false,[t]⟩) (f:=f) hn (by
   unfold bZ;rw[if_neg (by simp)];exact⟨v,t,fF,rfl,jm c (fun _ _ _ h=>h) (fun _ _=>rfl) l⟩) hd hl
 refine⟨_,_,⟨d,?_,h.nt,⟨h.df.1,fun j b e=>(QP hno j).trans (h.df.2.1 j b e),h.df.2.2⟩,fun i=>dy c (fun _ _ _ h=>h) (h.t i)⟩,fF⟩;refine⟨h.fr.size,h.fr.os,h.fr.tape,h.fr.output,h.fr.block,h.fr.hold,h.fr.hnew,fun b hb=>?_,h.fr.nz⟩;rw[k]at hb;by_cases hf:f b=0
 ·exact h.fr.tt b kQ1
 grind
end
def iA(sub:List Sh)(l:List (List D))(t:T):List Step->(List (List D)->Prop)->Prop
 |[],_=>False
 |[st],k=>match l[st.idx]? with
  |some x=>match sub[st.off]?,x[st.off]? with
   |some .fr,some _=>py .fr t/\k (l.set st.idx (x.set st.off t.toD))
   |some (.ow s),some .any=>py (.ow s) t/\k (l.set st.idx (x.set st.off t.toD))
   |_,_=>False
  |none=>False
 |st::a::r,k=>match l[st.idx]? with
  |some x=>match sub[st.off]?,x[st.off]? with
   |some (.ow s),some (.li l')=>iA s l' t (a::r) fun b=>k (l.set st.idx (x.set st.off (.li b)))
   |_,_=>False
  |none=>False
def sZ(m:Mm)(p:Pl)(t:T)(k:Mm->Prop):Prop:=
 match af m p.root with
 |none=>False
 |some r=>match p.path,r.cells[p.off]? with
  |[],some t0=>t0.owned=false/\k (cM m p.root { r with cells:=r.cells.set p.off t })
  |st::q,some (.ow sub l)=>iA sub l t (st::q) fun l'=>k (cM m p.root { r with cells:=r.cells.set p.off (.ow sub l') })
  |_,_=>False
def T.ment(n:Nm):T->Bool
 |.pl p=>decide (p.root=n)
 |.rf p=>decide (p.root=n)
 |_=>false
def S.drop(s:S)(n:Nm):S:=⟨oP (bU n) s.t,aP (bU n) (cv s.m n)⟩
def dH(s:S)(p:Pl):List T->(S->Prop)->Prop
 |[],k=>k s
 |.rf q::ts,k=>match af s.m q.root with
  |some ⟨false,[.ow sub l]⟩=>q.path=[]/\q.root≠p.root/\(ts.all fun t=>!t.ment q.root)=true/\sZ (s.drop q.root).m p (.ow sub l) fun m'=>dH ⟨(s.drop q.root).t,m'⟩ (p.add 1) ts k
  |_=>False
 |.any::_,_=>False
 |.d .any::_,_=>False
 |t::ts,k=>sZ s.m p t fun m'=>dH ⟨s.t,m'⟩ (p.add 1) ts k
theorem YG:∀(p:List Step)(sub:List Sh)(l:List (List D))(t:T)(k:List (List D)->Prop),(∀N,wfO N sub l)->okO sub l p->iA sub l t p k ->
  k (cx sub l t.toD p)/\∃s x,bJ sub l p=some (s,x)/\py s t/\∀s' l',(s,x)≠(.ow s',.li l'):=by
 intro p;induction p with
 |nil=>intro sub l t k _ h;exact h.elim
 |cons st r ih=>
  intro sub l t k e b a;cases r with
  |nil=>
   obtain⟨h1,h2,h3⟩:=b;have hx:l[st.idx]? = some l[st.idx]:=aiY h1
   have g:l.getD st.idx []=l[st.idx]:=by grind
   unfold iA at a;rw[hx]at a;dsimp only at a;cases hs:sub[st.off]? with
   |none=>grind
   |some s=>
    rw[hs]at a;cases hd:(l[st.idx])[st.off]? with
    |none=>grind
    |some d=>
     rw[hd]at a;have c:(l.getD st.idx []).getD st.off default=d:=by grind
     cases s with
     |fr=>
      refine⟨by grind [cx],.fr,d,by grind [bJ],a.1,fun s' l' h=>by simp at h⟩
     |ow s=>
      cases d with
      |any=>exact⟨by grind [cx],.ow s,.any,by grind [bJ],a.1,fun s' l' h=>by simp at h⟩
      |_=>grind
  |cons f u=>
   obtain⟨⟨h1,h2,h3⟩,b⟩:=b;have hx:l[st.idx]? = some l[st.idx]:=aiY h1
   have g:l.getD st.idx []=l[st.idx]:=by grind
   unfold iA at a;rw[hx]at a;dsimp only at a;cases hs:sub[st.off]? with
   |none=>grind
   |some s=>
    rw[hs]at b a;cases s with
    |fr=>grind
    |ow s=>
     cases hd:(l[st.idx])[st.off]? with
     |none=>grind
     |some d=>
      have c:(l.getD st.idx []).getD st.off default=d:=by grind
      rw[c]at b;rw[hd]at a;cases d with
      |li l'=>
       dsimp only at a b;obtain⟨k1,s1,i,k2,k3,k4⟩:=ih s l' t _ (fun N=>(e (N+1)).2 st.idx st.off s l' hs c) b a
       grind [cx,bJ]
      |_=>grind
section
variable {P:Program} {g:G} {s:S} {a:Act} {w:World} {H:FH} {γ:Gam} {F:Nm->Fp}
theorem ab4{m:Mm}(d:Mem w H γ m F)(b:cj m p){t:T}{k:Mm->Prop}(h:sZ m p t k) :
  k (bk m p t)/\∃t0,aZ m p=some t0/\t0.owned=false/\(p.path=[]\/∃s,acN m p=some s/\py s t):=by
 obtain⟨r,h1,h2⟩:=aA.1 b;obtain⟨nm,off,path⟩:=p;dsimp only at h1 h2;unfold sZ at h;rw[h1]at h;dsimp only at h;cases path with
 |nil=>
  grind [bk,aZ]
 |cons st u=>
  dsimp only[aT]at h2;cases a:r.cells[off]? with
  |none=>grind
  |some t0=>
   rw[a]at h2 h;cases t0 with
   |ow sub l=>
    dsimp only at h2 h;have c:∀N,wfO N sub l:=by
     intro N;obtain⟨v,g,_,⟨k,c2⟩,_⟩:=eB (d.roots _ (ak h1)) a
     grind [Ez]
    obtain⟨k1,s,x,k2,k3,k4⟩:=YG (st::u) sub l t _ c h2 h;refine⟨by grind [bk],mkT s x,?_,?_,.inr ⟨s,by grind [acN],k3⟩⟩
    ·simp only[aZ,h1,a,k2];cases s with
     |fr=>rfl
     |ow s'=>cases x<;>rfl
    ·cases s with
     |fr=>rfl
     |ow s'=>cases x with
      |li l'=>grind
      |_=>rfl
   |_=>grind
theorem Do:bd (s.drop n).t i=(bd s.t i).kill (bU n):=sJ _ _ _
theorem acU{m:Mm}{r:Root}(hn:af m n=some r)(b:Nat):tot F (cv m n) b+F n b=tot F m b:=by
 induction m<;>grind [af,cv,eT]
theorem Ik(h:RX g s a w H γ F)(hn:af s.m n=some ⟨false,[.ow sub l]⟩) :
  ∃v f,γ n=.gh v/\(∀m',TR w H γ m' (.ow sub l) f v)/\RX g (s.drop n) a w H γ F/\(∀b,tot F (s.drop n).m b+f b<=tot F s.m b):=by
 have hr:=h.mem.roots _ (ak hn)
 unfold bZ at hr;dsimp only at hr;rw[if_neg (by simp)]at hr;obtain⟨v,t,h1,h2,h3⟩:=hr;simp only[List.cons.injEq,and_true]at h2;subst h2;have c:∀b,tot F (s.drop n).m b+F n b<=tot F s.m b:=by
  intro b;have:tot F (s.drop n).m b=tot F (cv s.m n) b:=bu
  grind [acU]
 refine⟨v,F n,h1,fun _=>h3,⟨Ex h.mem n,?_,h.nt,h.df,fun i=>?_⟩,c⟩
 ·refine⟨h.fr.size,h.fr.os,h.fr.tape,h.fr.output,h.fr.block,h.fr.hold,h.fr.hnew,fun b hb=>h.fr.tt b ?_,h.fr.nz⟩
  grind
 ·rw[Do];exact yj fp (fun _ _ _ h=>h) (h.t i)
theorem ym(h:RX g s a w H γ F)(n:Nm):RX g (s.drop n) a w H γ F:=by
 refine⟨Ex h.mem n,?_,h.nt,h.df,fun i=>?_⟩
 ·refine⟨h.fr.size,h.fr.os,h.fr.tape,h.fr.output,h.fr.block,h.fr.hold,h.fr.hnew,fun b hb=>h.fr.tt b ?_,h.fr.nz⟩;have e:tot F (s.drop n).m b=tot F (cv s.m n) b:=bu
  grind [gC]
 ·rw[Do];exact yj fp (fun _ _ _ h=>h) (h.t i)
theorem Vx(h:RX g s a w H γ F)(f:cj s.m p){b k:Nat}(D:plA w γ p=some ⟨b,k,none⟩){t:T}{K:Mm->Prop}(L:sZ s.m p t K)
  {ft:Fp} {y:Value} (G:TR w H γ s.m t ft y) (v:oT y=true) (hd:∀c,tot F s.m c+ft c<=1) (hl:∀c,ft c≠0->c<w.heap.size/\∀o,H c o=none)
  (hnew:∀c,ft c≠0->g.own0 c≠0\/g.w0.heap.size<=c) :
  (∃z,w.cell? ⟨b,k,none⟩=some z)/\w.frozen? ⟨b,k,none⟩=false/\∃m' F',K m'/\RX g ⟨s.t,m'⟩ a (w.setCell ⟨b,k,none⟩ y) H γ F'/\Keeps w γ s.m (w.setCell ⟨b,k,none⟩ y) γ m' /\
   (∀c,tot F' m' c=tot F s.m c+ft c):=by
 obtain⟨k1,t0,k2,k3,k4⟩:=ab4 h.mem f L;obtain⟨M,N,J⟩:=Q2 h.mem f k2 k3 D G v k4 hd hl;have hw:∀a,a≠(⟨b,k,none⟩:Addr)->(w.setCell ⟨b,k,none⟩ y).cell? a=w.cell? a:=fun a I=>World.cell?_setCell_other _ _ _ _ (fun e=>I e.symm)
 have u:=xk h.mem f k2 k3 (t:=t) D hw
 obtain⟨B,A,_⟩:=aA.1 f;have C:=(A3 h.mem f D).1
 dsimp only at C;have r:∀c,tot (fun n c=>F n c+if n=p.root then ft c else 0) (bk s.m p t) c=tot F s.m c+ft c:=by
  intro c;have:bk s.m p t=cM s.m p.root { B with cells:=match p.path with
    |[]=>B.cells.set p.off t
    |st::q=>match B.cells[p.off]? with
     |some (.ow sub l)=>B.cells.set p.off (.ow sub (cx sub l t.toD (st::q)))
     |_=>B.cells }:=by grind [bk]
  rw[this,dI,Gj h.mem.keys A]
 have E:tot F s.m b≠0:=by have:=bX (F:=F) (ak A) b;grind
 refine⟨M,N,bk s.m p t,_,k1,⟨J,?_,h.nt,h.df,fun i=>dy u (fun _ _ _ h=>h) (h.t i)⟩,u,r⟩;refine⟨by simp only[World.size_setCell];exact h.fr.size,h.fr.os,h.fr.tape,h.fr.output,fun j hj h0=>?_,h.fr.hold,h.fr.hnew,fun c hc=>?_,fun c h0=>(h.fr.nz.1 c h0).setCell,fun c o x l d h1 h2=>(h.fr.nz.2 c o x l d h1 h2).setCell⟩
 ·rw[jI]
  ·exact h.fr.block j hj h0
  ·intro e;subst e;rcases h.fr.tt j E with h1|h1
   all_goals omega
 ·rw[r]at hc;by_cases hf:ft c=0
  ·exact h.fr.tt c kQ1
  grind
end
theorem xW:∀(p:List Step)(i j:Nat),ba (ba p i) j=ba p (i+j):=by
 intro p;induction p with
 |nil=>intros;rfl
 |cons a b ih=>
  intro i j;cases b with
  |nil=>grind [ba]
  |cons c d=>
   have:=ih i j
   simp only[ba]at this⊢;cases hd:ba (c::d) i<;>grind [ba,ll]
theorem Zu(p:Pl)(i j:Nat):(p.add i).add j=p.add (i+j):=by
 obtain⟨n,o,path⟩:=p;cases path<;>grind [Pl.add,xW,ll]
theorem JJ{t:T}(h:t.ment n=false):t.kill (bU n)=t:=by
 cases t<;>grind [T.ment,T.kill,bU]
def wQ(P:Program)(s:S)(t:TypeId)(x v:AV)(k:S->Prop):Prop:=
 match x,fh v with
 |.one (.c (.pl p)),some ts=>(ty P t).ok=true/\ts.length=(ty P t).size/\jd s.m p (ts.length - 1)/\dH s p ts k
 |_,_=>False
section
variable {P:Program} {g:G} {s:S} {a:Act} {w:World} {H:FH} {γ:Gam} {F:Nm->Fp}
theorem On{b k:Nat}{z:Value}(hv:oT v=true)(hc:w.cell? ⟨b,k,none⟩=some z)(hf:w.frozen? ⟨b,k,none⟩=false) :
  (store ⟨b,k,none⟩ v).run P w=.ok () (w.setCell ⟨b,k,none⟩ v):=by
 cases v<;>first|(simp[oT]at hv;done)|grind [store,Sem.run]
theorem OE:∀(ts:List T)(vs:List Value)(s:S)(w:World)(γ:Gam)(F:Nm->Fp)(p:Pl)(b k0 i:Nat)(K:S->Prop),RX g s a w H γ F ->
  (∀j,j<ts.length->cj s.m (p.add j)/\plA w γ (p.add j)=some ⟨b,k0+i+j,none⟩)->vs.length=ts.length->Ts (TR w H γ s.m) ts (fun _=>0) vs->dH s p ts K ->
  ∃s' w' γ' F',(storeCells ⟨b,k0,none⟩ vs i).run P w=.ok () w'/\K s'/\RX g s' a w' H γ' F':=by
 intro ts;induction ts with
 |nil=>
  intro vs s w γ F p b k0 i K h _ hl _ A;cases vs with
  |nil=>exact⟨s,w,γ,F,rfl,A,h⟩
  |cons _ _=>grind
 |cons t ts ih=>
  intro vs s w γ F p b k0 i K h G hl Y A;cases vs with
  |nil=>grind
  |cons v vs=>
  obtain⟨v',r,f1,f2,hv,hf,I,y⟩:=Y;simp only[List.cons.injEq]at hv;obtain⟨rfl,rfl⟩:=hv;have ad:f1=fun _=>0:=by grind
  have ab:f2=fun _=>0:=by grind
  subst ad;subst ab;obtain⟨M,O⟩:=G 0 (by simp);rw[add_zero]at M O;simp only[Nat.add_zero]at O;have R:∀(s1:S)(F1:Nm->Fp)(t1:T)(ft:Fp)(Q:S->Prop),RX g s1 a w H γ F1->(∀j,j < (t::ts).length->cj s1.m (p.add j)/\plA w γ (p.add j)=some ⟨b,k0+i+j,none⟩) ->
    TR w H γ s1.m t1 ft v->oT v=true->(∀c,tot F1 s1.m c+ft c<=1)->(∀c,ft c≠0->c<w.heap.size/\∀o,H c o=none)->(∀c,ft c≠0->g.own0 c≠0\/g.w0.heap.size<=c) ->
    Ts (TR w H γ s1.m) ts (fun _=>0) vs->sZ s1.m p t1 (fun m'=>dH ⟨s1.t,m'⟩ (p.add 1) ts Q) ->
    ∃s' w' γ' F',(storeCells ⟨b,k0,none⟩ (v::vs) i).run P w=.ok () w'/\Q s'/\RX g s' a w' H γ' F':=by
   intro s1 F1 t1 ft Q h1 J ac C hd V hnew L hp;obtain⟨E,B⟩:=J 0 (by simp);rw[add_zero]at E B;simp only[Nat.add_zero]at B;obtain⟨⟨z,c1⟩,c2,m',F',c3,c4,c5,_⟩:=Vx h1 E B hp ac C hd V hnew;obtain⟨s',w',γ',aj,e1,e2,e3⟩:=ih vs ⟨s1.t,m'⟩ (w.setCell ⟨b,k0+i,none⟩ v) γ F' (p.add 1) b k0 (i+1) Q c4 (fun j hj=>by
     grind [Zu,Keeps.pl]) (by grind) (pb c5 (fun _ _ _ h=>h) (fun _ hb=>absurd rfl hb) L) c3
   grind [storeCells,Sem.run_bind,dA,On,Result.andThen_ok]
  have le:=fun c=>h.mem.le1 c
  have k:t.sure=true->t.owned=false->(∀q,t≠.rf q)->sZ s.m p t (fun m'=>dH ⟨s.t,m'⟩ (p.add 1) ts K)->∃s' w' γ' F',(storeCells ⟨b,k0,none⟩ (v::vs) i).run P w=.ok () w'/\K s'/\RX g s' a w' H γ' F':=by
   intro hs _ _ hp;exact R s F t (fun _=>0) K h G I (ve h.mem I hs) (fun c=>by grind) (fun c hc=>absurd rfl hc) (fun c hc=>absurd rfl hc) y hp
  cases t with
  |rf q=>
   obtain⟨n,o,path⟩:=q;simp only[dH]at A;cases hr:af s.m n with
   |none=>grind
   |some rr=>
    rw[hr]at A;obtain⟨blk,cells⟩:=rr
    match blk,cells,A,hr with
    |false,[.ow sub l],aa,W=>
     obtain⟨hp,ae,U,N⟩:=aa
     try dsimp only at hp ae U N
     subst hp;obtain⟨u,f,hg,hT,h1,ag⟩:=Ik h W;have X:u=v:=by
      obtain⟨_,ai,ah⟩:=I
      grind [plV,aI]
     subst X;have D:∀c,f c≠0->tot F s.m c≠0:=fun c hc=>by grind
     have C:oT u=true:=ve h.mem (hT s.m) rfl
     refine R (s.drop n) F (.ow sub l) f K h1 (fun j hj=>?_) (hT _) C (fun c=>by grind) (fun c hc=>⟨h.mem.lt c (D c hc),h.mem.nofz c (D c hc)⟩) (fun c hc=>h.fr.tt c (D c hc)) ?_ N
     ·obtain⟨q1,q2⟩:=G j hj;have Z:(p.add j).root=p.root:=by
       grind [Pl.add]
      obtain⟨q3,q4⟩:=(fp (w:=w) (γ:=γ) (m:=s.m) (n:=n)).pl (p.add j) (by grind [bU]) q1;exact⟨q3,by omega⟩
     ·have:=tQ (fp (w:=w) (γ:=γ) (m:=s.m) (n:=n)) (fun _ _ _ h=>h) (fun _ hb=>absurd rfl hb) y
      have e:ts.map (·.kill (bU n))=ts:=by
       rw[ajG (g:=id)]
       ·simp
       grind [JJ]
      rw[e]at this;exact this
  |any=>exact A.elim
  |d x=>
   cases x with
   |any=>exact A.elim
   |_=>exact k rfl rfl (fun q h=>by simp at h) A
  |nil=>exact k rfl rfl (fun q h=>by simp at h) A
  |ow sub l=>
   refine R s F (.ow sub l) (fun _=>0) K h G I (ve h.mem I rfl) (fun c=>by grind) (fun c hc=>absurd rfl hc) (fun c hc=>absurd rfl hc) y A
  |mp l=>obtain⟨b',_,_,_,_,_,_,_,h5⟩:=I;exact absurd (h5 b') (by simp)
  |it c l=>obtain⟨b',_,_,_,_,_,_,_,h5⟩:=I;exact absurd (h5 b') (by simp)
  |el row off=>exact k rfl rfl (fun q h=>by simp at h) A
  |pl q=>exact k rfl rfl (fun q h=>by simp at h) A
theorem Um(h:RX g s a w H γ F){x v:AV}{k:S->Prop}{u l:Value}(e:wQ P s t x v k)(hx:AR w H γ s.m x u)(hv:AR w H γ s.m v l) :
  ∃s' w' γ' F',(Instr.storeAt t u l).run P w=.ok () w'/\k s'/\RX g s' a w' H γ' F':=by
 unfold wQ at e
 match x,e with
 |.one (.c (.pl p)),e=>
  cases hc:fh v with
  |none=>grind
  |some ts=>
   rw[hc]at e;obtain⟨o,y,q,e⟩:=e;obtain⟨it,d,hit,_⟩:=jE o;obtain⟨hz,i,ad,r,rfl⟩:=hx;obtain⟨b,k0,rfl⟩:=pT h.mem i r;have f:l.cells.size=ts.length/\Ts (TR w H γ s.m) ts (fun _=>0) l.cells.toList:=by
    match v,hc with
    |.one (.c t'),hc=>
     simp only[fh,aiX]at hc;subst hc;have hs:t'.sure=true:=by
      cases t' with
      |any=>exact e.elim
      |d x=>cases x<;>first|rfl|exact e.elim
      |_=>rfl
     exact yM h.mem (x:=.one (.c t')) hv rfl (by simp[hs])
    |.one (.agg ts'),hc=>
     simp only[fh,aiX]at hc;subst hc;obtain⟨z,rfl,h1,h2⟩:=hv;exact⟨h1,h2⟩
   have n:∀j,j<ts.length->jd s.m p j:=by
    grind [jd]
   obtain⟨s',w',γ',F',B,A,C⟩:=OE (P:=P) ts l.cells.toList s w γ F p b k0 0 k h (fun j hj=>⟨AT i (n j hj),by rw[yA r];rfl⟩) (by grind) f.2 e
   grind [Instr.storeAt,Instr.sureAddr,Sem.run_bind,Result.andThen_ok,storeVar,cG,lN]
end
end Go.Am
end
