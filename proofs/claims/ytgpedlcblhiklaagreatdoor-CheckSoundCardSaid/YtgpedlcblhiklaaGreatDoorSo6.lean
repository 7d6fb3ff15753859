/-
  Part 6: AmIndex · AmBuild · AmMake · AmAlloc · AmWrite · AmStoreOp.
-/
import Derived.Test.YtgpedlcblhiklaaGreatDoorSo5
import Derived.Laws.Tables
set_option linter.unusedSimpArgs false
set_option linter.unusedVariables false
set_option linter.unusedSectionVars false
set_option linter.unnecessarySimpa false
section
namespace Go.Am
variable{i:Nat}{k:AV->Prop}{l:List (List D)}{p:Pl}{sub:List Sh}{t:TypeId}{u v:Value}{x:AV}
section
variable {P:Program} {w:World} {H:FH} {γ:Gam} {m:Mm}
theorem NP:∀(p:List Step)(y:Value)(st:Step)(b k:Nat)(v:Value),bm w y p=some ⟨b,k,none⟩->w.cell? ⟨b,k,none⟩=some v->bm w y (p++[st])=bm w v [st]:=by
 intro p;induction p with
 |nil=>grind [bm]
 |cons s r ih=>
  intro y st b k v h hv;cases y with
  |slice a len c=>
   cases a with
   |none=>grind [bm]
   |some a=>
    obtain⟨b0,o,sp⟩:=a;cases sp with
    |some _=>grind [bm]
    |none=>
     cases r<;>grind [bm]
  |_=>grind [bm]
theorem Ws:∀(p:List Step)(a sub:List Sh)(b l:List (List D))(st:Step),okO a b p->bD a b p=some (.ow sub,.li l)->okO sub l [st]->okO a b (p++[st]):=by
 intro p;induction p with
 |nil=>intro a sub b l st h;exact h.elim
 |cons s r ih=>
  intro a sub b l st h hl c;cases r<;>grind [bD,okO]
theorem Zu{F:Nm->Fp}(b:Mem w H γ m F)(a:bZ m p){st:Step}(hv:plV w γ p=some u):plA w γ { p with path:=p.path++[st] }=bm w u [st]:=by
 obtain⟨n,off,path⟩:=p;cases path with
 |nil=>
  grind [plV,plA]
 |cons s r=>
  simp only[plV]at hv;simp only[plA,ahS];cases hc:aH w (γ n) off with
  |none=>grind
  |some v=>
   rw[hc]at hv;simp only[Option.bind_some]at hv⊢;cases hw:bm w v (s::r)<;>grind [plA,pC,NP]
theorem Zl(a:bZ m p)(b:aW m p=some (.ow sub l))(hi:i<l.length)(h0:sub.length≠0):bZ m (p.at i sub.length):=by
 obtain⟨r,h1,h2⟩:=ax.1 a;obtain⟨n,off,path⟩:=p;dsimp only at h1 h2;unfold aW at b
 grind [ax,okO,Pl.at,aR,Ws]
theorem BH{F:Nm->Fp}(A:Mem w H γ m F){i:AV}(h:gy P m t x i k)(hx:AR w H γ m x u)(hi:AR w H γ m i v) :
  ∃z d,(∀w:World,(Instr.indexAt t u v).run P w=.ok z w)/\AR w H γ m d z/\k d:=by
 match i,h with
 |.one (.c (.d (.int κ n))),h=>
 obtain⟨rfl,_⟩:=mZ hi;simp only[gy]at h;cases hk:(ty P t).k with
 |sl e=>
  rw[hk]at h;obtain⟨_,d,_,hd,he,_⟩:=aV hk (by simp);obtain rfl:=oD he;have hel:P.elem t=e:=by simp[Program.elem,hd]
  match x,h with
  |.one (.c (.d (.li l))),h=>
   obtain⟨g,h0,h⟩:=h;obtain⟨it,_,hit,_⟩:=jq g;have hn:n.toNat<l.length:=by
    grind
   have h:∀row,l[n.toNat]? = some row->row.length=(ty P e).size/\k (.one (.c (.el row 0))):=fun row hr=>by grind
   have r:l[n.toNat]? = some l[n.toNat]:=af1 hn
   obtain⟨D,hk⟩:=h _ r;obtain⟨a,c,rfl,hc,hb,s⟩:=gk hx.2;rcases s with s|⟨b,o,e',q,rfl,B⟩
   ·grind
   ·have J:l.getD n.toNat []=l[n.toNat]:=by grind
    obtain⟨g1,g2⟩:=B n.toNat hn;rw[J]at g1 g2;have K:e'=P.cellsOf e:=by grind [lB]
    refine⟨.pointer (some ⟨b,o+n.toNat*P.cellsOf e,none⟩),.one (.c (.el l[n.toNat] 0)),?_,⟨fun _=>rfl,b,o+n.toNat*P.cellsOf e,q,by simp,fun j hj=>?_⟩,hk⟩
    all_goals grind [run_indexAt_slice,cz,Result.andThen_ok,dx]
  |.one (.c (.rf p)),h=>
   obtain⟨g,G,h⟩:=h;obtain⟨it,_,hit,_⟩:=jq g;obtain⟨tt,h1,h2,h3,h4,f,h5⟩:=WY A hx h;cases tt with
   |ow sub l=>
    obtain⟨⟨M,q2⟩,L,I⟩:=h1;have hn:n.toNat<l.length:=by omega
    obtain⟨j,h5⟩:=h5;cases j with
    |zero=>simp[OD]at h5
    |succ j=>
     obtain⟨a,c,_,_,rfl,_,_,_,_,_,s⟩:=lZ h5;rcases s with⟨hl,_⟩|⟨b,cs,tt,fz,rfl,_⟩
     ·omega
     ·refine⟨.pointer (some ⟨b,0+n.toNat*P.cellsOf e,none⟩),.one (.c (.pl (p.at n.toNat (ty P e).size))),?_,⟨fun _=>rfl,?_,⟨b,0+n.toNat*P.cellsOf e,none⟩,?_,rfl⟩,I⟩
      ·grind [run_indexAt_slice,cz,Result.andThen_ok,dx]
      ·grind [Zl]
      ·rw[Pl.at,Zu A h3 h4,<- lB g];rfl
   |_=>grind
 |ar N e=>
  rw[hk]at h;obtain⟨_,d,_,hd,he,_⟩:=aV hk (by simp);obtain rfl:=aa6 he;have hel:P.elem t=e:=by simp[Program.elem,hd]
  have E:P.arrayLen t=N:=by simp[Program.arrayLen,hd]
  match x,h with
  |.one (.c (.pl p)),h=>
   obtain⟨g,⟨h0,h1⟩,hr,h⟩:=h;obtain⟨it,_,hit,_⟩:=jq g;obtain⟨hz,y,a,C,rfl⟩:=hx;obtain⟨b,o,rfl⟩:=pC A y C;refine⟨.pointer (some ⟨b,o+n.toNat*P.cellsOf e,none⟩),.one (.c (.pl (p.add (n.toNat*(ty P e).size)))),?_,⟨fun _=>rfl,AE y hr,_,yg C,by rw[lB g]⟩,h⟩
   grind [run_indexAt_array,cz,Result.andThen_ok,dx]
  |.one (.c (.el row o)),h=>
   obtain⟨g,⟨h0,h1⟩,h⟩:=h;obtain⟨it,_,hit,_⟩:=jq g;obtain⟨hz,b,o',q,rfl,r⟩:=hx;refine⟨.pointer (some ⟨b,o'+o+n.toNat*P.cellsOf e,none⟩),.one (.c (.el row (o+n.toNat*(ty P e).size))),?_,⟨fun _=>rfl,b,o',q,by grind [lB],r⟩,h⟩
   grind [run_indexAt_array,cz,Result.andThen_ok,dx]
 |_=>grind
theorem EY(h:mI x k)(hx:AR w H γ m x u):(∃a,u=.pointer (some a))/\k x:=by
 match x,h with
 |.one (.c (.pl p)),h=>obtain⟨_,_,a,_,rfl⟩:=hx;exact⟨⟨a,rfl⟩,h⟩
 |.one (.c (.el row o)),h=>obtain⟨_,b,o',q,rfl,_⟩:=hx;exact⟨⟨_,rfl⟩,h⟩
end
theorem Sx{ts:List T}{j:Nat}{t:T}(h:(uA p ts)[j]? = some t):∃t',ts[j]? = some t'/\t=B6 (p.add j) t':=by
 grind [uA]
theorem uB{ts:List T}:(uA p ts).length=ts.length:=by simp[uA]
def I1:AV->Bool
 |.one (.c (.el _ _))=>true
 |_=>false
variable{y:Value}
section
variable {P:Program} {w:World} {H:FH} {γ:Gam} {m:Mm}
theorem Pf{t:T}{f:Fp}(h:TR w H γ m t f y):Wu t:=by
 cases t with
 |d x=>exact M2 h.2
 |_=>trivial
theorem JL:∀{ts:List T},(∀(i:Nat)(t:T),ts[i]? = some t->Wu t)->Pg ts
 |[],_=>trivial
 |t::ts,h=>⟨h 0 t rfl,JL (fun i t' a=>h (i+1) t' (by grind))⟩
theorem Ph:∀{ds:List D},(∀(i:Nat)(x:D),ds[i]? = some x->okv x)->okvs ds
 |[],_=>trivial
 |x::ds,h=>⟨h 0 x rfl,Ph (fun i x' hx=>h (i+1) x' (by grind))⟩
theorem lc{p:Nat->Value->Prop}:∀n,(∀j,j<n->∃v,p j v)->∃l:List Value,l.length=n/\∀(j:Nat)(v:Value),l[j]? = some v->p j v
 |0,_=>⟨[],rfl,fun j v h=>by simp at h⟩
 |n+1,h=>by
  obtain⟨l,h1,h2⟩:=lc n (fun j hj=>h j kQ1);obtain⟨v,hv⟩:=h n kQ1;refine⟨l++[v],by simp[h1],fun j a hj=>?_⟩
  grind
theorem Ap{F:Nm->Fp}(G:Mem w H γ m F)(h:uf P m t x k)(hx:AR w H γ m x u) :
  ∃z d,∃B:Nat->Prop,(I1 x=true->∀b,B b->∃o y,H b o=some y)/\(∀w2:World,(∀b,B b->w2.heap[b]? = w.heap[b]?)->(Instr.loadAt t u).run P w2=.ok z w2)/\AR w H γ m d z/\k d:=by
 obtain⟨K,h⟩:=h;obtain⟨it,d,hit,hd,I,ad,_⟩:=jq K;have S:(ty P t).size=P.cellsOf t:=lB K
 match x,h with
 |.one (.c (.el row o)),h=>
  obtain⟨hz,b,o',q,rfl,n⟩:=hx;have cell:∀j,j<row.length->∃y,w.cell? ⟨b,o'+j,none⟩=some y/\FD H q (row.getD j default) y:=fun j hj=>by
   obtain⟨y,h1,h2⟩:=n j hj;exact⟨y,G.agree _ _ _ h1,h2⟩
  have J:∀j,j<row.length->b=b/\∃o y,H b o=some y:=fun j hj=>by
   obtain⟨y,h1,h2⟩:=n j hj;grind
  have L:I1 (.one (.c (.el row o)))=true->∀c,(c=b/\∃o y,H b o=some y)->∃o y,H c o=some y:=fun _ c⟨e,h⟩=>by grind
  dsimp only at h;split at h
  ·rename_i E;rw[E]at I;obtain⟨hl,h⟩:=h;obtain⟨us,O,s⟩:=lc (p:=fun j v=>w.cell? ⟨b,o'+o+j,none⟩=some v/\FD H q (row.getD (o+j) default) v) (ty P t).size (fun j hj=>by
    grind)
   have Z:((row.drop o).take (ty P t).size).length=(ty P t).size:=by grind
   have A:∀(j:Nat)(x:D),((row.drop o).take (ty P t).size)[j]? = some x->∃v,us[j]? = some v/\FDx H x v:=by
    intro j x hj;have X:j < (ty P t).size:=by grind
    rw[List.getElem?_take_of_lt X,ah2]at hj;have V:us[j]? = some (us[j]' kQ1):=af1 kQ1
    refine⟨_,V,q,?_⟩
    grind
   refine⟨.agg us.toArray,.one (.agg (((row.drop o).take (ty P t).size).map T.d)),fun c=>c=b/\∃o y,H b o=some y,L,?_,⟨us.toArray,rfl,by grind,?_⟩,h (Ph (fun i x hx=>?_))⟩
   ·intro w2 g;exact mP hd (by grind) hit kQ1 (fun j v hv=>(dF (g b (J (o+j) (by grind)))).trans (s j v hv).1)
   ·refine tj (by grind) (fun i t' M=>?_);simp only[af5,agG]at M;obtain⟨x,hx,rfl⟩:=M;obtain⟨v,ac,U⟩:=A i x hx;exact⟨v,by omega,fun _=>rfl,U⟩
   grind [M2]
  ·rename_i E;have C:tw d=false:=by grind
   cases hr:row[o]? with
   |none=>grind
   |some x=>
    rw[hr]at h;obtain⟨y,h1,h2⟩:=cell o (bY hr);rw[List.getD,hr]at h2;exact⟨y,sc x,fun c=>c=b/\∃o y,H b o=some y,L,fun w2 g=>mQ hd C ((dF (g b (J o (bY hr)))).trans h1),⟨fun _=>rfl,q,h2⟩,h (M2 ⟨q,h2⟩)⟩
 |.one (.c (.pl p)),h=>
  obtain⟨hz,l,a,E,rfl⟩:=hx;obtain⟨b,o,rfl⟩:=pC G l E;dsimp only at h;split at h
  ·rename_i r;rw[r]at I;obtain⟨ts,Y,R,Q⟩:=Lx G l h;obtain⟨us,O,s⟩:=lc (p:=fun j v=>w.cell? ⟨b,o+j,none⟩=some v/\∀t',ts[j]? = some t'->TR w H γ m (B6 (p.add j) t') (fun _=>0) v/\∃f,TR w H γ m t' f v) (ty P t).size (fun j hj=>by
    have N:ts[j]? = some (ts[j]' kQ1):=af1 kQ1
    obtain⟨g1,g2⟩:=Q j _ N;obtain⟨v,v1,W,v3,v4⟩:=qL G g2 g1;refine⟨v,W _ (yg E),fun t' ab=>?_⟩
    grind)
   refine⟨.agg us.toArray,.one (.agg (uA p ts)),fun c=>c=b,fun h=>(by simp[I1]at h),?_,⟨us.toArray,rfl,by grind [uB],?_⟩,R (JL (fun i t' M=>?_))⟩
   ·intro w2 g;exact mP hd (by grind) hit kQ1 (fun j v hv=>(dF (g b rfl)).trans (s j v hv).1)
   ·refine tj (by grind [uB]) (fun i t' M=>?_);obtain⟨t2,h2,rfl⟩:=Sx M;have hi:i<us.length:=by grind
    simp_all
   ·have hi:i<us.length:=by grind
    have aa:us[i]? = some us[i]:=af1 hi
    grind [Pf]
  ·rename_i r;have C:tw d=false:=by grind
   obtain⟨ts,Y,R,Q⟩:=Lx G l h
   match ts,Y with
   |[t'],_=>
    obtain⟨g1,g2⟩:=Q 0 t' rfl;rw[add_zero]at g1 g2;obtain⟨v,v1,W,v3,f,v4⟩:=qL G g2 g1;exact⟨v,.one (.c (B6 p t')),fun c=>c=b,fun h=>(by simp[I1]at h),fun w2 g=>mQ hd C ((dF (g b rfl)).trans (W _ E)),v3,R (Pf v4)⟩
theorem Q9(h:vF P t x i k)(hx:AR w H γ m x u) :
  ∃z d,(∀w:World,(Instr.field t u i).run P w=.ok z w)/\AR w H γ m d z/\k d:=by
 unfold vF at h;cases hk:(ty P t).k with
 |st fs=>
  rw[hk]at h
  match x,h with
  |.one (.agg ts),h=>
   obtain⟨_,d,_,hd,he,_⟩:=aV hk (by simp);obtain⟨e,rfl,rfl⟩:=aa7 he;obtain⟨us,rfl,s,g⟩:=hx;dsimp only at h;cases hf:(e.toList.map fun f=>(f.offset,P.cellsOf f.type,Uk P f.type))[i]? with
   |none=>grind
   |some q=>
    obtain⟨off,size,l⟩:=q;rw[hf]at h;simp only[af5,agG,Prod.mk.injEq]at hf;obtain⟨f,p,rfl,rfl,b⟩:=hf;have n:e[i]? = some f:=by grind
    have a:∀w:World,(Instr.field t (.agg us) i).run P w=(part f.type us f.offset).run P w:=by
     intro w;simp only[Instr.field,Sem.run_bind,run_underlying hd,Result.andThen_ok,n];rfl
    simp only[a];have hus:us=us.toList.toArray:=by simp
    cases l with
    |none=>grind
    |some l=>
    simp only[Uk,agG]at b;obtain⟨r,h1,h2⟩:=b;cases l with
    |false=>
     dsimp only at h;cases o:ts[f.offset]? with
     |none=>grind
     |some t'=>
      rw[o]at h;obtain⟨v,hv,j⟩:=D8 g o;refine⟨v,.one (.c t'),?_,j,h⟩;intro w;rw[hus];grind [iX]
    |true=>
     obtain⟨hl,h⟩:=h;obtain⟨it,h3⟩:=EC h1;refine⟨.agg ((us.toList.drop f.offset).take (P.cellsOf f.type)).toArray,.one (.agg ((ts.drop f.offset).take (P.cellsOf f.type))),?_,⟨_,rfl,?_,?_⟩,h⟩
     ·intro w;rw[hus];grind [lO]
     all_goals grind [tj,D8]
 |_=>grind
end
def T.sure:T->Bool
 |.any=>false
 |.d .any=>false
 |_=>true
def eT:AV->Option (List T)
 |.one (.c t)=>some [t]
 |.one (.agg ts)=>some ts
 |_=>none
variable{α:Type}
def overw(ts:List α)(off:Nat)(cs:List α):List α:=ts.take off++cs++ts.drop (off+cs.length)
def jD(pl:Nat->Option (Nat×Nat)):List T->List (Nat×AV)->Option (List T)
 |ts,[]=>some ts
 |ts,(i,x)::r=>match pl i,eT x with
  |some (off,size),some cs=>if cs.length=size/\off+cs.length<=ts.length/\cs.all T.sure=true then jD pl (overw ts off cs) r else none
  |_,_=>none
def zst(P:Program)(t:TypeId):Option (List Value×List (Nat×Nat)):=
 match P.info? t,P.underlying t with
 |some it,some (.struct b)=>match it.zero,b.toList.mapM (fun f=>(P.info? f.type).map fun i=>(f.offset,i.size))with
  |some z,some a=>if z.cells.all okT=true then some (z.cells.toList,a)else none
  |_,_=>none
 |some it,some (.array N e)=>match it.zero,P.info? e with
  |some z,some c=>if z.cells.all okT=true then some (z.cells.toList,(List.range N).map fun i=>(i*c.size,c.size))else none
  |_,_=>none
 |_,_=>none
theorem C0{f g:Nat->Option (Nat×Nat)}(a:∀i q,f i=some q->g i=some q):∀{ps:List (Nat×Value)}{cs r:Array Value},Instr.fill f cs ps=some r->Instr.fill g cs ps=some r
 |[],_,_,h=>h
 |(i,v)::ps,cs,r,h=>by
  simp only[Instr.fill]at h⊢;cases hf:f i with
  |none=>grind
  |some q=>
   rw[hf]at h;rw[a _ _ hf];dsimp only at h⊢;split at h
   ·cases h
   ·rename_i hc;rw[if_neg hc];exact C0 a h
def rT(P:Program)(t:TypeId)(b:List (Nat×AV))(k:AV->Prop):Prop:=
 match zst P t with
 |some (zs,a)=>match jD (a[·]?) (zs.map ra) b with
  |some ts=>k (.one (.agg ts))
  |none=>False
 |none=>False
theorem C2:∀(cs:List Value)(j:Nat)(off:Nat)(b:Array Value)(i:Nat),
  ((cs.zipIdx j).foldl (fun a(x:Value×Nat)=>a.setIfInBounds (off+x.2) x.1) b)[i]? =
   if off+j<=i/\i<off+j+cs.length/\i<b.size then cs[i-off-j]? else b[i]?
 |[],j,off,b,i=>by
  grind [List.zipIdx_nil]
 |c::cs,j,off,b,i=>by
  rw[List.zipIdx_cons,ahJ,C2 cs (j+1) off _ i]
  grind
theorem zL:∀(cs:List Value)(j:Nat)(off:Nat)(b:Array Value),
  ((cs.zipIdx j).foldl (fun a(x:Value×Nat)=>a.setIfInBounds (off+x.2) x.1) b).size=b.size
 |[],j,off,b=>rfl
 |c::cs,j,off,b=>by
  rw[List.zipIdx_cons,ahJ,zL cs (j+1) off _];simp
variable{ts:List α}
section
variable {P:Program} {w:World} {H:FH} {γ:Gam} {m:Mm}
theorem uN{F:Nm->Fp}(A:Mem w H γ m F){t:T}{f:Fp}(h:TR w H γ m t f y)(hs:t.sure=true):oF y=true:=by
 have ow:∀{k:Nat}{sub:List Sh}{l:List (List D)}{g:Fp},OD w H k (.ow sub) (.li l) g y->oF y=true:=by
  intro k sub l g h;cases k with
  |zero=>simp[OD]at h
  |succ k=>obtain⟨a,c,_,_,rfl,_⟩:=lZ h;rfl
 cases t with
 |d x=>
  cases x with
  |int k n=>obtain⟨rfl,_⟩:=fp h.2;rfl
  |bool b=>obtain rfl:=iZ h.2;rfl
  |str l=>obtain⟨rfl,_⟩:=gS h.2;rfl
  |li l=>obtain⟨a,c,rfl,_⟩:=gk h.2;rfl
  |mp l=>obtain⟨b,rfl⟩:=Lb h.2;rfl
  |fn f l=>obtain⟨b,rfl⟩:=Tv h.2;rfl
  |v z=>obtain⟨_,q,h⟩:=h;cases q<;>(obtain⟨rfl,h⟩:=h;exact h)
  |any=>grind [T.sure]
 |nil=>obtain⟨_,rfl⟩:=h;rfl
 |ow sub l=>obtain⟨k,h⟩:=h;grind
 |mp l=>obtain⟨b,es,ck,_,rfl,_⟩:=h;rfl
 |it cur rest=>obtain⟨r,m,a,s,c,rfl,_⟩:=h;rfl
 |el row off=>obtain⟨_,b,o,q,rfl,_⟩:=h;rfl
 |pl p=>obtain⟨_,_,a,_,rfl⟩:=h;rfl
 |rf p=>
  obtain⟨_,hr,hv⟩:=h;have j:=fh hr
  have i:∃x,aW m p=some x/\((∃s l,x=.ow s l)\/(∃l,x=.mp l)\/∃c l,x=.it c l):=by
   obtain⟨r,u,hc⟩:=b9.1 hr;unfold bx at hc
   grind [aW]
  obtain⟨x,i,hx⟩:=i;obtain⟨v,e,_,_,f',v4⟩:=qL A j i;rw[hv]at e;simp only[af0]at e;subst e;rcases hx with⟨s,l,rfl⟩|⟨l,rfl⟩|⟨c,l,rfl⟩
  ·obtain⟨k,v4⟩:=v4
   grind
  ·obtain⟨b,es,ck,_,rfl,_⟩:=v4;rfl
  ·obtain⟨r,m,a,s,c,rfl,_⟩:=v4;rfl
 |any=>grind [T.sure]
theorem QX(h:oF y=true):y.cells=#[y]:=by
 cases y<;>first|rfl|grind [oF]
theorem yx{F:Nm->Fp}(d:Mem w H γ m F){cs:List T}(hx:AR w H γ m x v)(hc:eT x=some cs)(hs:cs.all T.sure=true) :
  v.cells.size=cs.length/\Ts (TR w H γ m) cs (fun _=>0) v.cells.toList:=by
 match x,hc with
 |.one (.c t),hc=>
  simp only[eT,af0]at hc;subst hc;have a:oF v=true:=uN d hx (by grind)
  rw[QX a];exact⟨rfl,v,[],fun _=>0,fun _=>0,rfl,fun _=>rfl,hx,fun _=>rfl⟩
 |.one (.agg ts),hc=>
  simp only[eT,af0]at hc;subst hc;obtain⟨b,rfl,h1,h2⟩:=hx;exact⟨h1,h2⟩
def PR(w:World)(H:FH)(γ:Gam)(m:Mm):List (Nat×AV)->List (Nat×Value)->Prop
 |[],[]=>True
 |(i,x)::xs,(j,v)::vs=>i=j/\AR w H γ m x v/\PR w H γ m xs vs
 |_,_=>False
theorem Se{cs:List α}{off:Nat}(h:off+cs.length<=ts.length):(overw ts off cs)[i]? = if off<=i/\i<off+cs.length then cs[i-off]? else ts[i]? := by
 unfold overw;have hl:(ts.take off).length=off:=by grind
 grind
theorem wa{cs:List α}{off:Nat}(h:off+cs.length<=ts.length):(overw ts off cs).length=ts.length:=by
 grind [overw]
theorem yb{F:Nm->Fp}(r:Mem w H γ m F){pl:Nat->Option (Nat×Nat)}:∀(b:List (Nat×AV))(vs:List (Nat×Value))(ts:List T)(us:Array Value)(ts':List T),
  PR w H γ m b vs->us.size=ts.length->Ts (TR w H γ m) ts (fun _=>0) us.toList->jD pl ts b=some ts' ->
  ∃d,Instr.fill pl us vs=some d/\d.size=ts'.length/\Ts (TR w H γ m) ts' (fun _=>0) d.toList:=by
 intro b;induction b with
 |nil=>
  intro vs ts us ts' hp hl n hf;cases vs with
  |cons _ _=>exact hp.elim
  |nil=>
   simp only[jD,af0]at hf;subst hf;exact⟨us,rfl,hl,n⟩
 |cons z b ih=>
  obtain⟨i,x⟩:=z;intro vs ts us ts' hp hl n hf;cases vs with
  |nil=>exact hp.elim
  |cons z vs=>
   obtain⟨j,v⟩:=z;obtain⟨rfl,hx,hp⟩:=hp;simp only[jD]at hf;cases l:pl i with
   |none=>grind
   |some q=>
    obtain⟨off,size⟩:=q;rw[l]at hf;cases h:eT x with
    |none=>grind
    |some cs=>
     rw[h]at hf;dsimp only at hf;split at hf
     ·rename_i f;obtain⟨h1,h2,h3⟩:=f;obtain⟨s,c2⟩:=yx r hx h h3;have e:v.cells.zipIdx.foldl (fun cs(c,j)=>cs.setIfInBounds (off+j) c) us=(v.cells.toList.zipIdx.foldl (fun a(x:Value×Nat)=>a.setIfInBounds (off+x.2) x.1) us):=by
       grind [Array.toList_zipIdx]
      have hget:=C2 v.cells.toList 0 off us
      have g:=zL v.cells.toList 0 off us
      generalize hus:v.cells.toList.zipIdx.foldl (fun a(x:Value×Nat)=>a.setIfInBounds (off+x.2) x.1) us=k at e hget g;have p:v.cells.toList.length=cs.length:=by omega
      have o:Ts (TR w H γ m) (overw ts off cs) (fun _=>0) k.toList:=by
       refine tj (by grind [wa]) (fun i t u=>?_)
       grind [Se,D8]
      grind [wa,Instr.fill]
     grind
end
variable{w':World}
theorem Fr.trans{w0 w:World}{H0 H H':FH}{own0 tt tt':Fp}(h:Fr w0 H0 own0 w H tt)(k:Fr w H tt w' H' tt'):Fr w0 H0 own0 w' H' tt':=by
 refine⟨ahK h.size k.size,k.os.trans h.os,k.tape.trans h.tape,k.output.trans h.output,fun i hi h0=>?_,fun b o y hy=>k.hold _ _ _ (h.hold _ _ _ hy),fun b o h1 h2=>?_,fun b hb=>?_,fun b hb=>k.nz.1 b (h.nz.1 b hb),fun b o x l c h1 h2=>?_⟩
 ·have:tt i=0:=by
   rcases agY (tt i)with h'|h'
   ·exact h'
   ·rcases h.tt i kQ1 with h1|h1<;>omega
  rw[k.block i (by have:=h.size;omega) this];grind [block]
 ·by_cases hH:H b o=none
  ·rcases k.hnew b o h1 hH with h3|h3
   ·exact h.tt b h3
   ·right;have:=h.size;omega
  ·exact h.hnew b o hH h2
 ·rcases k.tt b hb with h1|h1
  ·exact h.tt b h1
  ·right;have:=h.size;omega
 ·cases hH:H b o with
  |none=>grind [nz]
  |some y=>
   have:=(k.hold b o y hH).symm.trans h1
   grind [nz,nz]
theorem Fr.refl'{w:World}{H:FH}{tt tt':Fp}(h1:w'.heap=w.heap)(h2:w'.os=w.os)(h3:w'.tape=w.tape)(h4:w'.output=w.output)(h5:∀b,tt' b≠0->tt b≠0):Fr w H tt w' H tt':=
 ⟨by grind,h2,h3,h4,fun _ _ _=>by rw[h1],fun _ _ _ h=>h,fun b o h1 h2=>absurd h2 h1,fun b hb=>.inl (h5 b hb),fun b hb=>hb.of_block (by rw[h1]),fun b o x l c h1 h2=>by grind⟩
variable{n:Nm}
section
variable {P:Program} {g:G} {s:S} {a:Act} {w:World} {H:FH} {γ:Gam} {F:Nm->Fp}
theorem jE(h:RX g s a w H γ F){H':FH}{γ':Gam}{m':Mm}{F':Nm->Fp}(d:Mem w' H' γ' m' F')(hf:Fr w H (tot F s.m) w' H' (tot F' m')){t':List (Nat×AV)}
  (f:∀i,AR w' H' γ' m' (aY t' i) (g.tv a i)) (c:∀j,γ' (.out j)=γ (.out j)):RX g ⟨t',m'⟩ a w' H' γ' F':=⟨d,h.fr.trans hf,h.nt,⟨h.df.1,fun j b e=>(c j).trans (h.df.2.1 j b e),h.df.2.2⟩,f⟩
theorem PK{γ:Gam}{x:RC}(hno:n.isOut=false)(j:Nat):upd γ n x (.out j)=γ (.out j):=by
 grind [upd,Nm.isOut]
theorem cP{w:World}{o:Obj}{k:Nat}(h:k<w.heap.size):(w.alloc o).heap[k]? = w.heap[k]? := by
 show(w.heap.push o)[k]? = _
 grind
theorem bu{w:World}{o:Obj}:(w.alloc o).heap[w.heap.size]? = some o:=by
 show(w.heap.push o)[w.heap.size]? = _
 grind
theorem pZ{m:Mm}(a:Mem w H γ m F)(cs:Array Value)(ty:TypeId)(fz:Bool) :
  let w':=w.alloc (.cells cs ty)
  let H':FH:=fun b o=>if fz=true/\b=w.heap.size then cs[o]?.map HV.c else H b o
  Mem w' H' γ m F/\Fr w H (tot F m) w' H' (tot F m)/\Keeps w γ m w' γ m/\(∀b o y,H b o=some y->H' b o=some y):=by
 intro w' H';have f:∀b o y,H b o=some y->b<w.heap.size:=fun b o y h=>(a.agree b o y h).lt
 have e:∀b o y,H b o=some y->H' b o=some y:=by
  grind
 have hold:∀k,k<w.heap.size->w'.heap[k]? = w.heap[k]? := fun k hk=>cP hk
 have g:=gl (w':=w') a (fun b hb=>hold b (a.lt b hb))
 have d:∀x∈m,∀b,F x.1 b≠0->b<w.heap.size:=fun x hx b hb=>a.lt b (by grind [bR])
 refine⟨⟨?_,?_,a.keys,a.le1,?_,?_⟩,⟨by simp[w'],rfl,rfl,rfl,fun k hk _=>hold k hk,e,?_,fun b hb=>.inl hb,fun b hb=>hb.of_block (hold b hb.lt),fun b o x l c h1 h2=>?_⟩,g,e⟩
 ·intro b o y hy;simp only[H']at hy;split at hy
  ·rename_i hc;obtain⟨z,hz,rfl⟩:=agG.1 hy;rw[hc.2];show w'.cell? ⟨w.heap.size,o,none⟩=some z
   grind [World.cell?,bu]
  ·exact(a.agree b o y hy).frame (hold b (f b o y hy))
 ·intro x hx;exact be g e rfl (fun b hb=>hold b (d x hx b hb)) (a.roots x hx)
 ·intro b hb;have:=a.lt b hb;grind
 ·intro b hb o;have:=a.lt b hb
  simp only[H'];rw[if_neg kQ1];exact a.nofz b hb o
 ·grind
 ·simp only[H']at h1;split at h1
  ·rename_i hc;rw[hc.2];exact⟨cs,ty,bu⟩
  grind
theorem T3(h:RX g s a w H γ F){n:Nm}(hno:n.isOut=false)(hn:ae s.m n=none){ts:List T}{cs:Array Value}(hl:cs.size=ts.length)(d:Ts (TR w H γ s.m) ts (fun _=>0) cs.toList)(ty:TypeId)(k:∀t,n.tyd=some t->ty=t) :
  ∃γ' F',RX g ⟨s.t,(n,⟨true,ts⟩)::s.m⟩ a (w.alloc (.cells cs ty)) H γ' F'/\γ' n=.blk w.heap.size:=by
 obtain⟨l,hf,j,p⟩:=pZ h.mem cs ty false;simp only[agA,false_and,if_false]at l hf j p;have c:=pY (w:=w.alloc (.cells cs ty)) (γ:=γ) (rc:=.blk w.heap.size) (r:=⟨true,ts⟩) hn
 have hz:tot F s.m w.heap.size=0:=by
  rcases agY (tot F s.m w.heap.size)with h'|h'
  ·exact h'
  ·have:=h.mem.lt w.heap.size kQ1;omega
 have u:∀o,H w.heap.size o=none:=by
  intro o;cases hc:H w.heap.size o with
  |none=>rfl
  |some y=>have:=(h.mem.agree _ _ _ hc).lt;omega
 obtain⟨e,q⟩:=DY l (n:=n) (rc:=.blk w.heap.size) (r:=⟨true,ts⟩) (f:=fun b=>0+if b=w.heap.size then 1 else 0) hn (by
   unfold bU;rw[if_pos rfl];refine⟨w.heap.size,cs,ty,(0,0),fun _=>0,fo,bu,⟨rfl,k⟩,hl,?_,fun _=>rfl⟩;exact oQ c (fun _ _ _ h=>h) (fun _ hb=>absurd rfl hb) (oQ j (fun _ _ _ h=>h) (fun _ hb=>absurd rfl hb) d))
  (fun b=>by
   grind [Mem.le1])
  (fun b hb=>by
   simp_all)
 refine⟨_,_,jE h e ?_ (fun i=>dv c (fun _ _ _ h=>h) (dv j (fun _ _ _ h=>h) (h.t i))) (PK hno),fo⟩;refine⟨hf.size,hf.os,hf.tape,hf.output,hf.block,hf.hold,hf.hnew,fun b hb=>?_,hf.nz⟩
 grind
theorem dL(h:RX g s a w H γ F){n:Nm}(hno:n.isOut=false)(hn:ae s.m n=none){t:T}{f:Fp}(l:TR w H γ s.m t f v)(hd:∀b,tot F s.m b+f b<=1)(hl:∀b,f b≠0->b<w.heap.size/\∀o,H b o=none)
  (hnew:∀b,f b≠0->g.own0 b≠0\/g.w0.heap.size<=b) :
  ∃γ' F',RX g ⟨s.t,(n,⟨false,[t]⟩)::s.m⟩ a w H γ' F'/\γ' n=.gh v:=by
 have c:=pY (w:=w) (γ:=γ) (rc:=.gh v) (r:=⟨false,[t]⟩) hn
 obtain⟨d,k⟩:=DY h.mem (n:=n) (rc:=.gh v) (r:=⟨false,[t]⟩) (f:=f) hn (by
   unfold bU;rw[if_neg (by simp)];exact⟨v,t,fo,rfl,i7 c (fun _ _ _ h=>h) (fun _ _=>rfl) l⟩) hd hl
 refine⟨_,_,⟨d,?_,h.nt,⟨h.df.1,fun j b e=>(PK hno j).trans (h.df.2.1 j b e),h.df.2.2⟩,fun i=>dv c (fun _ _ _ h=>h) (h.t i)⟩,fo⟩;refine⟨h.fr.size,h.fr.os,h.fr.tape,h.fr.output,h.fr.block,h.fr.hold,h.fr.hnew,fun b hb=>?_,h.fr.nz⟩;rw[k]at hb;by_cases hf:f b=0
 ·exact h.fr.tt b kQ1
 grind
end
def ik(sub:List Sh)(l:List (List D))(t:T):List Step->(List (List D)->Prop)->Prop
 |[],_=>False
 |[st],k=>match l[st.idx]? with
  |some x=>match sub[st.off]?,x[st.off]? with
   |some .fr,some _=>o6 .fr t/\k (l.set st.idx (x.set st.off t.toD))
   |some (.ow s),some .any=>o6 (.ow s) t/\k (l.set st.idx (x.set st.off t.toD))
   |_,_=>False
  |none=>False
 |st::b::r,k=>match l[st.idx]? with
  |some x=>match sub[st.off]?,x[st.off]? with
   |some (.ow s),some (.li l')=>ik s l' t (b::r) fun a=>k (l.set st.idx (x.set st.off (.li a)))
   |_,_=>False
  |none=>False
def sH(m:Mm)(p:Pl)(t:T)(k:Mm->Prop):Prop:=
 match ae m p.root with
 |none=>False
 |some r=>match p.path,r.cells[p.off]? with
  |[],some t0=>t0.owned=false/\k (cE m p.root { r with cells:=r.cells.set p.off t })
  |st::q,some (.ow sub l)=>ik sub l t (st::q) fun l'=>k (cE m p.root { r with cells:=r.cells.set p.off (.ow sub l') })
  |_,_=>False
def T.ment(n:Nm):T->Bool
 |.pl p=>decide (p.root=n)
 |.rf p=>decide (p.root=n)
 |_=>false
def S.drop(s:S)(n:Nm):S:=⟨oz (bO n) s.t,aM (bO n) (cm s.m n)⟩
def dC(s:S)(p:Pl):List T->(S->Prop)->Prop
 |[],k=>k s
 |.rf q::ts,k=>match ae s.m q.root with
  |some ⟨false,[.ow sub l]⟩=>q.path=[]/\q.root≠p.root/\(ts.all fun t=>!t.ment q.root)=true/\sH (s.drop q.root).m p (.ow sub l) fun m'=>dC ⟨(s.drop q.root).t,m'⟩ (p.add 1) ts k
  |_=>False
 |.any::_,_=>False
 |.d .any::_,_=>False
 |t::ts,k=>sH s.m p t fun m'=>dC ⟨s.t,m'⟩ (p.add 1) ts k
theorem W8:∀(p:List Step)(sub:List Sh)(l:List (List D))(t:T)(k:List (List D)->Prop),(∀N,wfO N sub l)->okO sub l p->ik sub l t p k ->
  k (cr sub l t.toD p)/\∃s x,bD sub l p=some (s,x)/\o6 s t/\∀s' l',(s,x)≠(.ow s',.li l'):=by
 intro p;induction p with
 |nil=>intro sub l t k _ h;exact h.elim
 |cons st r ih=>
  intro sub l t k e b a;cases r with
  |nil=>
   obtain⟨h1,h2,h3⟩:=b;have hx:l[st.idx]? = some l[st.idx]:=af1 h1
   have g:l.getD st.idx []=l[st.idx]:=by grind
   unfold ik at a;rw[hx]at a;dsimp only at a;cases hs:sub[st.off]? with
   |none=>grind
   |some s=>
    rw[hs]at a;cases hd:(l[st.idx])[st.off]? with
    |none=>grind
    |some d=>
     rw[hd]at a;have c:(l.getD st.idx []).getD st.off default=d:=by grind
     cases s with
     |fr=>
      refine⟨by grind [cr],.fr,d,by grind [bD],a.1,fun s' l' h=>by simp at h⟩
     |ow s=>
      cases d with
      |any=>exact⟨by grind [cr],.ow s,.any,by grind [bD],a.1,fun s' l' h=>by simp at h⟩
      |_=>grind
  |cons f u=>
   obtain⟨⟨h1,h2,h3⟩,b⟩:=b;have hx:l[st.idx]? = some l[st.idx]:=af1 h1
   have g:l.getD st.idx []=l[st.idx]:=by grind
   unfold ik at a;rw[hx]at a;dsimp only at a;cases hs:sub[st.off]? with
   |none=>grind
   |some s=>
    rw[hs]at b a;cases s with
    |fr=>grind
    |ow s=>
     cases hd:(l[st.idx])[st.off]? with
     |none=>grind
     |some d=>
      have c:(l.getD st.idx []).getD st.off default=d:=by grind
      rw[c]at b;rw[hd]at a;cases d with
      |li l'=>
       dsimp only at a b;obtain⟨k1,s1,i,k2,k3,k4⟩:=ih s l' t _ (fun N=>(e (N+1)).2 st.idx st.off s l' hs c) b a
       grind [cr,bD]
      |_=>grind
section
variable {P:Program} {g:G} {s:S} {a:Act} {w:World} {H:FH} {γ:Gam} {F:Nm->Fp}
theorem Zw{m:Mm}(d:Mem w H γ m F)(a:bZ m p){t:T}{k:Mm->Prop}(h:sH m p t k) :
  k (bh m p t)/\∃t0,aW m p=some t0/\t0.owned=false/\(p.path=[]\/∃s,ZQ m p=some s/\o6 s t):=by
 obtain⟨r,h1,h2⟩:=ax.1 a;obtain⟨nm,off,path⟩:=p;dsimp only at h1 h2;unfold sH at h;rw[h1]at h;dsimp only at h;cases path with
 |nil=>
  grind [bh,aW]
 |cons st u=>
  dsimp only[aR]at h2;cases b:r.cells[off]? with
  |none=>grind
  |some t0=>
   rw[b]at h2 h;cases t0 with
   |ow sub l=>
    dsimp only at h2 h;have c:∀N,wfO N sub l:=by
     intro N;obtain⟨v,g,_,⟨k,c2⟩,_⟩:=dX (d.roots _ (aj h1)) b
     grind [D2]
    obtain⟨k1,s,x,k2,k3,k4⟩:=W8 (st::u) sub l t _ c h2 h;refine⟨by grind [bh],mkT s x,?_,?_,.inr ⟨s,by grind [ZQ],k3⟩⟩
    ·simp only[aW,h1,b,k2];cases s with
     |fr=>rfl
     |ow s'=>cases x<;>rfl
    ·cases s with
     |fr=>rfl
     |ow s'=>cases x with
      |li l'=>grind
      |_=>rfl
   |_=>grind
theorem C9:aY (s.drop n).t i=(aY s.t i).kill (bO n):=sg _ _ _
theorem ZX{m:Mm}{r:Root}(hn:ae m n=some r)(b:Nat):tot F (cm m n) b+F n b=tot F m b:=by
 induction m<;>grind [ae,cm,eG]
theorem GB(h:RX g s a w H γ F)(hn:ae s.m n=some ⟨false,[.ow sub l]⟩) :
  ∃v f,γ n=.gh v/\(∀m',TR w H γ m' (.ow sub l) f v)/\RX g (s.drop n) a w H γ F/\(∀b,tot F (s.drop n).m b+f b<=tot F s.m b):=by
 have hr:=h.mem.roots _ (aj hn)
 unfold bU at hr;dsimp only at hr;rw[if_neg (by simp)]at hr;obtain⟨v,t,h1,h2,h3⟩:=hr;simp only[List.cons.injEq,and_true]at h2;subst h2;have c:∀b,tot F (s.drop n).m b+F n b<=tot F s.m b:=by
  intro b;have:tot F (s.drop n).m b=tot F (cm s.m n) b:=bk
  grind [ZX]
 refine⟨v,F n,h1,fun _=>h3,⟨DZ h.mem n,?_,h.nt,h.df,fun i=>?_⟩,c⟩
 ·refine⟨h.fr.size,h.fr.os,h.fr.tape,h.fr.output,h.fr.block,h.fr.hold,h.fr.hnew,fun b hb=>h.fr.tt b ?_,h.fr.nz⟩
  grind
 ·rw[C9];exact xS eY (fun _ _ _ h=>h) (h.t i)
theorem xU(h:RX g s a w H γ F)(n:Nm):RX g (s.drop n) a w H γ F:=by
 refine⟨DZ h.mem n,?_,h.nt,h.df,fun i=>?_⟩
 ·refine⟨h.fr.size,h.fr.os,h.fr.tape,h.fr.output,h.fr.block,h.fr.hold,h.fr.hnew,fun b hb=>h.fr.tt b ?_,h.fr.nz⟩;have e:tot F (s.drop n).m b=tot F (cm s.m n) b:=bk
  grind [fY]
 ·rw[C9];exact xS eY (fun _ _ _ h=>h) (h.t i)
theorem T9(h:RX g s a w H γ F)(f:bZ s.m p){b k:Nat}(E:plA w γ p=some ⟨b,k,none⟩){t:T}{K:Mm->Prop}(L:sH s.m p t K)
  {ft:Fp} {y:Value} (N:TR w H γ s.m t ft y) (u:oF y=true) (hd:∀c,tot F s.m c+ft c<=1) (hl:∀c,ft c≠0->c<w.heap.size/\∀o,H c o=none)
  (hnew:∀c,ft c≠0->g.own0 c≠0\/g.w0.heap.size<=c) :
  (∃z,w.cell? ⟨b,k,none⟩=some z)/\w.frozen? ⟨b,k,none⟩=false/\∃m' F',K m'/\RX g ⟨s.t,m'⟩ a (w.setCell ⟨b,k,none⟩ y) H γ F'/\Keeps w γ s.m (w.setCell ⟨b,k,none⟩ y) γ m' /\
   (∀c,tot F' m' c=tot F s.m c+ft c):=by
 obtain⟨k1,t0,k2,k3,k4⟩:=Zw h.mem f L;obtain⟨I,G,J⟩:=PY h.mem f k2 k3 E N u k4 hd hl;have hw:∀a,a≠(⟨b,k,none⟩:Addr)->(w.setCell ⟨b,k,none⟩ y).cell? a=w.cell? a:=fun a M=>World.cell?_setCell_other _ _ _ _ (fun e=>M e.symm)
 have B:=wW h.mem f k2 k3 (t:=t) E hw
 obtain⟨A,v,_⟩:=ax.1 f;have C:=(AN h.mem f E).1
 dsimp only at C;have r:∀c,tot (fun n c=>F n c+if n=p.root then ft c else 0) (bh s.m p t) c=tot F s.m c+ft c:=by
  intro c;have:bh s.m p t=cE s.m p.root { A with cells:=match p.path with
    |[]=>A.cells.set p.off t
    |st::q=>match A.cells[p.off]? with
     |some (.ow sub l)=>A.cells.set p.off (.ow sub (cr sub l t.toD (st::q)))
     |_=>A.cells }:=by grind [bh]
  rw[this,dD,Fz h.mem.keys v]
 have D:tot F s.m b≠0:=by have:=bR (F:=F) (aj v) b;grind
 refine⟨I,G,bh s.m p t,_,k1,⟨J,?_,h.nt,h.df,fun i=>dv B (fun _ _ _ h=>h) (h.t i)⟩,B,r⟩;refine⟨by simp only[World.size_setCell];exact h.fr.size,h.fr.os,h.fr.tape,h.fr.output,fun j hj h0=>?_,h.fr.hold,h.fr.hnew,fun c hc=>?_,fun c h0=>(h.fr.nz.1 c h0).setCell,fun c o x l d h1 h2=>(h.fr.nz.2 c o x l d h1 h2).setCell⟩
 ·rw[jt]
  ·exact h.fr.block j hj h0
  ·intro e;subst e;rcases h.fr.tt j D with h1|h1
   all_goals omega
 ·rw[r]at hc;by_cases hf:ft c=0
  ·exact h.fr.tt c kQ1
  grind
end
theorem xG:∀(p:List Step)(i j:Nat),aX (aX p i) j=aX p (i+j):=by
 intro p;induction p with
 |nil=>intros;rfl
 |cons a b ih=>
  intro i j;cases b with
  |nil=>grind [aX]
  |cons c d=>
   have:=ih i j
   simp only[aX]at this⊢;cases hd:aX (c::d) i<;>grind [aX,kY]
theorem XW(p:Pl)(i j:Nat):(p.add i).add j=p.add (i+j):=by
 obtain⟨n,o,path⟩:=p;cases path<;>grind [Pl.add,xG,kY]
theorem I4{t:T}(h:t.ment n=false):t.kill (bO n)=t:=by
 cases t<;>grind [T.ment,T.kill,bO]
def wx(P:Program)(s:S)(t:TypeId)(x v:AV)(k:S->Prop):Prop:=
 match x,eT v with
 |.one (.c (.pl p)),some ts=>(ty P t).ok=true/\ts.length=(ty P t).size/\iT s.m p (ts.length - 1)/\dC s p ts k
 |_,_=>False
section
variable {P:Program} {g:G} {s:S} {a:Act} {w:World} {H:FH} {γ:Gam} {F:Nm->Fp}
theorem Nv{b k:Nat}{z:Value}(hv:oF v=true)(hc:w.cell? ⟨b,k,none⟩=some z)(hf:w.frozen? ⟨b,k,none⟩=false) :
  (store ⟨b,k,none⟩ v).run P w=.ok () (w.setCell ⟨b,k,none⟩ v):=by
 cases v<;>first|(simp[oF]at hv;done)|grind [store,Sem.run]
theorem NI:∀(ts:List T)(vs:List Value)(s:S)(w:World)(γ:Gam)(F:Nm->Fp)(p:Pl)(b k0 i:Nat)(K:S->Prop),RX g s a w H γ F ->
  (∀j,j<ts.length->bZ s.m (p.add j)/\plA w γ (p.add j)=some ⟨b,k0+i+j,none⟩)->vs.length=ts.length->Ts (TR w H γ s.m) ts (fun _=>0) vs->dC s p ts K ->
  ∃s' w' γ' F',(storeCells ⟨b,k0,none⟩ vs i).run P w=.ok () w'/\K s'/\RX g s' a w' H γ' F':=by
 intro ts;induction ts with
 |nil=>
  intro vs s w γ F p b k0 i K h _ hl _ A;cases vs with
  |nil=>exact⟨s,w,γ,F,rfl,A,h⟩
  |cons _ _=>grind
 |cons t ts ih=>
  intro vs s w γ F p b k0 i K h G hl ad A;cases vs with
  |nil=>grind
  |cons v vs=>
  obtain⟨v',r,f1,f2,hv,hf,I,y⟩:=ad;simp only[List.cons.injEq]at hv;obtain⟨rfl,rfl⟩:=hv;have af:f1=fun _=>0:=by grind
  have X:f2=fun _=>0:=by grind
  subst af;subst X;obtain⟨N,M⟩:=G 0 (by simp);rw[add_zero]at N M;simp only[Nat.add_zero]at M;have go:∀(s1:S)(F1:Nm->Fp)(W:T)(ft:Fp)(Q:S->Prop),RX g s1 a w H γ F1->(∀j,j < (t::ts).length->bZ s1.m (p.add j)/\plA w γ (p.add j)=some ⟨b,k0+i+j,none⟩) ->
    TR w H γ s1.m W ft v->oF v=true->(∀c,tot F1 s1.m c+ft c<=1)->(∀c,ft c≠0->c<w.heap.size/\∀o,H c o=none)->(∀c,ft c≠0->g.own0 c≠0\/g.w0.heap.size<=c) ->
    Ts (TR w H γ s1.m) ts (fun _=>0) vs->sH s1.m p W (fun m'=>dC ⟨s1.t,m'⟩ (p.add 1) ts Q) ->
    ∃s' w' γ' F',(storeCells ⟨b,k0,none⟩ (v::vs) i).run P w=.ok () w'/\Q s'/\RX g s' a w' H γ' F':=by
   intro s1 F1 W ft Q h1 O ac E hd Z hnew L hp;obtain⟨B,C⟩:=O 0 (by simp);rw[add_zero]at B C;simp only[Nat.add_zero]at C;obtain⟨⟨z,c1⟩,c2,m',F',c3,c4,c5,_⟩:=T9 h1 B C hp ac E hd Z hnew;obtain⟨s',w',γ',ah,e1,e2,e3⟩:=ih vs ⟨s1.t,m'⟩ (w.setCell ⟨b,k0+i,none⟩ v) γ F' (p.add 1) b k0 (i+1) Q c4 (fun j hj=>by
     grind [XW,Keeps.pl]) (by grind) (oQ c5 (fun _ _ _ h=>h) (fun _ hb=>absurd rfl hb) L) c3
   grind [storeCells,Sem.run_bind,dx,Nv,Result.andThen_ok]
  have le:=fun c=>h.mem.le1 c
  have k:t.sure=true->t.owned=false->(∀q,t≠.rf q)->sH s.m p t (fun m'=>dC ⟨s.t,m'⟩ (p.add 1) ts K)->∃s' w' γ' F',(storeCells ⟨b,k0,none⟩ (v::vs) i).run P w=.ok () w'/\K s'/\RX g s' a w' H γ' F':=by
   intro hs _ _ hp;exact go s F t (fun _=>0) K h G I (uN h.mem I hs) (fun c=>by grind) (fun c hc=>absurd rfl hc) (fun c hc=>absurd rfl hc) y hp
  cases t with
  |rf q=>
   obtain⟨n,o,path⟩:=q;simp only[dC]at A;cases hr:ae s.m n with
   |none=>grind
   |some rr=>
    rw[hr]at A;obtain⟨blk,cells⟩:=rr
    match blk,cells,A,hr with
    |false,[.ow sub l],ab,R=>
     obtain⟨hp,U,V,J⟩:=ab
     try dsimp only at hp U V J
     subst hp;obtain⟨u,f,hg,hT,h1,ag⟩:=GB h R;have Y:u=v:=by
      obtain⟨_,ai,aj⟩:=I
      grind [plV,aH]
     subst Y;have D:∀c,f c≠0->tot F s.m c≠0:=fun c hc=>by grind
     have E:oF u=true:=uN h.mem (hT s.m) rfl
     refine go (s.drop n) F (.ow sub l) f K h1 (fun j hj=>?_) (hT _) E (fun c=>by grind) (fun c hc=>⟨h.mem.lt c (D c hc),h.mem.nofz c (D c hc)⟩) (fun c hc=>h.fr.tt c (D c hc)) ?_ J
     ·obtain⟨q1,q2⟩:=G j hj;have aa:(p.add j).root=p.root:=by
       grind [Pl.add]
      obtain⟨q3,q4⟩:=(eY (w:=w) (γ:=γ) (m:=s.m) (n:=n)).pl (p.add j) (by grind [bO]) q1;exact⟨q3,by omega⟩
     ·have:=th (eY (w:=w) (γ:=γ) (m:=s.m) (n:=n)) (fun _ _ _ h=>h) (fun _ hb=>absurd rfl hb) y
      have e:ts.map (·.kill (bO n))=ts:=by
       rw[agJ (g:=id)]
       ·simp
       grind [I4]
      rw[e]at this;exact this
  |any=>exact A.elim
  |d x=>
   cases x with
   |any=>exact A.elim
   |_=>exact k rfl rfl (fun q h=>by simp at h) A
  |nil=>exact k rfl rfl (fun q h=>by simp at h) A
  |ow sub l=>
   refine go s F (.ow sub l) (fun _=>0) K h G I (uN h.mem I rfl) (fun c=>by grind) (fun c hc=>absurd rfl hc) (fun c hc=>absurd rfl hc) y A
  |mp l=>obtain⟨b',_,_,_,_,_,_,_,h5⟩:=I;exact absurd (h5 b') (by simp)
  |it c l=>obtain⟨b',_,_,_,_,_,_,_,h5⟩:=I;exact absurd (h5 b') (by simp)
  |el row off=>exact k rfl rfl (fun q h=>by simp at h) A
  |pl q=>exact k rfl rfl (fun q h=>by simp at h) A
theorem SS(h:RX g s a w H γ F){x v:AV}{k:S->Prop}{r l:Value}(e:wx P s t x v k)(hx:AR w H γ s.m x r)(hv:AR w H γ s.m v l) :
  ∃s' w' γ' F',(Instr.storeAt t r l).run P w=.ok () w'/\k s'/\RX g s' a w' H γ' F':=by
 unfold wx at e
 match x,e with
 |.one (.c (.pl p)),e=>
  cases hc:eT v with
  |none=>grind
  |some ts=>
   rw[hc]at e;obtain⟨q,u,n,e⟩:=e;obtain⟨it,d,hit,_⟩:=jq q;obtain⟨hz,i,ad,y,rfl⟩:=hx;obtain⟨b,k0,rfl⟩:=pC h.mem i y;have f:l.cells.size=ts.length/\Ts (TR w H γ s.m) ts (fun _=>0) l.cells.toList:=by
    match v,hc with
    |.one (.c t'),hc=>
     simp only[eT,af0]at hc;subst hc;have hs:t'.sure=true:=by
      cases t' with
      |any=>exact e.elim
      |d x=>cases x<;>first|rfl|exact e.elim
      |_=>rfl
     exact yx h.mem (x:=.one (.c t')) hv rfl (by simp[hs])
    |.one (.agg ts'),hc=>
     simp only[eT,af0]at hc;subst hc;obtain⟨z,rfl,h1,h2⟩:=hv;exact⟨h1,h2⟩
   have o:∀j,j<ts.length->iT s.m p j:=by
    grind [iT]
   obtain⟨s',w',γ',F',B,C,A⟩:=NI (P:=P) ts l.cells.toList s w γ F p b k0 0 k h (fun j hj=>⟨AE i (o j hj),by rw[yg y];rfl⟩) (by grind) f.2 e
   grind [Instr.storeAt,Instr.sureAddr,Sem.run_bind,Result.andThen_ok,storeVar,cz,lB]
end
end Go.Am
end
