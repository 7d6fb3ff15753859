/-
  Part 6: AmIndex · AmBuild · AmMake · AmAlloc · AmWrite · AmStoreOp.
-/
import Derived.Test.YthhkhcolidkemaaGreatDoorCt5
import Derived.Laws.Tables
set_option linter.unusedSimpArgs false
set_option linter.unusedVariables false
set_option linter.unusedSectionVars false
set_option linter.unnecessarySimpa false
section
namespace Go.Am
variable{i:Nat}{k:AV->Prop}{l:List (List D)}{p:Pl}{sub:List Sh}{t:TypeId}{u v:Value}{x:AV}
section
variable {P:Program} {w:World} {H:FH} {γ:Gam} {m:Mm}
theorem O4:∀(p:List Step)(y:Value)(st:Step)(b k:Nat)(v:Value),bM w y p=some ⟨b,k,none⟩->w.cell? ⟨b,k,none⟩=some v->bM w y (p++[st])=bM w v [st]:=by
 intro p;induction p with
 |nil=>grind [bM]
 |cons s r ih=>
  intro y st b k v h hv;cases y with
  |slice a len c=>
   cases a with
   |none=>grind [bM]
   |some a=>
    obtain⟨b0,o,sp⟩:=a;cases sp with
    |some _=>grind [bM]
    |none=>cases r<;>grind [bM]
  |_=>grind [bM]
theorem Y4:∀(p:List Step)(a sub:List Sh)(b l:List (List D))(st:Step),okO a b p->bU a b p=some (.ow sub,.li l)->okO sub l [st]->okO a b (p++[st]):=by
 intro p;induction p with
 |nil=>intro a sub b l st h;exact h.elim
 |cons s r ih=>intro a sub b l st h hl c;cases r<;>grind [bU,okO]
theorem adV{F:Nm->Fp}(hm:Mem w H γ m F)(a:cq m p){st:Step}(hv:plV w γ p=some u):plA w γ { p with path:=p.path++[st] }=bM w u [st]:=by
 obtain⟨n,off,path⟩:=p;cases path with
 |nil=>grind [plV,plA]
 |cons s r=>
  simp only[plV]at hv;simp only[plA,al6];cases hc:aI w (γ n) off with
  |none=>grind
  |some v=>rw[hc]at hv;simp only[Option.bind_some]at hv|-;cases hw:bM w v (s::r)<;>grind [plA,qv,O4]
theorem adL(a:cq m p)(b:bi m p=some (.ow sub l))(hi:i<l.length)(h0:sub.length≠0):cq m (p.at i sub.length):=by
 obtain⟨r,h1,h2⟩:=ay.1 a;obtain⟨n,off,path⟩:=p;dsimp only at h1 h2;unfold bi at b
 grind [ay,okO,Pl.at,bf,Y4]
theorem B2{F:Nm->Fp}(hm:Mem w H γ m F){i:AV}(h:gY P m t x i k)(hx:AR w H γ m x u)(hi:AR w H γ m i v) :
  ∃z d,(∀w:World,(Instr.indexAt t u v).run P w=.ok z w)/\AR w H γ m d z/\k d:=by
 match i,h with
 |.one (.c (.d (.int κ n))),h=>
 obtain⟨rfl,_⟩:=oh hi;simp only[gY]at h;cases hk:(ty P t).k with
 |sl e=>
  rw[hk]at h;obtain⟨_,d,_,hd,B,_⟩:=bh hk (by simp);obtain rfl:=pJ B;have C:P.elem t=e:=by simp[Program.elem,hd]
  match x,h with
  |.one (.c (.d (.li l))),h=>
   obtain⟨g,h0,h⟩:=h;obtain⟨it,_,hit,_⟩:=jY g;have hn:n.toNat<l.length:=by grind
   have h:∀row,l[n.toNat]? = some row->row.length=(ty P e).size/\k (.one (.c (.el row 0))):=λrow hr=>by grind
   have r:l[n.toNat]? = some l[n.toNat]:=akL hn
   obtain⟨D,hk⟩:=h _ r;obtain⟨a,c,rfl,hc,hb,s⟩:=gS hx.2;rcases s with s|⟨b,o,e',q,rfl,A⟩
   .grind
   have K:l.getD n.toNat []=l[n.toNat]:=by grind
   obtain⟨g1,g2⟩:=A n.toNat hn;rw[K]at g1 g2;have G:e'=P.cellsOf e:=by grind [mA]
   refine⟨.pointer (some ⟨b,o+n.toNat*P.cellsOf e,none⟩),.one (.c (.el l[n.toNat] 0)),?_,⟨λ_=>rfl,b,o+n.toNat*P.cellsOf e,q,by simp,λj hj=>?_⟩,hk⟩
   all_goals grind [run_indexAt_slice,cJ,Result.andThen_ok,eF]
  |.one (.c (.rf p)),h=>
   obtain⟨g,I,h⟩:=h;obtain⟨it,_,hit,_⟩:=jY g;obtain⟨tt,h1,h2,h3,h4,f,h5⟩:=ZF hm hx h;cases tt with
   |ow sub l=>
    obtain⟨⟨M,q2⟩,O,L⟩:=h1;have hn:n.toNat<l.length:=by omega
    obtain⟨j,h5⟩:=h5;cases j with
    |zero=>simp[OD]at h5
    |succ j=>
     obtain⟨a,c,_,_,rfl,_,_,_,_,_,s⟩:=mY h5;rcases s with⟨hl,_⟩|⟨b,cs,tt,fz,rfl,_⟩
     .omega
     refine⟨.pointer (some ⟨b,0+n.toNat*P.cellsOf e,none⟩),.one (.c (.pl (p.at n.toNat (ty P e).size))),?_,⟨λ_=>rfl,?_,⟨b,0+n.toNat*P.cellsOf e,none⟩,?_,rfl⟩,L⟩
     .grind [run_indexAt_slice,cJ,Result.andThen_ok,eF]
     .grind [adL]
     rw[Pl.at,adV hm h3 h4,<- mA g];rfl
   |_=>grind
 |ar N e=>
  rw[hk]at h;obtain⟨_,d,_,hd,B,_⟩:=bh hk (by simp);obtain rfl:=afN B;have C:P.elem t=e:=by simp[Program.elem,hd]
  have J:P.arrayLen t=N:=by simp[Program.arrayLen,hd]
  match x,h with
  |.one (.c (.pl p)),h=>
   obtain⟨g,⟨h0,h1⟩,hr,h⟩:=h;obtain⟨it,_,hit,_⟩:=jY g;obtain⟨hz,y,a,E,rfl⟩:=hx;obtain⟨b,o,rfl⟩:=qv hm y E;refine⟨.pointer (some ⟨b,o+n.toNat*P.cellsOf e,none⟩),.one (.c (.pl (p.add (n.toNat*(ty P e).size)))),?_,⟨λ_=>rfl,AY y hr,_,yD E,by rw[mA g]⟩,h⟩
   grind [run_indexAt_array,cJ,Result.andThen_ok,eF]
  |.one (.c (.el row o)),h=>
   obtain⟨g,⟨h0,h1⟩,h⟩:=h;obtain⟨it,_,hit,_⟩:=jY g;obtain⟨hz,b,o',q,rfl,r⟩:=hx;refine⟨.pointer (some ⟨b,o'+o+n.toNat*P.cellsOf e,none⟩),.one (.c (.el row (o+n.toNat*(ty P e).size))),?_,⟨λ_=>rfl,b,o',q,by grind [mA],r⟩,h⟩
   grind [run_indexAt_array,cJ,Result.andThen_ok,eF]
 |_=>grind
theorem FB(h:nN x k)(hx:AR w H γ m x u):(∃a,u=.pointer (some a))/\k x:=by
 match x,h with
 |.one (.c (.pl p)),h=>obtain⟨_,_,a,_,rfl⟩:=hx;exact⟨⟨a,rfl⟩,h⟩
 |.one (.c (.el row o)),h=>obtain⟨_,b,o',q,rfl,_⟩:=hx;exact⟨⟨_,rfl⟩,h⟩
end
theorem UD{ts:List T}{j:Nat}{t:T}(h:(vA p ts)[j]? = some t):∃t',ts[j]? = some t'/\t=Co (p.add j) t':=by grind [vA]
theorem vB{ts:List T}:(vA p ts).length=ts.length:=by simp[vA]
def JD:AV->Bool
 |.one (.c (.el _ _))=>true
 |_=>false
variable{y:Value}
section
variable {P:Program} {w:World} {H:FH} {γ:Gam} {m:Mm}
theorem QL{t:T}{f:Fp}(h:TR w H γ m t f y):Y6 t:=by
 cases t with
 |d x=>exact Og h.2
 |_=>trivial
theorem KJ:∀{ts:List T},(∀(i:Nat)(t:T),ts[i]? = some t->Y6 t)->QM ts
 |[],_=>trivial
 |t::ts,h=>⟨h 0 t rfl,KJ (λi t' a=>h (i+1) t' (by grind))⟩
theorem QN:∀{ds:List D},(∀(i:Nat)(x:D),ds[i]? = some x->okv x)->okvs ds
 |[],_=>trivial
 |x::ds,h=>⟨h 0 x rfl,QN (λi x' hx=>h (i+1) x' (by grind))⟩
theorem l9{p:Nat->Value->Prop}:∀n,(∀j,j<n->∃v,p j v)->∃l:List Value,l.length=n/\∀(j:Nat)(v:Value),l[j]? = some v->p j v
 |0,_=>⟨[],rfl,λj v h=>by simp at h⟩
 |n+1,h=>by
  obtain⟨l,h1,h2⟩:=l9 n (λj hj=>h j kQ1);obtain⟨v,hv⟩:=h n kQ1;refine⟨l++[v],by simp[h1],λj a hj=>?_⟩
  grind
theorem AF{F:Nm->Fp}(hm:Mem w H γ m F)(h:uZ P m t x k)(hx:AR w H γ m x u) :
  ∃z d,∃B:Nat->Prop,(JD x=true->∀b,B b->∃o y,H b o=some y)/\(∀w2:World,(∀b,B b->w2.heap[b]? = w.heap[b]?)->(Instr.loadAt t u).run P w2=.ok z w2)/\AR w H γ m d z/\k d:=by
 obtain⟨K,h⟩:=h;obtain⟨it,d,hit,hd,L,Z,_⟩:=jY K;have U:(ty P t).size=P.cellsOf t:=mA K
 match x,h with
 |.one (.c (.el row o)),h=>
  obtain⟨hz,b,o',q,rfl,r⟩:=hx;have cell:∀j,j<row.length->∃y,w.cell? ⟨b,o'+j,none⟩=some y/\FD H q (row.getD j default) y:=λj hj=>by obtain⟨y,h1,h2⟩:=r j hj;exact⟨y,hm.agree _ _ _ h1,h2⟩
  have I:∀j,j<row.length->b=b/\∃o y,H b o=some y:=λj hj=>by obtain⟨y,h1,h2⟩:=r j hj;grind
  have J:JD (.one (.c (.el row o)))=true->∀c,(c=b/\∃o y,H b o=some y)->∃o y,H c o=some y:=λ_ c⟨e,h⟩=>by grind
  dsimp only at h;split at h
  .rename_i E;rw[E]at L;obtain⟨hl,h⟩:=h;obtain⟨us,S,s⟩:=l9 (p:=λj v=>w.cell? ⟨b,o'+o+j,none⟩=some v/\FD H q (row.getD (o+j) default) v) (ty P t).size (λj hj=>by grind)
   have X:((row.drop o).take (ty P t).size).length=(ty P t).size:=by grind
   have A:∀(j:Nat)(x:D),((row.drop o).take (ty P t).size)[j]? = some x->∃v,us[j]? = some v/\FDx H x v:=by
    intro j x hj;have N:j < (ty P t).size:=by grind
    rw[List.getElem?_take_of_lt N,amH]at hj;have O:us[j]? = some (us[j]' kQ1):=akL kQ1
    refine⟨_,O,q,?_⟩
    grind
   refine⟨.agg us.toArray,.one (.agg (((row.drop o).take (ty P t).size).map T.d)),λc=>c=b/\∃o y,H b o=some y,J,?_,⟨us.toArray,rfl,by grind,?_⟩,h (QN (λi x hx=>?_))⟩
   .intro w2 g;exact nT hd (by grind) hit kQ1 (λj v hv=>(dW (g b (I (o+j) (by grind)))).trans (s j v hv).1)
   .refine yn (by grind) (λi t' G=>?_);simp only[akN,ak0]at G;obtain⟨x,hx,rfl⟩:=G;obtain⟨v,ac,V⟩:=A i x hx;exact⟨v,by omega,λ_=>rfl,V⟩
   grind [Og]
  rename_i E;have C:uy d=false:=by grind
  cases hr:row[o]? with
  |none=>grind
  |some x=>rw[hr]at h;obtain⟨y,h1,h2⟩:=cell o (di hr);rw[List.getD,hr]at h2;exact⟨y,sc x,λc=>c=b/\∃o y,H b o=some y,J,λw2 g=>nU hd C ((dW (g b (I o (di hr)))).trans h1),⟨λ_=>rfl,q,h2⟩,h (Og ⟨q,h2⟩)⟩
 |.one (.c (.pl p)),h=>
  obtain⟨hz,l,a,E,rfl⟩:=hx;obtain⟨b,o,rfl⟩:=qv hm l E;dsimp only at h;split at h
  .rename_i n;rw[n]at L;obtain⟨ts,Y,M,R⟩:=Mn hm l h;obtain⟨us,S,s⟩:=l9 (p:=λj v=>w.cell? ⟨b,o+j,none⟩=some v/\∀t',ts[j]? = some t'->TR w H γ m (Co (p.add j) t') (λ_=>0) v/\∃f,TR w H γ m t' f v) (ty P t).size (λj hj=>by
    have W:ts[j]? = some (ts[j]' kQ1):=akL kQ1
    obtain⟨g1,g2⟩:=R j _ W;obtain⟨v,v1,Q,v3,v4⟩:=rT hm g2 g1;refine⟨v,Q _ (yD E),λt' ab=>?_⟩
    grind)
   refine⟨.agg us.toArray,.one (.agg (vA p ts)),λc=>c=b,λh=>(by simp[JD]at h),?_,⟨us.toArray,rfl,by grind [vB],?_⟩,M (KJ (λi t' G=>?_))⟩
   .intro w2 g;exact nT hd (by grind) hit kQ1 (λj v hv=>(dW (g b rfl)).trans (s j v hv).1)
   .refine yn (by grind [vB]) (λi t' G=>?_);obtain⟨t2,h2,rfl⟩:=UD G;have hi:i<us.length:=by grind
    simp_all
   have hi:i<us.length:=by grind
   have aa:us[i]? = some us[i]:=akL hi
   grind [QL]
  rename_i n;have C:uy d=false:=by grind
  obtain⟨ts,Y,M,R⟩:=Mn hm l h
  match ts,Y with
  |[t'],_=>obtain⟨g1,g2⟩:=R 0 t' rfl;rw[add_zero]at g1 g2;obtain⟨v,v1,Q,v3,f,v4⟩:=rT hm g2 g1;exact⟨v,.one (.c (Co p t')),λc=>c=b,λh=>(by simp[JD]at h),λw2 g=>nU hd C ((dW (g b rfl)).trans (Q _ E)),v3,M (QL v4)⟩
theorem Tb(h:wz P t x i k)(hx:AR w H γ m x u) :
  ∃z d,(∀w:World,(Instr.field t u i).run P w=.ok z w)/\AR w H γ m d z/\k d:=by
 unfold wz at h;cases hk:(ty P t).k with
 |st fs=>
  rw[hk]at h
  match x,h with
  |.one (.agg ts),h=>
   obtain⟨_,d,_,hd,p,_⟩:=bh hk (by simp);obtain⟨b,rfl,rfl⟩:=afO p;obtain⟨us,rfl,y,g⟩:=hx;dsimp only at h;cases hf:(b.toList.map λf=>(f.offset,P.cellsOf f.type,WC P f.type))[i]? with
   |none=>grind
   |some q=>
    obtain⟨off,size,j⟩:=q;rw[hf]at h;simp only[akN,ak0,Prod.mk.injEq]at hf;obtain⟨f,r,rfl,rfl,e⟩:=hf;have n:b[i]? = some f:=by grind
    have a:∀w:World,(Instr.field t (.agg us) i).run P w=(part f.type us f.offset).run P w:=by intro w;simp only[Instr.field,Sem.run_bind,run_underlying hd,Result.andThen_ok,n];rfl
    simp only[a];have hus:us=us.toList.toArray:=by simp
    cases j with
    |none=>grind
    |some j=>
    simp only[WC,ak0]at e;obtain⟨s,h1,h2⟩:=e;cases j with
    |false=>
     dsimp only at h;cases o:ts[f.offset]? with
     |none=>grind
     |some t'=>rw[o]at h;obtain⟨v,hv,l⟩:=EG g o;refine⟨v,.one (.c t'),?_,l,h⟩;intro w;rw[hus];grind [jG]
    |true=>
     obtain⟨hl,h⟩:=h;obtain⟨it,h3⟩:=E3 h1;refine⟨.agg ((us.toList.drop f.offset).take (P.cellsOf f.type)).toArray,.one (.agg ((ts.drop f.offset).take (P.cellsOf f.type))),?_,⟨_,rfl,?_,?_⟩,h⟩
     .intro w;rw[hus];grind [mN]
     all_goals grind [yn,EG]
 |_=>grind
end
def T.sure:T->Bool
 |.any=>false
 |.d .any=>false
 |_=>true
def fH:AV->Option (List T)
 |.one (.c t)=>some [t]
 |.one (.agg ts)=>some ts
 |_=>none
variable{α:Type}
def overw(ts:List α)(off:Nat)(cs:List α):List α:=ts.take off++cs++ts.drop (off+cs.length)
def ki(pl:Nat->Option (Nat×Nat)):List T->List (Nat×AV)->Option (List T)
 |ts,[]=>some ts
 |ts,(i,x)::r=>match pl i,fH x with
  |some (off,size),some cs=>if cs.length=size/\off+cs.length<=ts.length/\cs.all T.sure=true then ki pl (overw ts off cs) r else none
  |_,_=>none
def zst(P:Program)(t:TypeId):Option (List Value×List (Nat×Nat)):=
 match P.info? t,P.underlying t with
 |some it,some (.struct a)=>match it.zero,a.toList.mapM (λf=>(P.info? f.type).map λi=>(f.offset,i.size))with
  |some z,some b=>if z.cells.all okT=true then some (z.cells.toList,b)else none
  |_,_=>none
 |some it,some (.array N e)=>match it.zero,P.info? e with
  |some z,some c=>if z.cells.all okT=true then some (z.cells.toList,(List.range N).map λi=>(i*c.size,c.size))else none
  |_,_=>none
 |_,_=>none
theorem Dg{f g:Nat->Option (Nat×Nat)}(a:∀i q,f i=some q->g i=some q):∀{ps:List (Nat×Value)}{cs r:Array Value},Instr.fill f cs ps=some r->Instr.fill g cs ps=some r
 |[],_,_,h=>h
 |(i,v)::ps,cs,r,h=>by
  simp only[Instr.fill]at h|-;cases hf:f i with
  |none=>grind
  |some q=>
   rw[hf]at h;rw[a _ _ hf];dsimp only at h|-;split at h
   .cases h
   rename_i hc;rw[if_neg hc];exact Dg a h
def sX(P:Program)(t:TypeId)(b:List (Nat×AV))(k:AV->Prop):Prop:=
 match zst P t with
 |some (zs,a)=>match ki (a[·]?) (zs.map sr) b with
  |some ts=>k (.one (.agg ts))
  |none=>False
 |none=>False
theorem Dj:∀(cs:List Value)(j:Nat)(off:Nat)(b:Array Value)(i:Nat),
  ((cs.zipIdx j).foldl (λa(x:Value×Nat)=>a.setIfInBounds (off+x.2) x.1) b)[i]? =
   if off+j<=i/\i<off+j+cs.length/\i<b.size then cs[i-off-j]? else b[i]?
 |[],j,off,b,i=>by grind [List.zipIdx_nil]
 |c::cs,j,off,b,i=>by
  rw[List.zipIdx_cons,alZ,Dj cs (j+1) off _ i]
  grind
theorem Af:∀(cs:List Value)(j:Nat)(off:Nat)(b:Array Value),
  ((cs.zipIdx j).foldl (λa(x:Value×Nat)=>a.setIfInBounds (off+x.2) x.1) b).size=b.size
 |[],j,off,b=>rfl
 |c::cs,j,off,b=>by rw[List.zipIdx_cons,alZ,Af cs (j+1) off _];simp
variable{cs ts:List α}
section
variable {P:Program} {w:World} {H:FH} {γ:Gam} {m:Mm}
theorem vM{F:Nm->Fp}(hm:Mem w H γ m F){t:T}{f:Fp}(h:TR w H γ m t f y)(hs:t.sure=true):pK y=true:=by
 have ow:∀{k:Nat}{sub:List Sh}{l:List (List D)}{g:Fp},OD w H k (.ow sub) (.li l) g y->pK y=true:=by
  intro k sub l g h;cases k with
  |zero=>simp[OD]at h
  |succ k=>obtain⟨a,c,_,_,rfl,_⟩:=mY h;rfl
 cases t with
 |d x=>
  cases x with
  |int k n=>obtain⟨rfl,_⟩:=fX h.2;rfl
  |bool b=>obtain rfl:=jH h.2;rfl
  |str l=>obtain⟨rfl,_⟩:=iH h.2;rfl
  |li l=>obtain⟨a,c,rfl,_⟩:=gS h.2;rfl
  |mp l=>obtain⟨b,rfl⟩:=L0 h.2;rfl
  |fn f l=>obtain⟨b,rfl⟩:=VC h.2;rfl
  |v z=>obtain⟨_,q,h⟩:=h;cases q<;>(obtain⟨rfl,h⟩:=h;exact h)
  |any=>grind [T.sure]
 |nil=>obtain⟨_,rfl⟩:=h;rfl
 |ow sub l=>obtain⟨k,h⟩:=h;grind
 |mp l=>obtain⟨b,es,ck,_,rfl,_⟩:=h;rfl
 |it cur rest=>obtain⟨r,m,a,s,c,rfl,_⟩:=h;rfl
 |el row off=>obtain⟨_,b,o,q,rfl,_⟩:=h;rfl
 |pl p=>obtain⟨_,_,a,_,rfl⟩:=h;rfl
 |rf p=>
  obtain⟨_,hr,hv⟩:=h;have j:=fP hr
  have i:∃x,bi m p=some x/\((∃s l,x=.ow s l)\/(∃l,x=.mp l)\/∃c l,x=.it c l):=by
   obtain⟨r,u,hc⟩:=cr.1 hr;unfold bO at hc
   grind [bi]
  obtain⟨x,i,hx⟩:=i;obtain⟨v,e,_,_,f',v4⟩:=rT hm j i;rw[hv]at e;simp only[akJ]at e;subst e;rcases hx with⟨s,l,rfl⟩|⟨l,rfl⟩|⟨c,l,rfl⟩
  .obtain⟨k,v4⟩:=v4
   grind
  .obtain⟨b,es,ck,_,rfl,_⟩:=v4;rfl
  obtain⟨r,m,a,s,c,rfl,_⟩:=v4;rfl
 |any=>grind [T.sure]
theorem S2(h:pK y=true):y.cells=#[y]:=by cases y<;>first|rfl|grind [pK]
theorem yP{F:Nm->Fp}(hm:Mem w H γ m F){cs:List T}(hx:AR w H γ m x v)(hc:fH x=some cs)(hs:cs.all T.sure=true) :
  v.cells.size=cs.length/\Ts (TR w H γ m) cs (λ_=>0) v.cells.toList:=by
 match x,hc with
 |.one (.c t),hc=>
  simp only[fH,akJ]at hc;subst hc;have a:pK v=true:=vM hm hx (by grind)
  rw[S2 a];exact⟨rfl,v,[],λ_=>0,λ_=>0,rfl,λ_=>rfl,hx,λ_=>rfl⟩
 |.one (.agg ts),hc=>simp only[fH,akJ]at hc;subst hc;obtain⟨b,rfl,h1,h2⟩:=hx;exact⟨h1,h2⟩
def PR(w:World)(H:FH)(γ:Gam)(m:Mm):List (Nat×AV)->List (Nat×Value)->Prop
 |[],[]=>True
 |(i,x)::xs,(j,v)::vs=>i=j/\AR w H γ m x v/\PR w H γ m xs vs
 |_,_=>False
theorem Uo{off:Nat}(h:off+cs.length<=ts.length):(overw ts off cs)[i]? = if off<=i/\i<off+cs.length then cs[i-off]? else ts[i]? := by
 unfold overw;have hl:(ts.take off).length=off:=by grind
 grind
theorem wR{off:Nat}(h:off+cs.length<=ts.length):(overw ts off cs).length=ts.length:=by grind [overw]
theorem yy{F:Nm->Fp}(hm:Mem w H γ m F){pl:Nat->Option (Nat×Nat)}:∀(b:List (Nat×AV))(vs:List (Nat×Value))(ts:List T)(us:Array Value)(ts':List T),
  PR w H γ m b vs->us.size=ts.length->Ts (TR w H γ m) ts (λ_=>0) us.toList->ki pl ts b=some ts' ->
  ∃g,Instr.fill pl us vs=some g/\g.size=ts'.length/\Ts (TR w H γ m) ts' (λ_=>0) g.toList:=by
 intro b;induction b with
 |nil=>
  intro vs ts us ts' hp hl p hf;cases vs with
  |cons _ _=>exact hp.elim
  |nil=>simp only[ki,akJ]at hf;subst hf;exact⟨us,rfl,hl,p⟩
 |cons z b ih=>
  obtain⟨i,x⟩:=z;intro vs ts us ts' hp hl p hf;cases vs with
  |nil=>exact hp.elim
  |cons z vs=>
   obtain⟨j,v⟩:=z;obtain⟨rfl,hx,hp⟩:=hp;simp only[ki]at hf;cases l:pl i with
   |none=>grind
   |some q=>
    obtain⟨off,size⟩:=q;rw[l]at hf;cases h:fH x with
    |none=>grind
    |some cs=>
     rw[h]at hf;dsimp only at hf;split at hf
     .rename_i e;obtain⟨h1,h2,h3⟩:=e;obtain⟨y,s⟩:=yP hm hx h h3;have d:v.cells.zipIdx.foldl (λcs(c,j)=>cs.setIfInBounds (off+j) c) us=(v.cells.toList.zipIdx.foldl (λa(x:Value×Nat)=>a.setIfInBounds (off+x.2) x.1) us):=by grind [Array.toList_zipIdx]
      have k:=Dj v.cells.toList 0 off us
      have f:=Af v.cells.toList 0 off us
      generalize hus:v.cells.toList.zipIdx.foldl (λa(x:Value×Nat)=>a.setIfInBounds (off+x.2) x.1) us=n at d k f;have r:v.cells.toList.length=cs.length:=by omega
      have o:Ts (TR w H γ m) (overw ts off cs) (λ_=>0) n.toList:=by
       refine yn (by grind [wR]) (λi t u=>?_)
       grind [Uo,EG]
      grind [wR,Instr.fill]
     grind
end
variable{w':World}
theorem Fr.trans{w0 w:World}{H0 H H':FH}{own0 tt tt':Fp}(h:Fr w0 H0 own0 w H tt)(k:Fr w H tt w' H' tt'):Fr w0 H0 own0 w' H' tt':=by
 refine⟨alV h.size k.size,k.os.trans h.os,k.tape.trans h.tape,k.output.trans h.output,λi hi h0=>?_,λb o y hy=>k.hold _ _ _ (h.hold _ _ _ hy),λb o h1 h2=>?_,λb hb=>?_,λb hb=>k.nz.1 b (h.nz.1 b hb),λb o x l c h1 h2=>?_⟩
 .have:tt i=0:=by
   rcases alI (tt i)with h'|h'
   .exact h'
   rcases h.tt i kQ1 with h1|h1<;>omega
  rw[k.block i (by have:=h.size;omega) this];grind [block]
 .by_cases hH:H b o=none
  .rcases k.hnew b o h1 hH with h3|h3
   .exact h.tt b h3
   right;have:=h.size;omega
  exact h.hnew b o hH h2
 .rcases k.tt b hb with h1|h1
  .exact h.tt b h1
  right;have:=h.size;omega
 cases hH:H b o with
 |none=>grind [nz]
 |some y=>
  have:=(k.hold b o y hH).symm.trans h1
  grind [nz,nz]
theorem Fr.refl'{w:World}{H:FH}{tt tt':Fp}(h1:w'.heap=w.heap)(h2:w'.os=w.os)(h3:w'.tape=w.tape)(h4:w'.output=w.output)(h5:∀b,tt' b≠0->tt b≠0):Fr w H tt w' H tt':=⟨by grind,h2,h3,h4,λ_ _ _=>by rw[h1],λ_ _ _ h=>h,λb o h1 h2=>absurd h2 h1,λb hb=>.inl (h5 b hb),λb hb=>hb.of_block (by rw[h1]),λb o x l c h1 h2=>by grind⟩
variable{n:Nm}
section
variable {P:Program} {g:G} {s:S} {a:Act} {w:World} {H:FH} {γ:Gam} {F:Nm->Fp}
theorem kl(h:RX g s a w H γ F){H':FH}{γ':Gam}{m':Mm}{F':Nm->Fp}(hm:Mem w' H' γ' m' F')(hf:Fr w H (tot F s.m) w' H' (tot F' m')){t':List (Nat×AV)}
  (d:∀i,AR w' H' γ' m' (bB t' i) (g.tv a i)) (c:∀j,γ' (.out j)=γ (.out j)):RX g ⟨t',m'⟩ a w' H' γ' F':=⟨hm,h.fr.trans hf,h.nt,⟨h.df.1,λj b e=>(c j).trans (h.df.2.1 j b e),h.df.2.2⟩,d⟩
theorem Ri{γ:Gam}{x:RC}(hno:n.isOut=false)(j:Nat):upd γ n x (.out j)=γ (.out j):=by grind [upd,Nm.isOut]
theorem dl{w:World}{o:Obj}{k:Nat}(h:k<w.heap.size):(w.alloc o).heap[k]? = w.heap[k]? := by
 show(w.heap.push o)[k]? = _
 grind
theorem bL{w:World}{o:Obj}:(w.alloc o).heap[w.heap.size]? = some o:=by
 show(w.heap.push o)[w.heap.size]? = _
 grind
theorem qV{m:Mm}(hm:Mem w H γ m F)(cs:Array Value)(ty:TypeId)(fz:Bool) :
  let w':=w.alloc (.cells cs ty)
  let H':FH:=λb o=>if fz=true/\b=w.heap.size then cs[o]?.map HV.c else H b o
  Mem w' H' γ m F/\Fr w H (tot F m) w' H' (tot F m)/\Keeps w γ m w' γ m/\(∀b o y,H b o=some y->H' b o=some y):=by
 intro w' H';have a:∀b o y,H b o=some y->b<w.heap.size:=λb o y h=>(hm.agree b o y h).lt
 have d:∀b o y,H b o=some y->H' b o=some y:=by grind
 have hold:∀k,k<w.heap.size->w'.heap[k]? = w.heap[k]? := λk hk=>dl hk
 have f:=fK (w':=w') hm (λb hb=>hold b (hm.lt b hb))
 have e:∀x∈m,∀b,F x.1 b≠0->b<w.heap.size:=λx hx b hb=>hm.lt b (by grind [bV])
 refine⟨⟨?_,?_,hm.keys,hm.le1,?_,?_⟩,⟨by simp[w'],rfl,rfl,rfl,λk hk _=>hold k hk,d,?_,λb hb=>.inl hb,λb hb=>hb.of_block (hold b hb.lt),λb o x l c h1 h2=>?_⟩,f,d⟩
 .intro b o y hy;simp only[H']at hy;split at hy
  .rename_i hc;obtain⟨z,hz,rfl⟩:=ak0.1 hy;rw[hc.2];show w'.cell? ⟨w.heap.size,o,none⟩=some z
   grind [World.cell?,bL]
  exact(hm.agree b o y hy).frame (hold b (a b o y hy))
 .intro x hx;exact bm f d rfl (λb hb=>hold b (e x hx b hb)) (hm.roots x hx)
 .intro b hb;have:=hm.lt b hb;grind
 .intro b hb o;have:=hm.lt b hb
  simp only[H'];rw[if_neg kQ1];exact hm.nofz b hb o
 .grind
 simp only[H']at h1;split at h1
 .rename_i hc;rw[hc.2];exact⟨cs,ty,bL⟩
 grind
theorem Wl(h:RX g s a w H γ F){n:Nm}(hno:n.isOut=false)(hn:ah s.m n=none){ts:List T}{cs:Array Value}(hl:cs.size=ts.length)(d:Ts (TR w H γ s.m) ts (λ_=>0) cs.toList)(ty:TypeId)(e:∀t,n.tyd=some t->ty=t) :
  ∃γ' F',RX g ⟨s.t,(n,⟨true,ts⟩)::s.m⟩ a (w.alloc (.cells cs ty)) H γ' F'/\γ' n=.blk w.heap.size:=by
 obtain⟨hm,hf,j,p⟩:=qV h.mem cs ty false;simp only[akP,false_and,if_false]at hm hf j p;have c:=mX (w:=w.alloc (.cells cs ty)) (γ:=γ) (rc:=.blk w.heap.size) (r:=⟨true,ts⟩) hn
 have hz:tot F s.m w.heap.size=0:=by
  rcases alI (tot F s.m w.heap.size)with h'|h'
  .exact h'
  have:=h.mem.lt w.heap.size kQ1;omega
 have q:∀o,H w.heap.size o=none:=by
  intro o;cases hc:H w.heap.size o with
  |none=>rfl
  |some y=>have:=(h.mem.agree _ _ _ hc).lt;omega
 obtain⟨k,l⟩:=yl hm (n:=n) (rc:=.blk w.heap.size) (r:=⟨true,ts⟩) (f:=λb=>0+if b=w.heap.size then 1 else 0) hn (by
   unfold cz;rw[if_pos rfl];refine⟨w.heap.size,cs,ty,(0,0),λ_=>0,eQ,bL,⟨rfl,e⟩,hl,?_,λ_=>rfl⟩;exact pT c (λ_ _ _ h=>h) (λ_ hb=>absurd rfl hb) (pT j (λ_ _ _ h=>h) (λ_ hb=>absurd rfl hb) d))
  (λb=>by grind [Mem.le1])
  (λb hb=>by simp_all)
 refine⟨_,_,kl h k ?_ (λi=>dK c (λ_ _ _ h=>h) (dK j (λ_ _ _ h=>h) (h.t i))) (Ri hno),eQ⟩;refine⟨hf.size,hf.os,hf.tape,hf.output,hf.block,hf.hold,hf.hnew,λb hb=>?_,hf.nz⟩
 grind
theorem eE(h:RX g s a w H γ F){n:Nm}(hno:n.isOut=false)(hn:ah s.m n=none){t:T}{f:Fp}(l:TR w H γ s.m t f v)(hd:∀b,tot F s.m b+f b<=1)(hl:∀b,f b≠0->b<w.heap.size/\∀o,H b o=none)
  (hnew:∀b,f b≠0->g.own0 b≠0\/g.w0.heap.size<=b) :
  ∃γ' F',RX g ⟨s.t,(n,⟨false,[t]⟩)::s.m⟩ a w H γ' F'/\γ' n=.gh v:=by
 have c:=mX (w:=w) (γ:=γ) (rc:=.gh v) (r:=⟨false,[t]⟩) hn
 obtain⟨d,k⟩:=yl h.mem (n:=n) (rc:=.gh v) (r:=⟨false,[t]⟩) (f:=f) hn (by unfold cz;rw[if_neg (by simp)];exact⟨v,t,eQ,rfl,jJ c (λ_ _ _ h=>h) (λ_ _=>rfl) l⟩) hd hl
 refine⟨_,_,⟨d,?_,h.nt,⟨h.df.1,λj b e=>(Ri hno j).trans (h.df.2.1 j b e),h.df.2.2⟩,λi=>dK c (λ_ _ _ h=>h) (h.t i)⟩,eQ⟩;refine⟨h.fr.size,h.fr.os,h.fr.tape,h.fr.output,h.fr.block,h.fr.hold,h.fr.hnew,λb hb=>?_,h.fr.nz⟩;rw[k]at hb;by_cases hf:f b=0
 .exact h.fr.tt b kQ1
 grind
end
def iV(sub:List Sh)(l:List (List D))(t:T):List Step->(List (List D)->Prop)->Prop
 |[],_=>False
 |[st],k=>match l[st.idx]? with
  |some x=>match sub[st.off]?,x[st.off]? with
   |some .fr,some _=>p9 .fr t/\k (l.set st.idx (x.set st.off t.toD))
   |some (.ow s),some .any=>p9 (.ow s) t/\k (l.set st.idx (x.set st.off t.toD))
   |_,_=>False
  |none=>False
 |st::a::r,k=>match l[st.idx]? with
  |some x=>match sub[st.off]?,x[st.off]? with
   |some (.ow s),some (.li l')=>iV s l' t (a::r) λb=>k (l.set st.idx (x.set st.off (.li b)))
   |_,_=>False
  |none=>False
def tM(m:Mm)(p:Pl)(t:T)(k:Mm->Prop):Prop:=
 match ah m p.root with
 |none=>False
 |some r=>match p.path,r.cells[p.off]? with
  |[],some t0=>t0.owned=false/\k (cY m p.root { r with cells:=r.cells.set p.off t })
  |st::q,some (.ow sub l)=>iV sub l t (st::q) λl'=>k (cY m p.root { r with cells:=r.cells.set p.off (.ow sub l') })
  |_,_=>False
def T.ment(n:Nm):T->Bool
 |.pl p=>decide (p.root=n)
 |.rf p=>decide (p.root=n)
 |_=>false
def S.drop(s:S)(n:Nm):S:=⟨nH (bJ n) s.t,aP (bJ n) (ci s.m n)⟩
def dS(s:S)(p:Pl):List T->(S->Prop)->Prop
 |[],k=>k s
 |.rf q::ts,k=>match ah s.m q.root with
  |some ⟨false,[.ow sub l]⟩=>q.path=[]/\q.root≠p.root/\(ts.all λt=>!t.ment q.root)=true/\tM (s.drop q.root).m p (.ow sub l) λm'=>dS ⟨(s.drop q.root).t,m'⟩ (p.add 1) ts k
  |_=>False
 |.any::_,_=>False
 |.d .any::_,_=>False
 |t::ts,k=>tM s.m p t λm'=>dS ⟨s.t,m'⟩ (p.add 1) ts k
theorem ZK:∀(p:List Step)(sub:List Sh)(l:List (List D))(t:T)(k:List (List D)->Prop),(∀N,wfO N sub l)->okO sub l p->iV sub l t p k ->
  k (cC sub l t.toD p)/\∃s x,bU sub l p=some (s,x)/\p9 s t/\∀s' l',(s,x)≠(.ow s',.li l'):=by
 intro p;induction p with
 |nil=>intro sub l t k _ h;exact h.elim
 |cons st r ih=>
  intro sub l t k e b a;cases r with
  |nil=>
   obtain⟨h1,h2,h3⟩:=b;have hx:l[st.idx]? = some l[st.idx]:=akL h1
   have f:l.getD st.idx []=l[st.idx]:=by grind
   unfold iV at a;rw[hx]at a;dsimp only at a;cases hs:sub[st.off]? with
   |none=>grind
   |some s=>
    rw[hs]at a;cases hd:(l[st.idx])[st.off]? with
    |none=>grind
    |some d=>
     rw[hd]at a;have c:(l.getD st.idx []).getD st.off default=d:=by grind
     cases s with
     |fr=>refine⟨by grind [cC],.fr,d,by grind [bU],a.1,λs' l' h=>by simp at h⟩
     |ow s=>
      cases d with
      |any=>exact⟨by grind [cC],.ow s,.any,by grind [bU],a.1,λs' l' h=>by simp at h⟩
      |_=>grind
  |cons g u=>
   obtain⟨⟨h1,h2,h3⟩,b⟩:=b;have hx:l[st.idx]? = some l[st.idx]:=akL h1
   have f:l.getD st.idx []=l[st.idx]:=by grind
   unfold iV at a;rw[hx]at a;dsimp only at a;cases hs:sub[st.off]? with
   |none=>grind
   |some s=>
    rw[hs]at b a;cases s with
    |fr=>grind
    |ow s=>
     cases hd:(l[st.idx])[st.off]? with
     |none=>grind
     |some d=>
      have c:(l.getD st.idx []).getD st.off default=d:=by grind
      rw[c]at b;rw[hd]at a;cases d with
      |li l'=>
       dsimp only at a b;obtain⟨k1,s1,i,k2,k3,k4⟩:=ih s l' t _ (λN=>(e (N+1)).2 st.idx st.off s l' hs c) b a
       grind [cC,bU]
      |_=>grind
section
variable {P:Program} {g:G} {s:S} {a:Act} {w:World} {H:FH} {γ:Gam} {F:Nm->Fp}
theorem adX{m:Mm}(hm:Mem w H γ m F)(c:cq m p){t:T}{k:Mm->Prop}(h:tM m p t k) :
  k (bF m p t)/\∃t0,bi m p=some t0/\t0.owned=false/\(p.path=[]\/∃s,aeF m p=some s/\p9 s t):=by
 obtain⟨r,h1,h2⟩:=ay.1 c;obtain⟨nm,off,path⟩:=p;dsimp only at h1 h2;unfold tM at h;rw[h1]at h;dsimp only at h;cases path with
 |nil=>grind [bF,bi]
 |cons st u=>
  dsimp only[bf]at h2;cases a:r.cells[off]? with
  |none=>grind
  |some t0=>
   rw[a]at h2 h;cases t0 with
   |ow sub l=>
    dsimp only at h2 h;have b:∀N,wfO N sub l:=by
     intro N;obtain⟨v,g,_,⟨k,d⟩,_⟩:=fe (hm.roots _ (al h1)) a
     grind [EB]
    obtain⟨k1,s,x,k2,k3,k4⟩:=ZK (st::u) sub l t _ b h2 h;refine⟨by grind [bF],mkT s x,?_,?_,.inr ⟨s,by grind [aeF],k3⟩⟩
    .simp only[bi,h1,a,k2];cases s with
     |fr=>rfl
     |ow s'=>cases x<;>rfl
    cases s with
    |fr=>rfl
    |ow s'=>cases x with
     |li l'=>grind
     |_=>rfl
   |_=>grind
theorem Dq:bB (s.drop n).t i=(bB s.t i).kill (bJ n):=oQ _ _ _
theorem aeK{m:Mm}{r:Root}(hn:ah m n=some r)(b:Nat):tot F (ci m n) b+F n b=tot F m b:=by induction m<;>grind [ah,ci,fD]
theorem Ii(h:RX g s a w H γ F)(hn:ah s.m n=some ⟨false,[.ow sub l]⟩) :
  ∃v f,γ n=.gh v/\(∀m',TR w H γ m' (.ow sub l) f v)/\RX g (s.drop n) a w H γ F/\(∀b,tot F (s.drop n).m b+f b<=tot F s.m b):=by
 have hr:=h.mem.roots _ (al hn)
 unfold cz at hr;dsimp only at hr;rw[if_neg (by simp)]at hr;obtain⟨v,t,h1,h2,h3⟩:=hr;simp only[List.cons.injEq,and_true]at h2;subst h2;have c:∀b,tot F (s.drop n).m b+F n b<=tot F s.m b:=by
  intro b;have:tot F (s.drop n).m b=tot F (ci s.m n) b:=bC
  grind [aeK]
 refine⟨v,F n,h1,λ_=>h3,⟨Ez h.mem n,?_,h.nt,h.df,λi=>?_⟩,c⟩
 .refine⟨h.fr.size,h.fr.os,h.fr.tape,h.fr.output,h.fr.block,h.fr.hold,h.fr.hnew,λb hb=>h.fr.tt b ?_,h.fr.nz⟩
  grind
 rw[Dq];exact ua fb (λ_ _ _ h=>h) (h.t i)
theorem um(h:RX g s a w H γ F)(n:Nm):RX g (s.drop n) a w H γ F:=by
 refine⟨Ez h.mem n,?_,h.nt,h.df,λi=>?_⟩
 .refine⟨h.fr.size,h.fr.os,h.fr.tape,h.fr.output,h.fr.block,h.fr.hold,h.fr.hnew,λb hb=>h.fr.tt b ?_,h.fr.nz⟩;have e:tot F (s.drop n).m b=tot F (ci s.m n) b:=bC
  grind [gL]
 rw[Dq];exact ua fb (λ_ _ _ h=>h) (h.t i)
theorem Wr(h:RX g s a w H γ F)(f:cq s.m p){b k:Nat}(D:plA w γ p=some ⟨b,k,none⟩){t:T}{K:Mm->Prop}(G:tM s.m p t K)
  {ft:Fp} {y:Value} (I:TR w H γ s.m t ft y) (u:pK y=true) (hd:∀c,tot F s.m c+ft c<=1) (hl:∀c,ft c≠0->c<w.heap.size/\∀o,H c o=none)
  (hnew:∀c,ft c≠0->g.own0 c≠0\/g.w0.heap.size<=c) :
  (∃z,w.cell? ⟨b,k,none⟩=some z)/\w.frozen? ⟨b,k,none⟩=false/\∃m' F',K m'/\RX g ⟨s.t,m'⟩ a (w.setCell ⟨b,k,none⟩ y) H γ F'/\Keeps w γ s.m (w.setCell ⟨b,k,none⟩ y) γ m' /\
   (∀c,tot F' m' c=tot F s.m c+ft c):=by
 obtain⟨k1,t0,k2,k3,k4⟩:=adX h.mem f G;obtain⟨M,N,L⟩:=RD h.mem f k2 k3 D I u k4 hd hl;have hw:∀a,a≠(⟨b,k,none⟩:Addr)->(w.setCell ⟨b,k,none⟩ y).cell? a=w.cell? a:=λa J=>World.cell?_setCell_other _ _ _ _ (λe=>J e.symm)
 have v:=xx h.mem f k2 k3 (t:=t) D hw
 obtain⟨B,A,_⟩:=ay.1 f;have E:=(A7 h.mem f D).1
 dsimp only at E;have r:∀c,tot (λn c=>F n c+if n=p.root then ft c else 0) (bF s.m p t) c=tot F s.m c+ft c:=by
  intro c;have:bF s.m p t=cY s.m p.root { B with cells:=match p.path with
    |[]=>B.cells.set p.off t
    |st::q=>match B.cells[p.off]? with
     |some (.ow sub l)=>B.cells.set p.off (.ow sub (cC sub l t.toD (st::q)))
     |_=>B.cells }:=by grind [bF]
  rw[this,dT,Gb h.mem.keys A]
 have C:tot F s.m b≠0:=by have:=bV (F:=F) (al A) b;grind
 refine⟨M,N,bF s.m p t,_,k1,⟨L,?_,h.nt,h.df,λi=>dK v (λ_ _ _ h=>h) (h.t i)⟩,v,r⟩;refine⟨by simp only[World.size_setCell];exact h.fr.size,h.fr.os,h.fr.tape,h.fr.output,λj hj h0=>?_,h.fr.hold,h.fr.hnew,λc hc=>?_,λc h0=>(h.fr.nz.1 c h0).setCell,λc o x l d h1 h2=>(h.fr.nz.2 c o x l d h1 h2).setCell⟩
 .rw[j6]
  .exact h.fr.block j hj h0
  intro e;subst e;rcases h.fr.tt j C with h1|h1
  all_goals omega
 rw[r]at hc;by_cases hf:ft c=0
 .exact h.fr.tt c kQ1
 grind
end
theorem xZ:∀(p:List Step)(i j:Nat),bj (bj p i) j=bj p (i+j):=by
 intro p;induction p with
 |nil=>intros;rfl
 |cons a b ih=>
  intro i j;cases b with
  |nil=>grind [bj]
  |cons c d=>
   have:=ih i j
   simp only[bj]at this|-;cases hd:bj (c::d) i<;>grind [bj,lZ]
theorem aaY(p:Pl)(i j:Nat):(p.add i).add j=p.add (i+j):=by obtain⟨n,o,path⟩:=p;cases path<;>grind [Pl.add,xZ,lZ]
theorem JG{t:T}(h:t.ment n=false):t.kill (bJ n)=t:=by cases t<;>grind [T.ment,T.kill,bJ]
def xf(P:Program)(s:S)(t:TypeId)(x v:AV)(k:S->Prop):Prop:=
 match x,fH v with
 |.one (.c (.pl p)),some ts=>(ty P t).ok=true/\ts.length=(ty P t).size/\jD s.m p (ts.length - 1)/\dS s p ts k
 |_,_=>False
section
variable {P:Program} {g:G} {s:S} {a:Act} {w:World} {H:FH} {γ:Gam} {F:Nm->Fp}
theorem OL{b k:Nat}{z:Value}(hv:pK v=true)(hc:w.cell? ⟨b,k,none⟩=some z)(hf:w.frozen? ⟨b,k,none⟩=false) :
  (store ⟨b,k,none⟩ v).run P w=.ok () (w.setCell ⟨b,k,none⟩ v):=by
 cases v<;>first|(simp[pK]at hv;done)|grind [store,Sem.run]
theorem OY:∀(ts:List T)(vs:List Value)(s:S)(w:World)(γ:Gam)(F:Nm->Fp)(p:Pl)(b k0 i:Nat)(K:S->Prop),RX g s a w H γ F ->
  (∀j,j<ts.length->cq s.m (p.add j)/\plA w γ (p.add j)=some ⟨b,k0+i+j,none⟩)->vs.length=ts.length->Ts (TR w H γ s.m) ts (λ_=>0) vs->dS s p ts K ->
  ∃s' w' γ' F',(storeCells ⟨b,k0,none⟩ vs i).run P w=.ok () w'/\K s'/\RX g s' a w' H γ' F':=by
 intro ts;induction ts with
 |nil=>
  intro vs s w γ F p b k0 i K h _ hl _ A;cases vs with
  |nil=>exact⟨s,w,γ,F,rfl,A,h⟩
  |cons _ _=>grind
 |cons t ts ih=>
  intro vs s w γ F p b k0 i K h G hl ac A;cases vs with
  |nil=>grind
  |cons v vs=>
  obtain⟨v',r,f1,f2,hv,hf,I,y⟩:=ac;simp only[List.cons.injEq]at hv;obtain⟨rfl,rfl⟩:=hv;have Z:f1=λ_=>0:=by grind
  have aa:f2=λ_=>0:=by grind
  subst Z;subst aa;obtain⟨N,O⟩:=G 0 (by simp);rw[add_zero]at N O;simp only[am0]at O;have U:∀(s1:S)(F1:Nm->Fp)(t1:T)(ft:Fp)(Q:S->Prop),RX g s1 a w H γ F1->(∀j,j < (t::ts).length->cq s1.m (p.add j)/\plA w γ (p.add j)=some ⟨b,k0+i+j,none⟩) ->
    TR w H γ s1.m t1 ft v->pK v=true->(∀c,tot F1 s1.m c+ft c<=1)->(∀c,ft c≠0->c<w.heap.size/\∀o,H c o=none)->(∀c,ft c≠0->g.own0 c≠0\/g.w0.heap.size<=c) ->
    Ts (TR w H γ s1.m) ts (λ_=>0) vs->tM s1.m p t1 (λm'=>dS ⟨s1.t,m'⟩ (p.add 1) ts Q) ->
    ∃s' w' γ' F',(storeCells ⟨b,k0,none⟩ (v::vs) i).run P w=.ok () w'/\Q s'/\RX g s' a w' H γ' F':=by
   intro s1 F1 t1 ft Q h1 M ab B hd V hnew J hp;obtain⟨C,E⟩:=M 0 (by simp);rw[add_zero]at C E;simp only[am0]at E;obtain⟨⟨z,c1⟩,c2,m',F',c3,c4,c5,_⟩:=Wr h1 C E hp ab B hd V hnew;obtain⟨s',w',γ',ai,e1,e2,e3⟩:=ih vs ⟨s1.t,m'⟩ (w.setCell ⟨b,k0+i,none⟩ v) γ F' (p.add 1) b k0 (i+1) Q c4 (λj hj=>by grind [aaY,Keeps.pl]) (by grind) (pT c5 (λ_ _ _ h=>h) (λ_ hb=>absurd rfl hb) J) c3
   grind [storeCells,Sem.run_bind,eF,OL,Result.andThen_ok]
  have le:=λc=>h.mem.le1 c
  have k:t.sure=true->t.owned=false->(∀q,t≠.rf q)->tM s.m p t (λm'=>dS ⟨s.t,m'⟩ (p.add 1) ts K)->∃s' w' γ' F',(storeCells ⟨b,k0,none⟩ (v::vs) i).run P w=.ok () w'/\K s'/\RX g s' a w' H γ' F':=by intro hs _ _ hp;exact U s F t (λ_=>0) K h G I (vM h.mem I hs) (λc=>by grind) (λc hc=>absurd rfl hc) (λc hc=>absurd rfl hc) y hp
  cases t with
  |rf q=>
   obtain⟨n,o,path⟩:=q;simp only[dS]at A;cases hr:ah s.m n with
   |none=>grind
   |some rr=>
    rw[hr]at A;obtain⟨blk,cells⟩:=rr
    match blk,cells,A,hr with
    |false,[.ow sub l],R,Y=>
     obtain⟨hp,ad,ae,L⟩:=R
     try dsimp only at hp ad ae L
     subst hp;obtain⟨u,f,hg,hT,h1,af⟩:=Ii h Y;have X:u=v:=by
      obtain⟨_,ag,aj⟩:=I
      grind [plV,aI]
     subst X;have D:∀c,f c≠0->tot F s.m c≠0:=λc hc=>by grind
     have B:pK u=true:=vM h.mem (hT s.m) rfl
     refine U (s.drop n) F (.ow sub l) f K h1 (λj hj=>?_) (hT _) B (λc=>by grind) (λc hc=>⟨h.mem.lt c (D c hc),h.mem.nofz c (D c hc)⟩) (λc hc=>h.fr.tt c (D c hc)) ?_ L
     .obtain⟨q1,q2⟩:=G j hj;have W:(p.add j).root=p.root:=by grind [Pl.add]
      obtain⟨q3,q4⟩:=(fb (w:=w) (γ:=γ) (m:=s.m) (n:=n)).pl (p.add j) (by grind [bJ]) q1;exact⟨q3,by omega⟩
     have:=uu (fb (w:=w) (γ:=γ) (m:=s.m) (n:=n)) (λ_ _ _ h=>h) (λ_ hb=>absurd rfl hb) y
     have e:ts.map (·.kill (bJ n))=ts:=by
      rw[ak2 (g:=id)]
      .simp
      grind [JG]
     rw[e]at this;exact this
  |any=>exact A.elim
  |d x=>
   cases x with
   |any=>exact A.elim
   |_=>exact k rfl rfl (λq h=>by simp at h) A
  |nil=>exact k rfl rfl (λq h=>by simp at h) A
  |ow sub l=>refine U s F (.ow sub l) (λ_=>0) K h G I (vM h.mem I rfl) (λc=>by grind) (λc hc=>absurd rfl hc) (λc hc=>absurd rfl hc) y A
  |mp l=>obtain⟨b',_,_,_,_,_,_,_,h5⟩:=I;exact absurd (h5 b') (by simp)
  |it c l=>obtain⟨b',_,_,_,_,_,_,_,h5⟩:=I;exact absurd (h5 b') (by simp)
  |el row off=>exact k rfl rfl (λq h=>by simp at h) A
  |pl q=>exact k rfl rfl (λq h=>by simp at h) A
theorem UW(h:RX g s a w H γ F){x v:AV}{k:S->Prop}{r l:Value}(e:xf P s t x v k)(hx:AR w H γ s.m x r)(hv:AR w H γ s.m v l) :
  ∃s' w' γ' F',(Instr.storeAt t r l).run P w=.ok () w'/\k s'/\RX g s' a w' H γ' F':=by
 unfold xf at e
 match x,e with
 |.one (.c (.pl p)),e=>
  cases hc:fH v with
  |none=>grind
  |some ts=>
   rw[hc]at e;obtain⟨q,u,o,e⟩:=e;obtain⟨it,d,hit,_⟩:=jY q;obtain⟨hz,i,ad,y,rfl⟩:=hx;obtain⟨b,k0,rfl⟩:=qv h.mem i y;have f:l.cells.size=ts.length/\Ts (TR w H γ s.m) ts (λ_=>0) l.cells.toList:=by
    match v,hc with
    |.one (.c t'),hc=>
     simp only[fH,akJ]at hc;subst hc;have hs:t'.sure=true:=by
      cases t' with
      |any=>exact e.elim
      |d x=>cases x<;>first|rfl|exact e.elim
      |_=>rfl
     exact yP h.mem (x:=.one (.c t')) hv rfl (by simp[hs])
    |.one (.agg ts'),hc=>simp only[fH,akJ]at hc;subst hc;obtain⟨z,rfl,h1,h2⟩:=hv;exact⟨h1,h2⟩
   have n:∀j,j<ts.length->jD s.m p j:=by grind [jD]
   obtain⟨s',w',γ',F',A,C,B⟩:=OY (P:=P) ts l.cells.toList s w γ F p b k0 0 k h (λj hj=>⟨AY i (n j hj),by rw[yD y];rfl⟩) (by grind) f.2 e
   grind [Instr.storeAt,Instr.sureAddr,Sem.run_bind,Result.andThen_ok,storeVar,cJ,mA]
end
end Go.Am
end
