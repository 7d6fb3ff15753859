/-
  Part 6: AmIndex · AmBuild · AmMake · AmAlloc · AmWrite · AmStoreOp.
-/
import Derived.Test.YteooihiebpbaiaaGreatDoorVp5
import Derived.Laws.Tables
set_option linter.unusedSimpArgs false
set_option linter.unusedVariables false
set_option linter.unusedSectionVars false
set_option linter.unnecessarySimpa false
section
namespace Go.Am
variable{i:Nat}{k:AV->Prop}{l:List (List D)}{p:Pl}{sub:List Sh}{t:TypeId}{u v:Value}{x:AV}
section
variable {P:Program} {w:World} {H:FH} {γ:Gam} {m:Mm}
theorem O7:∀(p:List Step)(y:Value)(st:Step)(b k:Nat)(v:Value),bu w y p=some ⟨b,k,none⟩->w.cell? ⟨b,k,none⟩=some v->bu w y (p++[st])=bu w v [st]:=by
 intro p;induction p with
 |nil=>grind [bu]
 |cons s r ih=>
  intro y st b k v h hv;cases y with
  |slice a len c=>
   cases a with
   |none=>grind [bu]
   |some a=>
    obtain⟨b0,o,sp⟩:=a;cases sp with
    |some _=>grind [bu]
    |none=>cases r<;>grind [bu]
  |_=>grind [bu]
theorem Yr:∀(p:List Step)(a sub:List Sh)(b l:List (List D))(st:Step),okO a b p->bG a b p=some (.ow sub,.li l)->okO sub l [st]->okO a b (p++[st]):=by
 intro p;induction p with
 |nil=>intro a sub b l st h;exact h.elim
 |cons s r ih=>intro a sub b l st h hl c;cases r<;>grind [bG,okO]
theorem adG{F:Nm->Fp}(hm:Mem w H γ m F)(a:bU m p){st:Step}(hv:plV w γ p=some u):plA w γ { p with path:=p.path++[st] }=bu w u [st]:=by
 obtain⟨n,off,path⟩:=p;cases path with
 |nil=>grind [plV,plA]
 |cons s r=>
  simp only[plV]at hv;simp only[plA,amU];cases hc:aH w (γ n) off with
  |none=>grind
  |some v=>rw[hc]at hv;simp only[Option.bind_some]at hv|-;cases hw:bu w v (s::r)<;>grind [plA,ql,O7]
theorem ac4(a:bU m p)(b:aU m p=some (.ow sub l))(hi:i<l.length)(h0:sub.length≠0):bU m (p.at i sub.length):=by
 obtain⟨r,h1,h2⟩:=ay.1 a;obtain⟨n,off,path⟩:=p;dsimp only at h1 h2;unfold aU at b
 grind [ay,okO,Pl.at,aS,Yr]
theorem B3{F:Nm->Fp}(hm:Mem w H γ m F){i:AV}(h:gH P m t x i k)(hx:AR w H γ m x u)(hi:AR w H γ m i v) :
  ∃z d,(∀w:World,(Instr.indexAt t u v).run P w=.ok z w)/\AR w H γ m d z/\k d:=by
 match i,h with
 |.one (.c (.d (.int κ n))),h=>
 obtain⟨rfl,_⟩:=nV hi;simp only[gH]at h;cases hk:(ty P t).k with
 |sl e=>
  rw[hk]at h;obtain⟨_,d,_,hd,B,_⟩:=aT hk (by simp);obtain rfl:=pg B;have hel:P.elem t=e:=by simp[Program.elem,hd]
  match x,h with
  |.one (.c (.d (.li l))),h=>
   obtain⟨g,h0,h⟩:=h;obtain⟨it,_,hit,_⟩:=jG g;have hn:n.toNat<l.length:=by grind
   have h:∀row,l[n.toNat]? = some row->row.length=(ty P e).size/\k (.one (.c (.el row 0))):=λrow hr=>by grind
   have r:l[n.toNat]? = some l[n.toNat]:=akQ hn
   obtain⟨C,hk⟩:=h _ r;obtain⟨a,c,rfl,hc,hb,s⟩:=gC hx.2;rcases s with s|⟨b,o,e',q,rfl,A⟩
   .grind
   have E:l.getD n.toNat []=l[n.toNat]:=by grind
   obtain⟨g1,g2⟩:=A n.toNat hn;rw[E]at g1 g2;have J:e'=P.cellsOf e:=by grind [mu]
   refine⟨.pointer (some ⟨b,o+n.toNat*P.cellsOf e,none⟩),.one (.c (.el l[n.toNat] 0)),?_,⟨λ_=>rfl,b,o+n.toNat*P.cellsOf e,q,by simp,λj hj=>?_⟩,hk⟩
   all_goals grind [run_indexAt_slice,cv,Result.andThen_ok,eN]
  |.one (.c (.rf p)),h=>
   obtain⟨g,D,h⟩:=h;obtain⟨it,_,hit,_⟩:=jG g;obtain⟨tt,h1,h2,h3,h4,f,h5⟩:=Y6 hm hx h;cases tt with
   |ow sub l=>
    obtain⟨⟨M,q2⟩,L,G⟩:=h1;have hn:n.toNat<l.length:=by omega
    obtain⟨j,h5⟩:=h5;cases j with
    |zero=>simp[OD]at h5
    |succ j=>
     obtain⟨a,c,_,_,rfl,_,_,_,_,_,s⟩:=mU h5;rcases s with⟨hl,_⟩|⟨b,cs,tt,fz,rfl,_⟩
     .omega
     refine⟨.pointer (some ⟨b,0+n.toNat*P.cellsOf e,none⟩),.one (.c (.pl (p.at n.toNat (ty P e).size))),?_,⟨λ_=>rfl,?_,⟨b,0+n.toNat*P.cellsOf e,none⟩,?_,rfl⟩,G⟩
     .grind [run_indexAt_slice,cv,Result.andThen_ok,eN]
     .grind [ac4]
     rw[Pl.at,adG hm h3 h4,<- mu g];rfl
   |_=>grind
 |ar N e=>
  rw[hk]at h;obtain⟨_,d,_,hd,B,_⟩:=aT hk (by simp);obtain rfl:=afO B;have hel:P.elem t=e:=by simp[Program.elem,hd]
  have K:P.arrayLen t=N:=by simp[Program.arrayLen,hd]
  match x,h with
  |.one (.c (.pl p)),h=>
   obtain⟨g,⟨h0,h1⟩,hr,h⟩:=h;obtain⟨it,_,hit,_⟩:=jG g;obtain⟨I,y,a,ha,rfl⟩:=hx;obtain⟨b,o,rfl⟩:=ql hm y ha;refine⟨.pointer (some ⟨b,o+n.toNat*P.cellsOf e,none⟩),.one (.c (.pl (p.add (n.toNat*(ty P e).size)))),?_,⟨λ_=>rfl,AX y hr,_,yv ha,by rw[mu g]⟩,h⟩
   grind [run_indexAt_array,cv,Result.andThen_ok,eN]
  |.one (.c (.el row o)),h=>
   obtain⟨g,⟨h0,h1⟩,h⟩:=h;obtain⟨it,_,hit,_⟩:=jG g;obtain⟨I,b,o',q,rfl,r⟩:=hx;refine⟨.pointer (some ⟨b,o'+o+n.toNat*P.cellsOf e,none⟩),.one (.c (.el row (o+n.toNat*(ty P e).size))),?_,⟨λ_=>rfl,b,o',q,by grind [mu],r⟩,h⟩
   grind [run_indexAt_array,cv,Result.andThen_ok,eN]
 |_=>grind
theorem FG(h:nE x k)(hx:AR w H γ m x u):(∃a,u=.pointer (some a))/\k x:=by
 match x,h with
 |.one (.c (.pl p)),h=>obtain⟨_,_,a,_,rfl⟩:=hx;exact⟨⟨a,rfl⟩,h⟩
 |.one (.c (.el row o)),h=>obtain⟨_,b,o',q,rfl,_⟩:=hx;exact⟨⟨_,rfl⟩,h⟩
end
theorem Uz{ts:List T}{j:Nat}{t:T}(h:(ve p ts)[j]? = some t):∃t',ts[j]? = some t'/\t=Cr (p.add j) t':=by grind [ve]
theorem vf{ts:List T}:(ve p ts).length=ts.length:=by simp[ve]
def JO:AV->Bool
 |.one (.c (.el _ _))=>true
 |_=>false
variable{y:Value}
section
variable {P:Program} {w:World} {H:FH} {γ:Gam} {m:Mm}
theorem QK{t:T}{f:Fp}(h:TR w H γ m t f y):Yt t:=by
 cases t with
 |d x=>exact Oj h.2
 |_=>trivial
theorem KU:∀{ts:List T},(∀(i:Nat)(t:T),ts[i]? = some t->Yt t)->QL ts
 |[],_=>trivial
 |t::ts,h=>⟨h 0 t rfl,KU (λi t' a=>h (i+1) t' (by grind))⟩
theorem QM:∀{ds:List D},(∀(i:Nat)(x:D),ds[i]? = some x->okv x)->okvs ds
 |[],_=>trivial
 |x::ds,h=>⟨h 0 x rfl,QM (λi x' hx=>h (i+1) x' (by grind))⟩
theorem lV{p:Nat->Value->Prop}:∀n,(∀j,j<n->∃v,p j v)->∃l:List Value,l.length=n/\∀(j:Nat)(v:Value),l[j]? = some v->p j v
 |0,_=>⟨[],rfl,λj v h=>by simp at h⟩
 |n+1,h=>by
  obtain⟨l,h1,h2⟩:=lV n (λj hj=>h j kQ1);obtain⟨v,hv⟩:=h n kQ1;refine⟨l++[v],by simp[h1],λj a hj=>?_⟩
  grind
theorem AF{F:Nm->Fp}(hm:Mem w H γ m F)(h:uJ P m t x k)(hx:AR w H γ m x u) :
  ∃z d,∃B:Nat->Prop,(JO x=true->∀b,B b->∃o y,H b o=some y)/\(∀w2:World,(∀b,B b->w2.heap[b]? = w.heap[b]?)->(Instr.loadAt t u).run P w2=.ok z w2)/\AR w H γ m d z/\k d:=by
 obtain⟨J,h⟩:=h;obtain⟨it,d,hit,hd,G,aa,_⟩:=jG J;have V:(ty P t).size=P.cellsOf t:=mu J
 match x,h with
 |.one (.c (.el row o)),h=>
  obtain⟨hz,b,o',q,rfl,n⟩:=hx;have cell:∀j,j<row.length->∃y,w.cell? ⟨b,o'+j,none⟩=some y/\FD H q (row.getD j default) y:=λj hj=>by obtain⟨y,h1,h2⟩:=n j hj;exact⟨y,hm.agree _ _ _ h1,h2⟩
  have E:∀j,j<row.length->b=b/\∃o y,H b o=some y:=λj hj=>by obtain⟨y,h1,h2⟩:=n j hj;grind
  have I:JO (.one (.c (.el row o)))=true->∀c,(c=b/\∃o y,H b o=some y)->∃o y,H c o=some y:=λ_ c⟨e,h⟩=>by grind
  dsimp only at h;split at h
  .rename_i ha;rw[ha]at G;obtain⟨hl,h⟩:=h;obtain⟨us,S,A⟩:=lV (p:=λj v=>w.cell? ⟨b,o'+o+j,none⟩=some v/\FD H q (row.getD (o+j) default) v) (ty P t).size (λj hj=>by grind)
   have X:((row.drop o).take (ty P t).size).length=(ty P t).size:=by grind
   have s:∀(j:Nat)(x:D),((row.drop o).take (ty P t).size)[j]? = some x->∃v,us[j]? = some v/\FDx H x v:=by
    intro j x hj;have N:j < (ty P t).size:=by grind
    rw[amO N,amW]at hj;have R:us[j]? = some (us[j]' kQ1):=akQ kQ1
    refine⟨_,R,q,?_⟩
    grind
   refine⟨.agg us.toArray,.one (.agg (((row.drop o).take (ty P t).size).map T.d)),λc=>c=b/\∃o y,H b o=some y,I,?_,⟨us.toArray,rfl,by grind,?_⟩,h (QM (λi x hx=>?_))⟩
   .intro w2 g;exact nM hd (by grind) hit kQ1 (λj v hv=>(dJ (g b (E (o+j) (by grind)))).trans (A j v hv).1)
   .refine ua (by grind) (λi t' K=>?_);simp only[akT,ak5]at K;obtain⟨x,hx,rfl⟩:=K;obtain⟨v,ab,M⟩:=s i x hx;exact⟨v,by omega,λ_=>rfl,M⟩
   grind [Oj]
  rename_i ha;have C:uc d=false:=by grind
  cases hr:row[o]? with
  |none=>grind
  |some x=>rw[hr]at h;obtain⟨y,h1,h2⟩:=cell o (bT hr);rw[List.getD,hr]at h2;exact⟨y,sc x,λc=>c=b/\∃o y,H b o=some y,I,λw2 g=>nN hd C ((dJ (g b (E o (bT hr)))).trans h1),⟨λ_=>rfl,q,h2⟩,h (Oj ⟨q,h2⟩)⟩
 |.one (.c (.pl p)),h=>
  obtain⟨hz,l,a,ha,rfl⟩:=hx;obtain⟨b,o,rfl⟩:=ql hm l ha;dsimp only at h;split at h
  .rename_i r;rw[r]at G;obtain⟨ts,W,L,U⟩:=Mv hm l h;obtain⟨us,S,A⟩:=lV (p:=λj v=>w.cell? ⟨b,o+j,none⟩=some v/\∀t',ts[j]? = some t'->TR w H γ m (Cr (p.add j) t') (λ_=>0) v/\∃f,TR w H γ m t' f v) (ty P t).size (λj hj=>by
    have Q:ts[j]? = some (ts[j]' kQ1):=akQ kQ1
    obtain⟨g1,g2⟩:=U j _ Q;obtain⟨v,v1,O,v3,v4⟩:=rD hm g2 g1;refine⟨v,O _ (yv ha),λt' Y=>?_⟩
    grind)
   refine⟨.agg us.toArray,.one (.agg (ve p ts)),λc=>c=b,λh=>(by simp[JO]at h),?_,⟨us.toArray,rfl,by grind [vf],?_⟩,L (KU (λi t' K=>?_))⟩
   .intro w2 g;exact nM hd (by grind) hit kQ1 (λj v hv=>(dJ (g b rfl)).trans (A j v hv).1)
   .refine ua (by grind [vf]) (λi t' K=>?_);obtain⟨t2,h2,rfl⟩:=Uz K;have hi:i<us.length:=by grind
    simp_all
   have hi:i<us.length:=by grind
   have Z:us[i]? = some us[i]:=akQ hi
   grind [QK]
  rename_i r;have C:uc d=false:=by grind
  obtain⟨ts,W,L,U⟩:=Mv hm l h
  match ts,W with
  |[t'],_=>obtain⟨g1,g2⟩:=U 0 t' rfl;rw[add_zero]at g1 g2;obtain⟨v,v1,O,v3,f,v4⟩:=rD hm g2 g1;exact⟨v,.one (.c (Cr p t')),λc=>c=b,λh=>(by simp[JO]at h),λw2 g=>nN hd C ((dJ (g b rfl)).trans (O _ ha)),v3,L (QK v4)⟩
theorem S6(h:wh P t x i k)(hx:AR w H γ m x u) :
  ∃z d,(∀w:World,(Instr.field t u i).run P w=.ok z w)/\AR w H γ m d z/\k d:=by
 unfold wh at h;cases hk:(ty P t).k with
 |st fs=>
  rw[hk]at h
  match x,h with
  |.one (.agg ts),h=>
   obtain⟨_,d,_,hd,r,_⟩:=aT hk (by simp);obtain⟨e,rfl,rfl⟩:=afP r;obtain⟨us,rfl,s,n⟩:=hx;dsimp only at h;cases hf:(e.toList.map λf=>(f.offset,P.cellsOf f.type,Wf P f.type))[i]? with
   |none=>grind
   |some q=>
    obtain⟨off,size,g⟩:=q;rw[hf]at h;simp only[akT,ak5,Prod.mk.injEq]at hf;obtain⟨f,p,rfl,rfl,b⟩:=hf;have j:e[i]? = some f:=by grind
    have a:∀w:World,(Instr.field t (.agg us) i).run P w=(part f.type us f.offset).run P w:=by intro w;simp only[Instr.field,Sem.run_bind,run_underlying hd,Result.andThen_ok,j];rfl
    simp only[a];have hus:us=us.toList.toArray:=by simp
    cases g with
    |none=>grind
    |some g=>
    simp only[Wf,ak5]at b;obtain⟨y,h1,h2⟩:=b;cases g with
    |false=>
     dsimp only at h;cases o:ts[f.offset]? with
     |none=>grind
     |some t'=>rw[o]at h;obtain⟨v,hv,l⟩:=EB n o;refine⟨v,.one (.c t'),?_,l,h⟩;intro w;rw[hus];grind [jg]
    |true=>
     obtain⟨hl,h⟩:=h;obtain⟨it,h3⟩:=E6 h1;refine⟨.agg ((us.toList.drop f.offset).take (P.cellsOf f.type)).toArray,.one (.agg ((ts.drop f.offset).take (P.cellsOf f.type))),?_,⟨_,rfl,?_,?_⟩,h⟩
     .intro w;rw[hus];grind [mL]
     all_goals grind [ua,EB]
 |_=>grind
end
def T.sure:T->Bool
 |.any=>false
 |.d .any=>false
 |_=>true
def ff:AV->Option (List T)
 |.one (.c t)=>some [t]
 |.one (.agg ts)=>some ts
 |_=>none
variable{α:Type}
def overw(ts:List α)(off:Nat)(cs:List α):List α:=ts.take off++cs++ts.drop (off+cs.length)
def jX(pl:Nat->Option (Nat×Nat)):List T->List (Nat×AV)->Option (List T)
 |ts,[]=>some ts
 |ts,(i,x)::r=>match pl i,ff x with
  |some (off,size),some cs=>if cs.length=size/\off+cs.length<=ts.length/\cs.all T.sure=true then jX pl (overw ts off cs) r else none
  |_,_=>none
def zst(P:Program)(t:TypeId):Option (List Value×List (Nat×Nat)):=
 match P.info? t,P.underlying t with
 |some it,some (.struct b)=>match it.zero,b.toList.mapM (λf=>(P.info? f.type).map λi=>(f.offset,i.size))with
  |some z,some a=>if z.cells.all okT=true then some (z.cells.toList,a)else none
  |_,_=>none
 |some it,some (.array N e)=>match it.zero,P.info? e with
  |some z,some c=>if z.cells.all okT=true then some (z.cells.toList,(List.range N).map λi=>(i*c.size,c.size))else none
  |_,_=>none
 |_,_=>none
theorem Do{f g:Nat->Option (Nat×Nat)}(a:∀i q,f i=some q->g i=some q):∀{ps:List (Nat×Value)}{cs r:Array Value},Instr.fill f cs ps=some r->Instr.fill g cs ps=some r
 |[],_,_,h=>h
 |(i,v)::ps,cs,r,h=>by
  simp only[Instr.fill]at h|-;cases hf:f i with
  |none=>grind
  |some q=>
   rw[hf]at h;rw[a _ _ hf];dsimp only at h|-;split at h
   .cases h
   rename_i hc;rw[if_neg hc];exact Do a h
def sJ(P:Program)(t:TypeId)(b:List (Nat×AV))(k:AV->Prop):Prop:=
 match zst P t with
 |some (zs,a)=>match jX (a[·]?) (zs.map rQ) b with
  |some ts=>k (.one (.agg ts))
  |none=>False
 |none=>False
theorem Dq:∀(cs:List Value)(j:Nat)(off:Nat)(b:Array Value)(i:Nat),
  ((cs.zipIdx j).foldl (λa(x:Value×Nat)=>a.setIfInBounds (off+x.2) x.1) b)[i]? =
   if off+j<=i/\i<off+j+cs.length/\i<b.size then cs[i-off-j]? else b[i]?
 |[],j,off,b,i=>by grind [List.zipIdx_nil]
 |c::cs,j,off,b,i=>by
  rw[List.zipIdx_cons,anC,Dq cs (j+1) off _ i]
  grind
theorem Ab:∀(cs:List Value)(j:Nat)(off:Nat)(b:Array Value),
  ((cs.zipIdx j).foldl (λa(x:Value×Nat)=>a.setIfInBounds (off+x.2) x.1) b).size=b.size
 |[],j,off,b=>rfl
 |c::cs,j,off,b=>by rw[List.zipIdx_cons,anC,Ab cs (j+1) off _];simp
variable{cs ts:List α}
section
variable {P:Program} {w:World} {H:FH} {γ:Gam} {m:Mm}
theorem vr{F:Nm->Fp}(hm:Mem w H γ m F){t:T}{f:Fp}(h:TR w H γ m t f y)(hs:t.sure=true):pi y=true:=by
 have ow:∀{k:Nat}{sub:List Sh}{l:List (List D)}{g:Fp},OD w H k (.ow sub) (.li l) g y->pi y=true:=by
  intro k sub l g h;cases k with
  |zero=>simp[OD]at h
  |succ k=>obtain⟨a,c,_,_,rfl,_⟩:=mU h;rfl
 cases t with
 |d x=>
  cases x with
  |int k n=>obtain⟨rfl,_⟩:=fJ h.2;rfl
  |bool b=>obtain rfl:=jh h.2;rfl
  |str l=>obtain⟨rfl,_⟩:=ia h.2;rfl
  |li l=>obtain⟨a,c,rfl,_⟩:=gC h.2;rfl
  |mp l=>obtain⟨b,rfl⟩:=L4 h.2;rfl
  |fn f l=>obtain⟨b,rfl⟩:=Vp h.2;rfl
  |v z=>obtain⟨_,q,h⟩:=h;cases q<;>(obtain⟨rfl,h⟩:=h;exact h)
  |any=>grind [T.sure]
 |nil=>obtain⟨_,rfl⟩:=h;rfl
 |ow sub l=>obtain⟨k,h⟩:=h;grind
 |mp l=>obtain⟨b,es,ck,_,rfl,_⟩:=h;rfl
 |it cur rest=>obtain⟨r,m,a,s,c,rfl,_⟩:=h;rfl
 |el row off=>obtain⟨_,b,o,q,rfl,_⟩:=h;rfl
 |pl p=>obtain⟨_,_,a,_,rfl⟩:=h;rfl
 |rf p=>
  obtain⟨_,hr,hv⟩:=h;have j:=fA hr
  have e:∃x,aU m p=some x/\((∃s l,x=.ow s l)\/(∃l,x=.mp l)\/∃c l,x=.it c l):=by
   obtain⟨r,u,hc⟩:=bV.1 hr;unfold bz at hc
   grind [aU]
  obtain⟨x,e,hx⟩:=e;obtain⟨v,i,_,_,f',v4⟩:=rD hm j e;rw[hv]at i;simp only[akO]at i;subst i;rcases hx with⟨s,l,rfl⟩|⟨l,rfl⟩|⟨c,l,rfl⟩
  .obtain⟨k,v4⟩:=v4
   grind
  .obtain⟨b,es,ck,_,rfl,_⟩:=v4;rfl
  obtain⟨r,m,a,s,c,rfl,_⟩:=v4;rfl
 |any=>grind [T.sure]
theorem SV(h:pi y=true):y.cells=#[y]:=by cases y<;>first|rfl|grind [pi]
theorem yE{F:Nm->Fp}(hm:Mem w H γ m F){cs:List T}(hx:AR w H γ m x v)(hc:ff x=some cs)(hs:cs.all T.sure=true) :
  v.cells.size=cs.length/\Ts (TR w H γ m) cs (λ_=>0) v.cells.toList:=by
 match x,hc with
 |.one (.c t),hc=>
  simp only[ff,akO]at hc;subst hc;have a:pi v=true:=vr hm hx (by grind)
  rw[SV a];exact⟨rfl,v,[],λ_=>0,λ_=>0,rfl,λ_=>rfl,hx,λ_=>rfl⟩
 |.one (.agg ts),hc=>simp only[ff,akO]at hc;subst hc;obtain⟨b,rfl,h1,h2⟩:=hx;exact⟨h1,h2⟩
def PR(w:World)(H:FH)(γ:Gam)(m:Mm):List (Nat×AV)->List (Nat×Value)->Prop
 |[],[]=>True
 |(i,x)::xs,(j,v)::vs=>i=j/\AR w H γ m x v/\PR w H γ m xs vs
 |_,_=>False
theorem Uh{off:Nat}(h:off+cs.length<=ts.length):(overw ts off cs)[i]? = if off<=i/\i<off+cs.length then cs[i-off]? else ts[i]? := by
 unfold overw;have hl:(ts.take off).length=off:=by grind
 grind
theorem wD{off:Nat}(h:off+cs.length<=ts.length):(overw ts off cs).length=ts.length:=by grind [overw]
theorem yq{F:Nm->Fp}(hm:Mem w H γ m F){pl:Nat->Option (Nat×Nat)}:∀(b:List (Nat×AV))(vs:List (Nat×Value))(ts:List T)(us:Array Value)(ts':List T),
  PR w H γ m b vs->us.size=ts.length->Ts (TR w H γ m) ts (λ_=>0) us.toList->jX pl ts b=some ts' ->
  ∃f,Instr.fill pl us vs=some f/\f.size=ts'.length/\Ts (TR w H γ m) ts' (λ_=>0) f.toList:=by
 intro b;induction b with
 |nil=>
  intro vs ts us ts' hp hl n hf;cases vs with
  |cons _ _=>exact hp.elim
  |nil=>simp only[jX,akO]at hf;subst hf;exact⟨us,rfl,hl,n⟩
 |cons z b ih=>
  obtain⟨i,x⟩:=z;intro vs ts us ts' hp hl n hf;cases vs with
  |nil=>exact hp.elim
  |cons z vs=>
   obtain⟨j,v⟩:=z;obtain⟨rfl,hx,hp⟩:=hp;simp only[jX]at hf;cases k:pl i with
   |none=>grind
   |some q=>
    obtain⟨off,size⟩:=q;rw[k]at hf;cases h:ff x with
    |none=>grind
    |some cs=>
     rw[h]at hf;dsimp only at hf;split at hf
     .rename_i g;obtain⟨h1,h2,h3⟩:=g;obtain⟨r,s⟩:=yE hm hx h h3;have d:v.cells.zipIdx.foldl (λcs(c,j)=>cs.setIfInBounds (off+j) c) us=(v.cells.toList.zipIdx.foldl (λa(x:Value×Nat)=>a.setIfInBounds (off+x.2) x.1) us):=by grind [Array.toList_zipIdx]
      have hget:=Dq v.cells.toList 0 off us
      have e:=Ab v.cells.toList 0 off us
      generalize hus:v.cells.toList.zipIdx.foldl (λa(x:Value×Nat)=>a.setIfInBounds (off+x.2) x.1) us=l at d hget e;have p:v.cells.toList.length=cs.length:=by omega
      have o:Ts (TR w H γ m) (overw ts off cs) (λ_=>0) l.toList:=by
       refine ua (by grind [wD]) (λi t u=>?_)
       grind [Uh,EB]
      grind [wD,Instr.fill]
     grind
end
variable{w':World}
theorem Fr.trans{w0 w:World}{H0 H H':FH}{own0 tt tt':Fp}(h:Fr w0 H0 own0 w H tt)(k:Fr w H tt w' H' tt'):Fr w0 H0 own0 w' H' tt':=by
 refine⟨alC h.size k.size,k.os.trans h.os,k.tape.trans h.tape,k.output.trans h.output,λi hi h0=>?_,λb o y hy=>k.hold _ _ _ (h.hold _ _ _ hy),λb o h1 h2=>?_,λb hb=>?_,λb hb=>k.nz.1 b (h.nz.1 b hb),λb o x l c h1 h2=>?_⟩
 .have:tt i=0:=by
   rcases alO (tt i)with h'|h'
   .exact h'
   rcases h.tt i kQ1 with h1|h1<;>omega
  rw[k.block i (by have:=h.size;omega) this];grind [block]
 .by_cases hH:H b o=none
  .rcases k.hnew b o h1 hH with h3|h3
   .exact h.tt b h3
   right;have:=h.size;omega
  exact h.hnew b o hH h2
 .rcases k.tt b hb with h1|h1
  .exact h.tt b h1
  right;have:=h.size;omega
 cases hH:H b o with
 |none=>grind [nz]
 |some y=>
  have:=(k.hold b o y hH).symm.trans h1
  grind [nz,nz]
theorem Fr.refl'{w:World}{H:FH}{tt tt':Fp}(h1:w'.heap=w.heap)(h2:w'.os=w.os)(h3:w'.tape=w.tape)(h4:w'.output=w.output)(h5:∀b,tt' b≠0->tt b≠0):Fr w H tt w' H tt':=⟨by grind,h2,h3,h4,λ_ _ _=>by rw[h1],λ_ _ _ h=>h,λb o h1 h2=>absurd h2 h1,λb hb=>.inl (h5 b hb),λb hb=>hb.of_block (by rw[h1]),λb o x l c h1 h2=>by grind⟩
variable{n:Nm}
section
variable {P:Program} {g:G} {s:S} {a:Act} {w:World} {H:FH} {γ:Gam} {F:Nm->Fp}
theorem j4(h:RX g s a w H γ F){H':FH}{γ':Gam}{m':Mm}{F':Nm->Fp}(hm:Mem w' H' γ' m' F')(hf:Fr w H (tot F s.m) w' H' (tot F' m')){t':List (Nat×AV)}
  (d:∀i,AR w' H' γ' m' (aW t' i) (g.tv a i)) (c:∀j,γ' (.out j)=γ (.out j)):RX g ⟨t',m'⟩ a w' H' γ' F':=⟨hm,h.fr.trans hf,h.nt,⟨h.df.1,λj b e=>(c j).trans (h.df.2.1 j b e),h.df.2.2⟩,d⟩
theorem Ra{γ:Gam}{x:RC}(hno:n.isOut=false)(j:Nat):upd γ n x (.out j)=γ (.out j):=by grind [upd,Nm.isOut]
theorem cW{w:World}{o:Obj}{k:Nat}(h:k<w.heap.size):(w.alloc o).heap[k]? = w.heap[k]? := by
 show(w.heap.push o)[k]? = _
 grind
theorem bw{w:World}{o:Obj}:(w.alloc o).heap[w.heap.size]? = some o:=by
 show(w.heap.push o)[w.heap.size]? = _
 grind
theorem qM{m:Mm}(hm:Mem w H γ m F)(cs:Array Value)(ty:TypeId)(fz:Bool) :
  let w':=w.alloc (.cells cs ty)
  let H':FH:=λb o=>if fz=true/\b=w.heap.size then cs[o]?.map HV.c else H b o
  Mem w' H' γ m F/\Fr w H (tot F m) w' H' (tot F m)/\Keeps w γ m w' γ m/\(∀b o y,H b o=some y->H' b o=some y):=by
 intro w' H';have e:∀b o y,H b o=some y->b<w.heap.size:=λb o y h=>(hm.agree b o y h).lt
 have a:∀b o y,H b o=some y->H' b o=some y:=by grind
 have hold:∀k,k<w.heap.size->w'.heap[k]? = w.heap[k]? := λk hk=>cW hk
 have f:=fj (w':=w') hm (λb hb=>hold b (hm.lt b hb))
 have d:∀x∈m,∀b,F x.1 b≠0->b<w.heap.size:=λx hx b hb=>hm.lt b (by grind [bD])
 refine⟨⟨?_,?_,hm.keys,hm.le1,?_,?_⟩,⟨by simp[w'],rfl,rfl,rfl,λk hk _=>hold k hk,a,?_,λb hb=>.inl hb,λb hb=>hb.of_block (hold b hb.lt),λb o x l c h1 h2=>?_⟩,f,a⟩
 .intro b o y hy;simp only[H']at hy;split at hy
  .rename_i hc;obtain⟨z,g,rfl⟩:=ak5.1 hy;rw[hc.2];show w'.cell? ⟨w.heap.size,o,none⟩=some z
   grind [World.cell?,bw]
  exact(hm.agree b o y hy).frame (hold b (e b o y hy))
 .intro x hx;exact aZ f a rfl (λb hb=>hold b (d x hx b hb)) (hm.roots x hx)
 .intro b hb;have:=hm.lt b hb;grind
 .intro b hb o;have:=hm.lt b hb
  simp only[H'];rw[if_neg kQ1];exact hm.nofz b hb o
 .grind
 simp only[H']at h1;split at h1
 .rename_i hc;rw[hc.2];exact⟨cs,ty,bw⟩
 grind
theorem VV(h:RX g s a w H γ F){n:Nm}(hno:n.isOut=false)(hn:ah s.m n=none){ts:List T}{cs:Array Value}(hl:cs.size=ts.length)(k:Ts (TR w H γ s.m) ts (λ_=>0) cs.toList)(ty:TypeId)(d:∀t,n.tyd=some t->ty=t) :
  ∃γ' F',RX g ⟨s.t,(n,⟨true,ts⟩)::s.m⟩ a (w.alloc (.cells cs ty)) H γ' F'/\γ' n=.blk w.heap.size:=by
 obtain⟨hm,hf,e,p⟩:=qM h.mem cs ty false;simp only[akS,false_and,if_false]at hm hf e p;have c:=mT (w:=w.alloc (.cells cs ty)) (γ:=γ) (rc:=.blk w.heap.size) (r:=⟨true,ts⟩) hn
 have u:tot F s.m w.heap.size=0:=by
  rcases alO (tot F s.m w.heap.size)with h'|h'
  .exact h'
  have:=h.mem.lt w.heap.size kQ1;omega
 have q:∀o,H w.heap.size o=none:=by
  intro o;cases hc:H w.heap.size o with
  |none=>rfl
  |some y=>have:=(h.mem.agree _ _ _ hc).lt;omega
 obtain⟨j,l⟩:=yg hm (n:=n) (rc:=.blk w.heap.size) (r:=⟨true,ts⟩) (f:=λb=>0+if b=w.heap.size then 1 else 0) hn (by
   unfold bv;rw[if_pos rfl];refine⟨w.heap.size,cs,ty,(0,0),λ_=>0,dZ,bw,⟨rfl,d⟩,hl,?_,λ_=>rfl⟩;exact pE c (λ_ _ _ h=>h) (λ_ hb=>absurd rfl hb) (pE e (λ_ _ _ h=>h) (λ_ hb=>absurd rfl hb) k))
  (λb=>by grind [Mem.le1])
  (λb hb=>by simp_all)
 refine⟨_,_,j4 h j ?_ (λi=>dw c (λ_ _ _ h=>h) (dw e (λ_ _ _ h=>h) (h.t i))) (Ra hno),dZ⟩;refine⟨hf.size,hf.os,hf.tape,hf.output,hf.block,hf.hold,hf.hnew,λb hb=>?_,hf.nz⟩
 grind
theorem dR(h:RX g s a w H γ F){n:Nm}(hno:n.isOut=false)(hn:ah s.m n=none){t:T}{f:Fp}(l:TR w H γ s.m t f v)(hd:∀b,tot F s.m b+f b<=1)(hl:∀b,f b≠0->b<w.heap.size/\∀o,H b o=none)
  (hnew:∀b,f b≠0->g.own0 b≠0\/g.w0.heap.size<=b) :
  ∃γ' F',RX g ⟨s.t,(n,⟨false,[t]⟩)::s.m⟩ a w H γ' F'/\γ' n=.gh v:=by
 have c:=mT (w:=w) (γ:=γ) (rc:=.gh v) (r:=⟨false,[t]⟩) hn
 obtain⟨k,d⟩:=yg h.mem (n:=n) (rc:=.gh v) (r:=⟨false,[t]⟩) (f:=f) hn (by unfold bv;rw[if_neg (by simp)];exact⟨v,t,dZ,rfl,jk c (λ_ _ _ h=>h) (λ_ _=>rfl) l⟩) hd hl
 refine⟨_,_,⟨k,?_,h.nt,⟨h.df.1,λj b e=>(Ra hno j).trans (h.df.2.1 j b e),h.df.2.2⟩,λi=>dw c (λ_ _ _ h=>h) (h.t i)⟩,dZ⟩;refine⟨h.fr.size,h.fr.os,h.fr.tape,h.fr.output,h.fr.block,h.fr.hold,h.fr.hnew,λb hb=>?_,h.fr.nz⟩;rw[d]at hb;by_cases hf:f b=0
 .exact h.fr.tt b kQ1
 grind
end
def iz(sub:List Sh)(l:List (List D))(t:T):List Step->(List (List D)->Prop)->Prop
 |[],_=>False
 |[st],k=>match l[st.idx]? with
  |some x=>match sub[st.off]?,x[st.off]? with
   |some .fr,some _=>pW .fr t/\k (l.set st.idx (x.set st.off t.toD))
   |some (.ow s),some .any=>pW (.ow s) t/\k (l.set st.idx (x.set st.off t.toD))
   |_,_=>False
  |none=>False
 |st::b::r,k=>match l[st.idx]? with
  |some x=>match sub[st.off]?,x[st.off]? with
   |some (.ow s),some (.li l')=>iz s l' t (b::r) λa=>k (l.set st.idx (x.set st.off (.li a)))
   |_,_=>False
  |none=>False
def tf(m:Mm)(p:Pl)(t:T)(k:Mm->Prop):Prop:=
 match ah m p.root with
 |none=>False
 |some r=>match p.path,r.cells[p.off]? with
  |[],some t0=>t0.owned=false/\k (cz m p.root { r with cells:=r.cells.set p.off t })
  |st::q,some (.ow sub l)=>iz sub l t (st::q) λl'=>k (cz m p.root { r with cells:=r.cells.set p.off (.ow sub l') })
  |_,_=>False
def T.ment(n:Nm):T->Bool
 |.pl p=>decide (p.root=n)
 |.rf p=>decide (p.root=n)
 |_=>false
def S.drop(s:S)(n:Nm):S:=⟨nu (bm n) s.t,aM (bm n) (bQ s.m n)⟩
def dG(s:S)(p:Pl):List T->(S->Prop)->Prop
 |[],k=>k s
 |.rf q::ts,k=>match ah s.m q.root with
  |some ⟨false,[.ow sub l]⟩=>q.path=[]/\q.root≠p.root/\(ts.all λt=>!t.ment q.root)=true/\tf (s.drop q.root).m p (.ow sub l) λm'=>dG ⟨(s.drop q.root).t,m'⟩ (p.add 1) ts k
  |_=>False
 |.any::_,_=>False
 |.d .any::_,_=>False
 |t::ts,k=>tf s.m p t λm'=>dG ⟨s.t,m'⟩ (p.add 1) ts k
theorem Zd:∀(p:List Step)(sub:List Sh)(l:List (List D))(t:T)(k:List (List D)->Prop),(∀N,wfO N sub l)->okO sub l p->iz sub l t p k ->
  k (bX sub l t.toD p)/\∃s x,bG sub l p=some (s,x)/\pW s t/\∀s' l',(s,x)≠(.ow s',.li l'):=by
 intro p;induction p with
 |nil=>intro sub l t k _ h;exact h.elim
 |cons st r ih=>
  intro sub l t k e b a;cases r with
  |nil=>
   obtain⟨h1,h2,h3⟩:=b;have hx:l[st.idx]? = some l[st.idx]:=akQ h1
   have f:l.getD st.idx []=l[st.idx]:=by grind
   unfold iz at a;rw[hx]at a;dsimp only at a;cases hs:sub[st.off]? with
   |none=>grind
   |some s=>
    rw[hs]at a;cases hd:(l[st.idx])[st.off]? with
    |none=>grind
    |some d=>
     rw[hd]at a;have c:(l.getD st.idx []).getD st.off default=d:=by grind
     cases s with
     |fr=>refine⟨by grind [bX],.fr,d,by grind [bG],a.1,λs' l' h=>by simp at h⟩
     |ow s=>
      cases d with
      |any=>exact⟨by grind [bX],.ow s,.any,by grind [bG],a.1,λs' l' h=>by simp at h⟩
      |_=>grind
  |cons g u=>
   obtain⟨⟨h1,h2,h3⟩,b⟩:=b;have hx:l[st.idx]? = some l[st.idx]:=akQ h1
   have f:l.getD st.idx []=l[st.idx]:=by grind
   unfold iz at a;rw[hx]at a;dsimp only at a;cases hs:sub[st.off]? with
   |none=>grind
   |some s=>
    rw[hs]at b a;cases s with
    |fr=>grind
    |ow s=>
     cases hd:(l[st.idx])[st.off]? with
     |none=>grind
     |some d=>
      have c:(l.getD st.idx []).getD st.off default=d:=by grind
      rw[c]at b;rw[hd]at a;cases d with
      |li l'=>
       dsimp only at a b;obtain⟨k1,s1,i,k2,k3,k4⟩:=ih s l' t _ (λN=>(e (N+1)).2 st.idx st.off s l' hs c) b a
       grind [bX,bG]
      |_=>grind
section
variable {P:Program} {g:G} {s:S} {a:Act} {w:World} {H:FH} {γ:Gam} {F:Nm->Fp}
theorem adJ{m:Mm}(hm:Mem w H γ m F)(b:bU m p){t:T}{k:Mm->Prop}(h:tf m p t k) :
  k (bk m p t)/\∃t0,aU m p=some t0/\t0.owned=false/\(p.path=[]\/∃s,adX m p=some s/\pW s t):=by
 obtain⟨r,h1,h2⟩:=ay.1 b;obtain⟨nm,off,path⟩:=p;dsimp only at h1 h2;unfold tf at h;rw[h1]at h;dsimp only at h;cases path with
 |nil=>grind [bk,aU]
 |cons st u=>
  dsimp only[aS]at h2;cases c:r.cells[off]? with
  |none=>grind
  |some t0=>
   rw[c]at h2 h;cases t0 with
   |ow sub l=>
    dsimp only at h2 h;have a:∀N,wfO N sub l:=by
     intro N;obtain⟨v,g,_,⟨k,d⟩,_⟩:=eE (hm.roots _ (aj h1)) c
     grind [Eu]
    obtain⟨k1,s,x,k2,k3,k4⟩:=Zd (st::u) sub l t _ a h2 h;refine⟨by grind [bk],mkT s x,?_,?_,.inr ⟨s,by grind [adX],k3⟩⟩
    .simp only[aU,h1,c,k2];cases s with
     |fr=>rfl
     |ow s'=>cases x<;>rfl
    cases s with
    |fr=>rfl
    |ow s'=>cases x with
     |li l'=>grind
     |_=>rfl
   |_=>grind
theorem Dz:aW (s.drop n).t i=(aW s.t i).kill (bm n):=oE _ _ _
theorem ad6{m:Mm}{r:Root}(hn:ah m n=some r)(b:Nat):tot F (bQ m n) b+F n b=tot F m b:=by induction m<;>grind [ah,bQ,eY]
theorem Ir(h:RX g s a w H γ F)(hn:ah s.m n=some ⟨false,[.ow sub l]⟩) :
  ∃v f,γ n=.gh v/\(∀m',TR w H γ m' (.ow sub l) f v)/\RX g (s.drop n) a w H γ F/\(∀b,tot F (s.drop n).m b+f b<=tot F s.m b):=by
 have hr:=h.mem.roots _ (aj hn)
 unfold bv at hr;dsimp only at hr;rw[if_neg (by simp)]at hr;obtain⟨v,t,h1,h2,h3⟩:=hr;simp only[List.cons.injEq,and_true]at h2;subst h2;have c:∀b,tot F (s.drop n).m b+F n b<=tot F s.m b:=by
  intro b;have:tot F (s.drop n).m b=tot F (bQ s.m n) b:=bg
  grind [ad6]
 refine⟨v,F n,h1,λ_=>h3,⟨Es h.mem n,?_,h.nt,h.df,λi=>?_⟩,c⟩
 .refine⟨h.fr.size,h.fr.os,h.fr.tape,h.fr.output,h.fr.block,h.fr.hold,h.fr.hnew,λb hb=>h.fr.tt b ?_,h.fr.nz⟩
  grind
 rw[Dz];exact tM eD (λ_ _ _ h=>h) (h.t i)
theorem tY(h:RX g s a w H γ F)(n:Nm):RX g (s.drop n) a w H γ F:=by
 refine⟨Es h.mem n,?_,h.nt,h.df,λi=>?_⟩
 .refine⟨h.fr.size,h.fr.os,h.fr.tape,h.fr.output,h.fr.block,h.fr.hold,h.fr.hnew,λb hb=>h.fr.tt b ?_,h.fr.nz⟩;have e:tot F (s.drop n).m b=tot F (bQ s.m n) b:=bg
  grind [gp]
 rw[Dz];exact tM eD (λ_ _ _ h=>h) (h.t i)
theorem V2(h:RX g s a w H γ F)(f:bU s.m p){b k:Nat}(D:plA w γ p=some ⟨b,k,none⟩){t:T}{K:Mm->Prop}(M:tf s.m p t K)
  {ft:Fp} {y:Value} (L:TR w H γ s.m t ft y) (u:pi y=true) (hd:∀c,tot F s.m c+ft c<=1) (hl:∀c,ft c≠0->c<w.heap.size/\∀o,H c o=none)
  (hnew:∀c,ft c≠0->g.own0 c≠0\/g.w0.heap.size<=c) :
  (∃z,w.cell? ⟨b,k,none⟩=some z)/\w.frozen? ⟨b,k,none⟩=false/\∃m' F',K m'/\RX g ⟨s.t,m'⟩ a (w.setCell ⟨b,k,none⟩ y) H γ F'/\Keeps w γ s.m (w.setCell ⟨b,k,none⟩ y) γ m' /\
   (∀c,tot F' m' c=tot F s.m c+ft c):=by
 obtain⟨k1,t0,k2,k3,k4⟩:=adJ h.mem f M;obtain⟨G,I,J⟩:=Ru h.mem f k2 k3 D L u k4 hd hl;have hw:∀a,a≠(⟨b,k,none⟩:Addr)->(w.setCell ⟨b,k,none⟩ y).cell? a=w.cell? a:=λa ha=>World.cell?_setCell_other _ _ _ _ (λe=>ha e.symm)
 have v:=xj h.mem f k2 k3 (t:=t) D hw
 obtain⟨A,B,_⟩:=ay.1 f;have E:=(A6 h.mem f D).1
 dsimp only at E;have r:∀c,tot (λn c=>F n c+if n=p.root then ft c else 0) (bk s.m p t) c=tot F s.m c+ft c:=by
  intro c;have:bk s.m p t=cz s.m p.root { A with cells:=match p.path with
    |[]=>A.cells.set p.off t
    |st::q=>match A.cells[p.off]? with
     |some (.ow sub l)=>A.cells.set p.off (.ow sub (bX sub l t.toD (st::q)))
     |_=>A.cells }:=by grind [bk]
  rw[this,dH,Gk h.mem.keys B]
 have C:tot F s.m b≠0:=by have:=bD (F:=F) (aj B) b;grind
 refine⟨G,I,bk s.m p t,_,k1,⟨J,?_,h.nt,h.df,λi=>dw v (λ_ _ _ h=>h) (h.t i)⟩,v,r⟩;refine⟨by simp only[World.size_setCell];exact h.fr.size,h.fr.os,h.fr.tape,h.fr.output,λj hj h0=>?_,h.fr.hold,h.fr.hnew,λc hc=>?_,λc h0=>(h.fr.nz.1 c h0).setCell,λc o x l d h1 h2=>(h.fr.nz.2 c o x l d h1 h2).setCell⟩
 .rw[jM]
  .exact h.fr.block j hj h0
  intro e;subst e;rcases h.fr.tt j C with h1|h1
  all_goals omega
 rw[r]at hc;by_cases hf:ft c=0
 .exact h.fr.tt c kQ1
 grind
end
theorem xX:∀(p:List Step)(i j:Nat),aV (aV p i) j=aV p (i+j):=by
 intro p;induction p with
 |nil=>intros;rfl
 |cons a b ih=>
  intro i j;cases b with
  |nil=>grind [aV]
  |cons c d=>
   have:=ih i j
   simp only[aV]at this|-;cases hd:aV (c::d) i<;>grind [aV,lO]
theorem Z5(p:Pl)(i j:Nat):(p.add i).add j=p.add (i+j):=by obtain⟨n,o,path⟩:=p;cases path<;>grind [Pl.add,xX,lO]
theorem JS{t:T}(h:t.ment n=false):t.kill (bm n)=t:=by cases t<;>grind [T.ment,T.kill,bm]
def wT(P:Program)(s:S)(t:TypeId)(x v:AV)(k:S->Prop):Prop:=
 match x,ff v with
 |.one (.c (.pl p)),some ts=>(ty P t).ok=true/\ts.length=(ty P t).size/\jc s.m p (ts.length - 1)/\dG s p ts k
 |_,_=>False
section
variable {P:Program} {g:G} {s:S} {a:Act} {w:World} {H:FH} {γ:Gam} {F:Nm->Fp}
theorem ON{b k:Nat}{z:Value}(hv:pi v=true)(hc:w.cell? ⟨b,k,none⟩=some z)(hf:w.frozen? ⟨b,k,none⟩=false) :
  (store ⟨b,k,none⟩ v).run P w=.ok () (w.setCell ⟨b,k,none⟩ v):=by
 cases v<;>first|(simp[pi]at hv;done)|grind [store,Sem.run]
theorem OZ:∀(ts:List T)(vs:List Value)(s:S)(w:World)(γ:Gam)(F:Nm->Fp)(p:Pl)(b k0 i:Nat)(K:S->Prop),RX g s a w H γ F ->
  (∀j,j<ts.length->bU s.m (p.add j)/\plA w γ (p.add j)=some ⟨b,k0+i+j,none⟩)->vs.length=ts.length->Ts (TR w H γ s.m) ts (λ_=>0) vs->dG s p ts K ->
  ∃s' w' γ' F',(storeCells ⟨b,k0,none⟩ vs i).run P w=.ok () w'/\K s'/\RX g s' a w' H γ' F':=by
 intro ts;induction ts with
 |nil=>
  intro vs s w γ F p b k0 i K h _ hl _ A;cases vs with
  |nil=>exact⟨s,w,γ,F,rfl,A,h⟩
  |cons _ _=>grind
 |cons t ts ih=>
  intro vs s w γ F p b k0 i K h G hl ab A;cases vs with
  |nil=>grind
  |cons v vs=>
  obtain⟨v',r,f1,f2,hv,hf,I,y⟩:=ab;simp only[List.cons.injEq]at hv;obtain⟨rfl,rfl⟩:=hv;have R:f1=λ_=>0:=by grind
  have ae:f2=λ_=>0:=by grind
  subst R;subst ae;obtain⟨M,L⟩:=G 0 (by simp);rw[add_zero]at M L;simp only[anK]at L;have Z:∀(s1:S)(F1:Nm->Fp)(t1:T)(ft:Fp)(Q:S->Prop),RX g s1 a w H γ F1->(∀j,j < (t::ts).length->bU s1.m (p.add j)/\plA w γ (p.add j)=some ⟨b,k0+i+j,none⟩) ->
    TR w H γ s1.m t1 ft v->pi v=true->(∀c,tot F1 s1.m c+ft c<=1)->(∀c,ft c≠0->c<w.heap.size/\∀o,H c o=none)->(∀c,ft c≠0->g.own0 c≠0\/g.w0.heap.size<=c) ->
    Ts (TR w H γ s1.m) ts (λ_=>0) vs->tf s1.m p t1 (λm'=>dG ⟨s1.t,m'⟩ (p.add 1) ts Q) ->
    ∃s' w' γ' F',(storeCells ⟨b,k0,none⟩ (v::vs) i).run P w=.ok () w'/\Q s'/\RX g s' a w' H γ' F':=by
   intro s1 F1 t1 ft Q h1 J V B hd U hnew N hp;obtain⟨D,C⟩:=J 0 (by simp);rw[add_zero]at D C;simp only[anK]at C;obtain⟨⟨z,c1⟩,c2,m',F',c3,c4,c5,_⟩:=V2 h1 D C hp V B hd U hnew;obtain⟨s',w',γ',aj,e1,e2,e3⟩:=ih vs ⟨s1.t,m'⟩ (w.setCell ⟨b,k0+i,none⟩ v) γ F' (p.add 1) b k0 (i+1) Q c4 (λj hj=>by grind [Z5,Keeps.pl]) (by grind) (pE c5 (λ_ _ _ h=>h) (λ_ hb=>absurd rfl hb) N) c3
   grind [storeCells,Sem.run_bind,eN,ON,Result.andThen_ok]
  have le:=λc=>h.mem.le1 c
  have k:t.sure=true->t.owned=false->(∀q,t≠.rf q)->tf s.m p t (λm'=>dG ⟨s.t,m'⟩ (p.add 1) ts K)->∃s' w' γ' F',(storeCells ⟨b,k0,none⟩ (v::vs) i).run P w=.ok () w'/\K s'/\RX g s' a w' H γ' F':=by intro hs _ _ hp;exact Z s F t (λ_=>0) K h G I (vr h.mem I hs) (λc=>by grind) (λc hc=>absurd rfl hc) (λc hc=>absurd rfl hc) y hp
  cases t with
  |rf q=>
   obtain⟨n,o,path⟩:=q;simp only[dG]at A;cases hr:ah s.m n with
   |none=>grind
   |some rr=>
    rw[hr]at A;obtain⟨blk,cells⟩:=rr
    match blk,cells,A,hr with
    |false,[.ow sub l],ad,Y=>
     obtain⟨hp,ac,W,O⟩:=ad
     try dsimp only at hp ac W O
     subst hp;obtain⟨u,f,hg,hT,h1,af⟩:=Ir h Y;have X:u=v:=by
      obtain⟨_,ag,ai⟩:=I
      grind [plV,aH]
     subst X;have E:∀c,f c≠0->tot F s.m c≠0:=λc hc=>by grind
     have B:pi u=true:=vr h.mem (hT s.m) rfl
     refine Z (s.drop n) F (.ow sub l) f K h1 (λj hj=>?_) (hT _) B (λc=>by grind) (λc hc=>⟨h.mem.lt c (E c hc),h.mem.nofz c (E c hc)⟩) (λc hc=>h.fr.tt c (E c hc)) ?_ O
     .obtain⟨q1,q2⟩:=G j hj;have aa:(p.add j).root=p.root:=by grind [Pl.add]
      obtain⟨q3,q4⟩:=(eD (w:=w) (γ:=γ) (m:=s.m) (n:=n)).pl (p.add j) (by grind [bm]) q1;exact⟨q3,by omega⟩
     have:=t8 (eD (w:=w) (γ:=γ) (m:=s.m) (n:=n)) (λ_ _ _ h=>h) (λ_ hb=>absurd rfl hb) y
     have e:ts.map (·.kill (bm n))=ts:=by
      rw[ak4 (g:=id)]
      .simp
      grind [JS]
     rw[e]at this;exact this
  |any=>exact A.elim
  |d x=>
   cases x with
   |any=>exact A.elim
   |_=>exact k rfl rfl (λq h=>by simp at h) A
  |nil=>exact k rfl rfl (λq h=>by simp at h) A
  |ow sub l=>refine Z s F (.ow sub l) (λ_=>0) K h G I (vr h.mem I rfl) (λc=>by grind) (λc hc=>absurd rfl hc) (λc hc=>absurd rfl hc) y A
  |mp l=>obtain⟨b',_,_,_,_,_,_,_,h5⟩:=I;exact absurd (h5 b') (by simp)
  |it c l=>obtain⟨b',_,_,_,_,_,_,_,h5⟩:=I;exact absurd (h5 b') (by simp)
  |el row off=>exact k rfl rfl (λq h=>by simp at h) A
  |pl q=>exact k rfl rfl (λq h=>by simp at h) A
theorem UO(h:RX g s a w H γ F){x v:AV}{k:S->Prop}{r l:Value}(f:wT P s t x v k)(hx:AR w H γ s.m x r)(hv:AR w H γ s.m v l) :
  ∃s' w' γ' F',(Instr.storeAt t r l).run P w=.ok () w'/\k s'/\RX g s' a w' H γ' F':=by
 unfold wT at f
 match x,f with
 |.one (.c (.pl p)),f=>
  cases hc:ff v with
  |none=>grind
  |some ts=>
   rw[hc]at f;obtain⟨o,y,n,f⟩:=f;obtain⟨it,d,hit,_⟩:=jG o;obtain⟨D,i,ad,u,rfl⟩:=hx;obtain⟨b,k0,rfl⟩:=ql h.mem i u;have e:l.cells.size=ts.length/\Ts (TR w H γ s.m) ts (λ_=>0) l.cells.toList:=by
    match v,hc with
    |.one (.c t'),hc=>
     simp only[ff,akO]at hc;subst hc;have hs:t'.sure=true:=by
      cases t' with
      |any=>exact f.elim
      |d x=>cases x<;>first|rfl|exact f.elim
      |_=>rfl
     exact yE h.mem (x:=.one (.c t')) hv rfl (by simp[hs])
    |.one (.agg ts'),hc=>simp only[ff,akO]at hc;subst hc;obtain⟨z,rfl,h1,h2⟩:=hv;exact⟨h1,h2⟩
   have q:∀j,j<ts.length->jc s.m p j:=by grind [jc]
   obtain⟨s',w',γ',F',B,A,C⟩:=OZ (P:=P) ts l.cells.toList s w γ F p b k0 0 k h (λj hj=>⟨AX i (q j hj),by rw[yv u];rfl⟩) (by grind) e.2 f
   grind [Instr.storeAt,Instr.sureAddr,Sem.run_bind,Result.andThen_ok,storeVar,cv,mu]
end
end Go.Am
end
